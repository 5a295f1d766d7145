import Derived.Shelf.SlSortCmp.NoneTotal
import Derived.Shelf.SlicesG.Cmp
import Derived.Shelf.Lay
import Derived.Ground.SlgcProg
import Derived.Ground.SlsfProg
import Derived.Test.YtjeafkodcmbabaaDoorItc
namespace Go.Proofs.YtjeafkodcmbabaaDoor
open Go Go.Proofs Go.RowKit Go.Shelf Go.Lib Go.Sort
set_option linter.unusedVariables false
set_option linter.unusedSimpArgs false
shelf_lay_g SlLaysF0.n6 Slsf 6 at Tryd 36 as tmSort
shelf_lay_g SlLaysC2.n5 Slgc 5 at Tryd 22 as tmCmp

def encT (x : Int × Int) : List Value := [.int .i64 x.1, .int .u64 x.2]

set_option maxHeartbeats 1000000 in
theorem tcmp_clo (x y : Int × Int) (W : World) : Calls Tryd.prog 21 #[.agg #[.int .i64 x.1, .int .u64 x.2], .agg #[.int .i64 y.1, .int .u64 y.2]] W fun e w' => e = .returned (.int .i64 (Lib.compareInt x.1 y.1)) ∧ ∃ q os', w' = grow (W.drewN q) os' := by
  have hcon := fun W' => AnyG.cmp_Compare_int tmCmp x.1 y.1 W'
  change ∀ W', Calls Tryd.prog 22 _ _ _ at hcon
  generalize Lib.compareInt x.1 y.1 = r at hcon ⊢
  go_enter Tryd.func21, Tryd.ntmps21
  go_wp2_with (go_at_call 22; refine (hcon _).mono ?_; rintro e w' ⟨rfl, rfl⟩)
  go_ret
  exact ⟨rfl, 0, _, by rw [alloc_eq_grow, alloc_eq_grow, grow_grow]; rfl⟩

theorem tcmp_lays (blk off size : Nat) (w : World) : CmpLays Tryd.prog 21 #[] encT 2 (fun x y => Lib.compareInt x.1 y.1) blk off size w :=
  fun _ _ _ _ x y => tcmp_clo x y _
theorem ltT (x y : Int × Int) : ltOf (fun x y : Int × Int => Lib.compareInt x.1 y.1) x y = decide (x.1 < y.1) := by
  unfold ltOf Lib.compareInt
  by_cases h1 : x.1 < y.1
  · simp [h1]
  · by_cases h2 : y.1 < x.1 <;> simp [h1, h2]
theorem swoT : SWO (ltOf fun x y : Int × Int => Lib.compareInt x.1 y.1) where
  irrefl x := by rw [ltT]; simp
  trans x y z h1 h2 := by rw [ltT] at *; simp at *; omega
  ntrans x y z h1 h2 := by rw [ltT] at *; simp at *; omega

theorem flT_get : ∀ (zs : List (Int × Int)) (j : Nat), j < zs.length * 2 → (flT zs)[j]? = some ((encT (zs.toArray[j / 2]!))[j % 2]!)
  | [], j, h => by simp at h
  | x :: xs, 0, h => by simp [flT, encT]
  | x :: xs, 1, h => by simp [flT, encT]
  | x :: xs, j + 2, h => by
    have ih := flT_get xs j (by simp at h; omega)
    have e1 : (j + 2) / 2 = j / 2 + 1 := by omega
    have e2 : (j + 2) % 2 = j % 2 := by omega
    have e3 : flT (x :: xs) = [.int .i64 x.1, .int .u64 x.2] ++ flT xs := by simp [flT]
    rw [e1, e2, e3, List.getElem?_append_right (by simp)]
    simpa using ih
theorem flT_len (zs : List (Int × Int)) : (flT zs).length = zs.length * 2 := by
  induction zs with
  | nil => rfl
  | cons x xs ih => have e3 : flT (x :: xs) = [.int .i64 x.1, .int .u64 x.2] ++ flT xs := by simp [flT]
                    rw [e3, List.length_append, ih]; simp; omega

theorem sort_block (w : World) (g n : Nat) (d : Array (Int × Int)) (os : Array Obj) (k : Nat) (hk : k < w.heap.size) (hne : k ≠ g) : (sortWorldK encT 2 w g 0 n d os).heap[k]? = w.heap[k]? := by
  have h1 : (putRowK encT 2 (Sort.ahead w n) g 0 d).heap[k]? = w.heap[k]? := by
    simp [putRowK, putRow, mapBlock, Sort.ahead, Array.getElem?_modify, Ne.symm hne]
  have h2 : k < (putRowK encT 2 (Sort.ahead w n) g 0 d).heap.size := by rw [size_putRowK]; exact hk
  show ((putRowK encT 2 (Sort.ahead w n) g 0 d).heap ++ os)[k]? = _
  rw [Array.getElem?_append_left h2, h1]
theorem sort_below (w : World) (g n : Nat) (d : Array (Int × Int)) (os : Array Obj) (n₀ : Nat) (hn : n₀ ≤ g) (hw : n₀ ≤ w.heap.size) : Go.RowKit.Below n₀ w (sortWorldK encT 2 w g 0 n d os) :=
  ⟨rfl, rfl, rfl, size_sortWorldK_c _ _ _ _ _ _ _ _, fun k hk => sort_block w g n d os k (by omega) (by omega)⟩

set_option maxHeartbeats 4000000 in
/-- slices.SortedFunc of slices.Values(s), at terms. -/
theorem tsof_c (Bs ob n₀ : Nat) (sv : Value) (zs : List (Int × Int)) (hlen : zs.length * 16 ≤ 140737488351232) (w : World) (hBs : Bs < w.heap.size) (hn₀ : n₀ ≤ w.heap.size) (hc : w.cell? ⟨Bs, ob, none⟩ = some sv) (hI : Terms n₀ w sv zs) :
    Calls Tryd.prog 19 #[.func (.func 37) #[] #[.pointer (some ⟨Bs, ob, none⟩)], .func (.func 21) #[] #[]] w fun e w' =>
      ∃ v zs', e = .returned v ∧ zs'.Perm zs ∧ zs'.Pairwise (fun a b : Int × Int => a.1 ≤ b.1) ∧ Go.RowKit.Below w.heap.size w w' ∧
        ((v = .slice none 0 0 ∧ zs' = []) ∨ ∃ g cap, v = .slice (some ⟨g, 0, none⟩) zs'.length cap ∧ zs'.length ≤ cap ∧ cap ≤ maxLen ∧ w.heap.size ≤ g ∧ g < w'.heap.size ∧ ∀ (j : Nat) u, (flT zs')[j]? = some u → w'.cell? ⟨g, j, none⟩ = some u) := by
  have hmax : zs.length ≤ maxLen := by simp only [maxLen]; omega
  refine (callsIn_wide (n := 8)).1 ?_
  refine callsIn_of_wp Tryd.func19 rfl trivial ?_ rfl
  simp only [Tryd.ntmps19, List.size_toArray, List.length_cons, List.length_nil, Nat.reduceAdd, Nat.reduceSub, Array.replicate_succ, Array.replicate_zero, List.push_toArray, List.append_toArray, List.nil_append, List.cons_append]
  have hcol := tcol_in Fence.wide 7 trivial trivial rfl (by omega) 37 #[.pointer (some ⟨Bs, ob, none⟩)] trivial (enters_of Tryd.func37 (by kernel_rfl) rfl) zs hmax (by omega) n₀ w hn₀ (tvals_stops Fence.wide 5 trivial rfl (by omega) Bs ob n₀ sv zs hlen w hBs hn₀ hc hI)
  gi_wp2_with (refine ⟨trivial, ?_⟩; gi_at_call 35; refine hcol.mono ?_; rintro e w1 ⟨v, rfl, hrow, hnil, hb⟩)
  rcases hrow.2 with ⟨rfl, h0⟩ | ⟨g, cap, cur, rfl, hg, hgb, hcap, hcm, hcs, htk⟩
  · have hz : zs = [] := hnil.1 rfl
    subst hz
    have hnone := AnyF.slices_SortFunc_none tmSort none 0 (.func (.func 21) #[] #[]) w1
    change Calls Tryd.prog 36 _ _ _ at hnone
    gi_wp2_with (refine ⟨trivial, ?_⟩; gi_at_call 36; refine (callsIn_wide.2 hnone).mono ?_; rintro e w' ⟨rfl, rfl⟩)
    go_ret
    exact ⟨_, [], rfl, List.Perm.refl _, List.Pairwise.nil, hb, .inl ⟨rfl, rfl⟩⟩
  · have hglt : g < w1.heap.size := (Array.getElem?_eq_some_iff.1 hgb).1
    have hgc : ∀ (j : Nat) u, (flT zs)[j]? = some u → w1.cell? ⟨g, j, none⟩ = some u ∧ w1.frozen? ⟨g, j, none⟩ = false := by
      intro j u hj
      rw [← htk, List.getElem?_take] at hj
      split at hj
      · constructor
        · simp [World.cell?, hgb]; simpa using hj
        · simp [World.frozen?, hgb]
      · cases hj
    have hH : HoldsK encT 2 w1 g 0 zs.toArray := by
      intro j hj
      have hj' : j < zs.length * 2 := by simpa [flatK] using hj
      have := hgc j _ (flT_get zs j hj')
      simpa [flatK, hj'] using this
    have hsort := AnyQ.slices_SortFunc tmSort 2 Tryd.isAgg41 Tryd.sizeOf41 encT (fun _ => rfl) (fun x v hv => by simp [encT] at hv; rcases hv with rfl | rfl <;> rfl) (fun x y => Lib.compareInt x.1 y.1) swoT 21 #[] g 0 cap zs.toArray w1 (enters_of Tryd.func21 (by kernel_rfl) rfl) (tcmp_lays g 0 zs.toArray.size w1) hH hglt (by simp; omega)
    change Calls Tryd.prog 36 _ _ _ at hsort
    simp only [List.size_toArray] at hsort
    clear hgc htk
    gi_wp2_with (refine ⟨trivial, ?_⟩; gi_at_call 36; refine (callsIn_wide.2 hsort).mono ?_; rintro e w' ⟨rfl, d', n, os, hp, hs, rfl⟩)
    go_ret
    have hds : d'.size = zs.length := by simpa using hp.1
    have hl' : d'.toList.length = zs.length := by simpa using hds
    have hperm : d'.toList.Perm zs := by
      have h := hp.2.2
      have ht : d'.toList.take zs.length = d'.toList := List.take_of_length_le (by omega)
      simpa [ht] using h
    have hH' := holdsK_sortWorldK_c encT 2 w1 g 0 zs.toArray d' n os hH hglt (by simpa using hds)
    refine ⟨_, d'.toList, rfl, hperm, ?_, hb.trans (sort_below w1 g n d' os _ hg hb.size), .inr ⟨g, cap, by rw [hl']; rfl, by omega, hcm, hg, Nat.lt_of_lt_of_le hglt (size_sortWorldK_c _ _ _ _ _ _ _ _), ?_⟩⟩
    · rw [List.pairwise_iff_getElem]
      intro i j hi hj hij
      have h := hs i j (Nat.zero_le _) hij (by omega)
      rw [ltT] at h
      have hi' : i < d'.size := by omega
      have hj' : j < d'.size := by omega
      simp only [decide_eq_false_iff_not, Int.not_lt] at h
      simpa [hi', hj'] using h
    · intro j u hu
      have hj : j < d'.toList.length * 2 := by rw [← flT_len]; exact (List.getElem?_eq_some_iff.1 hu).1
      have h1 := flT_get d'.toList j hj
      rw [hu] at h1
      have hj2 : j < d'.size * 2 := by simpa using hj
      have h2 := (hH' j (by simpa [flatK] using hj2)).1
      rw [Nat.zero_add] at h2
      rw [h2]
      simp only [Option.some.injEq] at h1
      subst h1
      simp [flatK, hj2]
end Go.Proofs.YtjeafkodcmbabaaDoor
