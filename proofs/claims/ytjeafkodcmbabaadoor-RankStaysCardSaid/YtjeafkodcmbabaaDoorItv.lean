import Derived.RangeFuncNested
import Derived.RangeFuncBox
import Derived.RangeFuncBound
import Derived.RangeFuncCalls
import Derived.RangeFuncLeaves
import Derived.Shelf.Abstract
import Derived.WalkKit
import Derived.OwnWalkIn
import Derived.TacticsInMore
import Derived.LoopNIn
import Derived.LoopIn
import Derived.Test.YtjeafkodcmbabaaDoorProg
namespace Go.Proofs.YtjeafkodcmbabaaDoor
open Go Go.Proofs Go.RowKit Go.Shelf
set_option linter.unusedVariables false
set_option linter.unusedSimpArgs false
attribute [local go_sem] Oper.semAt_some

/-- A term's two cells. -/
abbrev tm2 (x : Int × Int) : Array Value := #[.int .i64 x.1, .int .u64 x.2]
/-- What has come when k rounds are over. -/
def uptoT {α : Type} (f : Nat → α) (k : Nat) : List α := (List.range k).map f
theorem uptoT_succ {α : Type} (f : Nat → α) (k : Nat) : uptoT f (k + 1) = uptoT f k ++ [f k] := by simp [uptoT, List.range_succ]
theorem uptoT_length {α : Type} (f : Nat → α) (k : Nat) : (uptoT f k).length = k := by simp [uptoT]
theorem uptoT_all (zs : List (Int × Int)) : uptoT (fun j => zs[j]?.getD (0, 0)) zs.length = zs := by
  apply List.ext_getElem
  · simp [uptoT]
  · intro i h1 h2
    simp [uptoT, h2]
theorem uptoT_take (zs : List (Int × Int)) {k : Nat} (hk : k ≤ zs.length) : uptoT (fun j => zs[j]?.getD (0, 0)) k = zs.take k := by
  apply List.ext_getElem
  · simp [uptoT, hk]
  · intro i h1 h2
    have : i < zs.length := by simp [uptoT] at h1; omega
    simp [uptoT, this]

set_option maxRecDepth 100000 in
set_option maxHeartbeats 4000000 in
/-- slices.Values's own function, at terms. -/
theorem tvals1_in (F : Fence) (n : Nat) (hf : F.fn 37) (hro : F.round = none) (hn : 1 ≤ n) (l Bs ob n₀ b off len cap : Nat) (zs : List (Int × Int)) (hreach : len * 16 ≤ 140737488351232) (hb : b < n₀) (J Jx : List (Int × Int) → World → Prop)
    (B : Nat) (hJ : AbidesFrom B J)
    (hY : ∀ pre x W, J pre W → pre.length < len → YieldAt F (n - 1) Tryd.prog l #[.agg (tm2 x)] W fun e W' =>
      (e = .returned (.bool true) ∧ J (pre ++ [x]) W' ∧ Below n₀ W W') ∨ (e = .returned (.bool false) ∧ Jx (pre ++ [x]) W'))
    (W : World) (hn₀ : n₀ ≤ W.heap.size) (hBs : W.cell? ⟨Bs, ob, none⟩ = some (.slice (some ⟨b, off, none⟩) len cap))
    (hc : ∀ j, j < len → W.cell? ⟨b, off + j * 2, none⟩ = some (.int .i64 (zs[j]?.getD (0, 0)).1) ∧ W.cell? ⟨b, off + j * 2 + 1, none⟩ = some (.int .u64 (zs[j]?.getD (0, 0)).2)) (h0 : J [] W) :
    CallsIn F n Tryd.prog 37 #[.func (.yield l) #[] #[], .pointer (some ⟨Bs, ob, none⟩)] W fun e W' => (∃ v, e = .returned v) ∧
      ((∃ ys, ys = uptoT (fun j => zs[j]?.getD (0, 0)) len ∧ J ys W') ∨ (∃ pre, (∃ k, k ≤ len ∧ pre = uptoT (fun j => zs[j]?.getD (0, 0)) k) ∧ Jx pre W')) := by
  refine callsIn_of_wp Tryd.func37 rfl hf ?_ hro
  simp only [Tryd.ntmps37, List.size_toArray, List.length_cons, List.length_nil, Nat.reduceAdd, Nat.reduceSub, Array.replicate_succ, Array.replicate_zero, List.push_toArray, List.append_toArray, List.nil_append, List.cons_append]
  gi_wp2
  gi_loopw [7] (fun i wr => ∃ k : Nat, k ≤ len ∧ i = .int .i64 k ∧ J (uptoT (fun j => zs[j]?.getD (0, 0)) k) wr ∧ Below n₀ W wr ∧ n₀ ≤ wr.heap.size)
    (fun i _ => len - (intOf i).toNat)
  case atStart => exact ⟨0, Nat.zero_le _, rfl, h0, Below.refl _ _, hn₀⟩
  case round =>
    obtain ⟨k, hk, rfl, hJs, hnx, hsz⟩ := hrel
    by_cases hlt : k < len
    · have hcx := (hnx.cell (p := ⟨b, off + k * 2, none⟩) hb).trans (hc k hlt).1
      have hcy := (hnx.cell (p := ⟨b, off + k * 2 + 1, none⟩) hb).trans (hc k hlt).2
      obtain ⟨W1, hW1⟩ : ∃ W1, wr.alloc (.cells (tm2 (zs[k]?.getD (0, 0))) 41) = W1 := ⟨_, rfl⟩
      have hg : wr.grownBy W1 none := by rw [← hW1]; exact World.grownBy_alloc wr _ none
      have hnx1 : Below n₀ W W1 := by rw [← hW1]; exact hnx.alloc hsz _
      have hsz1 : n₀ ≤ W1.heap.size := by rw [← hW1]; simp; omega
      have hJ1 := hJ _ wr W1 none hJs hg (fun r e => by cases e)
      obtain ⟨fn, tmps, assign, body, hy, hR⟩ := hY _ (zs[k]?.getD (0, 0)) W1 hJ1 (by rw [uptoT_length]; exact hlt)
      subst hW1
      dsimp only [tm2] at hy hR
      gi_wp2
      refine hR.mono ?_
      rintro e W3 (⟨rfl, hJ3, hk3⟩ | ⟨rfl, hJx3⟩)
      · -- THE ROUND GOES ON
        have hk4 := (hnx.alloc hsz _).trans hk3
        gi_wp2
        go_roundw
        case rel => exact ⟨k + 1, by omega, by simp, by rw [uptoT_succ]; exact hJ3, hk4, Nat.le_trans hn₀ hk4.size⟩
        case measure => simp [intOf]; omega
      · gi_wp2
        refine bodyPost_ret (results_none rfl _ _ _) rfl ?_
        exact ⟨⟨_, rfl⟩, .inr ⟨_, ⟨k + 1, by omega, (uptoT_succ _ _).symm⟩, hJx3⟩⟩
    · obtain rfl : k = len := by omega
      gi_wp2
      go_end0
      exact ⟨⟨_, rfl⟩, .inl ⟨_, rfl, hJs⟩⟩

/-- The slice value sv holds the terms zs, in a block below n₀; or it is nil and there are none. -/
def Terms (n₀ : Nat) (W : World) (sv : Value) (zs : List (Int × Int)) : Prop :=
  (∃ base cap, sv = .slice base 0 cap ∧ zs = []) ∨ ∃ b off cap, sv = .slice (some ⟨b, off, none⟩) zs.length cap ∧ b < n₀ ∧ ∀ j, j < zs.length → W.cell? ⟨b, off + j * 2, none⟩ = some (.int .i64 (zs[j]?.getD (0, 0)).1) ∧ W.cell? ⟨b, off + j * 2 + 1, none⟩ = some (.int .u64 (zs[j]?.getD (0, 0)).2)
theorem Terms.below {n₀ : Nat} {A B : World} (h : Below n₀ A B) {sv : Value} {zs : List (Int × Int)} : Terms n₀ A sv zs → Terms n₀ B sv zs
  | .inl e => .inl e
  | .inr ⟨b, off, cap, e, hb, hc⟩ => .inr ⟨b, off, cap, e, hb, fun j hj => ⟨(h.cell (p := ⟨b, off + j * 2, none⟩) hb).trans (hc j hj).1, (h.cell (p := ⟨b, off + j * 2 + 1, none⟩) hb).trans (hc j hj).2⟩⟩

set_option maxRecDepth 100000 in
set_option maxHeartbeats 1000000 in
/-- .. at the nil slice: no round. -/
theorem tvals1_nil_in (F : Fence) (n : Nat) (hf : F.fn 37) (hro : F.round = none) (l Bs ob cap : Nat) (base : Option Addr) (J : List (Int × Int) → World → Prop) (W : World) (hBs : W.cell? ⟨Bs, ob, none⟩ = some (.slice base 0 cap)) (h0 : J [] W) :
    CallsIn F n Tryd.prog 37 #[.func (.yield l) #[] #[], .pointer (some ⟨Bs, ob, none⟩)] W fun e W' => (∃ v, e = .returned v) ∧ J [] W' := by
  refine callsIn_of_wp Tryd.func37 rfl hf ?_ hro
  simp only [Tryd.ntmps37, List.size_toArray, List.length_cons, List.length_nil, Nat.reduceAdd, Nat.reduceSub, Array.replicate_succ, Array.replicate_zero, List.push_toArray, List.append_toArray, List.nil_append, List.cons_append]
  gi_wp2
  gi_loopw [7] (fun i wr => i = .int .i64 0 ∧ J [] wr) (fun _ _ => 0)
  case atStart => exact ⟨rfl, h0⟩
  case round =>
    obtain ⟨rfl, hJs⟩ := hrel
    gi_wp2
    go_end0
    exact ⟨⟨_, rfl⟩, hJs⟩

set_option maxHeartbeats 1000000 in
/-- slices.Values(s): the slice value is boxed; the function value captures the box. -/
theorem tvals_in (F : Fence) (n : Nat) (hf : F.fn 20) (hro : F.round = none) (a : Option Addr) (len cap : Nat) (w : World) :
    CallsIn F n Tryd.prog 20 #[.slice a len cap] w fun e w' => e = .returned (.func (.func 37) #[] #[.pointer (some ⟨w.heap.size, 0, none⟩)]) ∧ w' = w.alloc (.cells #[.slice a len cap] 28) := by
  refine callsIn_of_wp Tryd.func20 rfl hf ?_ hro
  simp only [Tryd.ntmps20, List.size_toArray, List.length_cons, List.length_nil, Nat.reduceAdd, Nat.reduceSub, Array.replicate_succ, Array.replicate_zero, List.push_toArray, List.append_toArray, List.nil_append, List.cons_append]
  gi_wp2
  go_ret
  exact ⟨rfl, rfl⟩

/-- slices.Values(s) hands back a value that gives all of zs, in order; or a part. -/
theorem tvals_stops (F : Fence) (n : Nat) (hf : F.fn 37) (hro : F.round = none) (hn : 1 ≤ n) (Bs ob n₀ : Nat) (sv : Value) (zs : List (Int × Int)) (hreach : zs.length * 16 ≤ 140737488351232) (w : World) (hBs : Bs < w.heap.size) (hn₀ : n₀ ≤ w.heap.size)
    (hc : w.cell? ⟨Bs, ob, none⟩ = some sv) (hI : Terms n₀ w sv zs) :
    SeqStopsK F n Tryd.prog 37 #[.pointer (some ⟨Bs, ob, none⟩)] (fun x : Int × Int => #[Value.agg (tm2 x)]) (Below n₀) (fun ys => ys = zs) (fun pre => pre <+: zs) zs.length w := fun l J Jx W hW hJ _ hY h0 => by
  have hc' := (hW.cell (p := ⟨Bs, ob, none⟩) hBs).trans hc
  rcases hI.below (hW.mono hn₀) with ⟨base, cap, rfl, rfl⟩ | ⟨b, off, cap, rfl, hb, hcs⟩
  · exact (tvals1_nil_in F n hf hro l Bs ob cap base J W hc' h0).mono fun e W' ⟨he, hj⟩ => ⟨he, .inl ⟨_, rfl, hj⟩⟩
  · refine (tvals1_in F n hf hro hn l Bs ob n₀ b off zs.length cap zs hreach hb J Jx _ hJ hY W (Nat.le_trans hn₀ hW.size) hc' hcs h0).mono ?_
    rintro e W' ⟨he, ⟨ys, rfl, hj⟩ | ⟨pre, ⟨k, hk, rfl⟩, hj⟩⟩
    · exact ⟨he, .inl ⟨_, uptoT_all zs, hj⟩⟩
    · exact ⟨he, .inr ⟨_, by rw [uptoT_take zs hk]; exact List.take_prefix _ _, hj⟩⟩
end Go.Proofs.YtjeafkodcmbabaaDoor
