/- Hashes that a maker makes: the plain law. -/
import Derived.Test.YtiikiamdbelbjaaGpo
import Derived.Test.YtiikiamdbelbjaaProg
import Derived.KernelRfl
set_option linter.unusedVariables false
set_option linter.unusedSimpArgs false
set_option maxRecDepth 10000
open Go Go.Proofs.Ytiikiamdbelbjaa.E Go.Proofs
namespace Go.Proofs.Ytiikiamdbelbjaa.E.M
def frS : List Int → Mk → Mk
  | [], m => m
  | v :: V, m => frS V (freshM m v)
def ixS : List Int → Nat → List Int
  | [], _ => []
  | _ :: V, n => (n : Int) :: ixS V (n + 1)
theorem ixS_len : ∀ (V : List Int) (n : Nat), (ixS V n).length = V.length
  | [], _ => rfl
  | _ :: V, n => by simp [ixS, ixS_len V]
theorem rAdd_mod (a b : Int) : rAdd (a % 288230376287764481) b = rAdd a b := by unfold rAdd; omega
theorem rAdd_mod2 (a b : Int) : rAdd a (b % 288230376287764481) = rAdd a b := by unfold rAdd; omega
theorem trn_mod (k : Int) : ∀ (n : Nat) (c x : Int), trn (k % 288230376287764481) n c x = trn k n c x
  | 0, _, _ => rfl
  | n + 1, c, x => by simp only [trn, rAdd_mod, trn_mod k n]
theorem trn_mod2 (k : Int) (n : Nat) (c x : Int) : trn k (n + 1) c (x % 288230376287764481) = trn k (n + 1) c x := by
  simp only [trn, rAdd_mod]
theorem twoH_mod (a b : Int) : twoH (a % 288230376287764481) b = twoH a b := by
  unfold twoH turnH; rw [trn_mod, rAdd_mod2, rAdd_mod]
theorem twoH_mod2 (a b : Int) : twoH a (b % 288230376287764481) = twoH a b := by
  unfold twoH turnH; rw [trn_mod2, rAdd_mod2]
theorem foldH_mod : ∀ (V : List Int) (h : Int), (V.map fun v => v % 288230376287764481).foldl twoH h = V.foldl twoH h
  | [], _ => rfl
  | v :: V, h => by simp only [List.map_cons, List.foldl_cons, twoH_mod2, foldH_mod V]
theorem valM_at2 {m : Mk} (h : Good m) {v : Int} (v0 : 0 ≤ v) (v1 : v < m.vals.length) : valM m.vals v = gV m.vals v := by rw [valM_g h.ne, isM_of v0 v1]
theorem man_val : ∀ (V : List Int) (m : Mk) (x : Int), Good m → 0 ≤ x → x < m.vals.length → (∀ v ∈ V, 0 ≤ v ∧ v < m.vals.length) → gV (manS V m x).1.vals (manS V m x).2 = (V.map (gV m.vals)).foldl twoH (gV m.vals x)
  | [], m, x, _, _, _, _ => rfl
  | v :: V, m, x, h, x0, x1, hV => by
    obtain ⟨X, l1, y0, y1, hy⟩ := two_law h x v
    have n1 := l1.len
    have hv := hV v (by simp)
    have ih := man_val V _ _ l1.good y0 y1 (fun w hw => by have := hV w (List.mem_cons_of_mem _ hw); omega)
    show gV (manS V _ _).1.vals (manS V _ _).2 = _
    rw [ih, hy, valM_at2 h x0 x1, valM_at2 h hv.1 hv.2]
    simp only [List.map_cons, List.foldl_cons]
    congr 1
    refine List.map_congr_left fun w hw => ?_
    exact l1.g (hV w (List.mem_cons_of_mem _ hw)).2
theorem frS_law : ∀ (V : List Int) {m : Mk}, Good m → Law m (frS V m) (V.map fun v => v % 288230376287764481)
  | [], m, h => Law.refl h
  | v :: V, m, h => by
    have l1 : Law m (freshM m v) [v % 288230376287764481] := ⟨h.fresh v, rfl, AllH.fresh h v⟩
    exact l1.trans (frS_law V (h.fresh v))
theorem ixS_in : ∀ (V : List Int) (n : Nat), ∀ v ∈ ixS V n, (n : Int) ≤ v ∧ v < (n : Int) + V.length
  | [], _, v, hv => by cases hv
  | w :: V, n, v, hv => by
    simp only [ixS] at hv
    rcases List.mem_cons.1 hv with rfl | hv
    · simp only [List.length_cons]; omega
    · have := ixS_in V (n + 1) v hv
      simp only [List.length_cons]; omega
theorem ixS_val : ∀ (V W : List Int), (ixS V W.length).map (gV (W ++ V.map fun v => v % 288230376287764481)) = V.map fun v => v % 288230376287764481
  | [], _ => rfl
  | v :: V, W => by
    have e : W ++ (v :: V).map (fun v => v % 288230376287764481) = (W ++ [v % 288230376287764481]) ++ V.map (fun v => v % 288230376287764481) := by simp
    have ih := ixS_val V (W ++ [v % 288230376287764481])
    rw [List.length_append, List.length_singleton] at ih
    rw [e]
    simp only [ixS, List.map_cons]
    rw [ih, gV_app (by simp; omega), gV_last]
theorem frS_ok {k : Nat} : ∀ (V : List Int) {m : Mk}, Mok (V.length + k) m → Mok k (frS V m)
  | [], m, h => by simpa [frS] using h
  | v :: V, m, h => frS_ok V (Mok.fresh (Mok.mono h (by simp only [List.length_cons]; omega)) v)
abbrev h2 (a b : Int) : Mk := freshM (freshM mk0 a) b
abbrev h3 (a b : Int) : Mk := twoM (h2 a b) 1 2
abbrev h4 (a b : Int) (V : List Int) : Mk := frS V (h3 a b)
abbrev h5 (a b : Int) (V : List Int) : Mk × Int := manE (h4 a b V) (ixS V (h3 a b).vals.length)
theorem tail_law {m : Mk} (h : Good m) (V : List Int) : ∃ X, Law m (manE (frS V m) (ixS V m.vals.length)).1 X ∧ valM (manE (frS V m) (ixS V m.vals.length)).1.vals (manE (frS V m) (ixS V m.vals.length)).2 = manyH V := by
  have l4 := frS_law V h
  have n4 := l4.len
  have v4 := l4.vals
  have hin := ixS_in V m.vals.length
  have hlen := ixS_len V m.vals.length
  have hval := ixS_val V m.vals
  rw [← v4] at hval
  rw [List.length_map] at n4
  generalize frS V m = q at *
  generalize ixS V m.vals.length = W at *
  have l1 := lin_law l4.good (L := [⟨0, W.length⟩]) (by simp)
  have n1 := l1.len
  simp only [List.length_singleton] at n1
  obtain ⟨Y, l5, z0, z1⟩ := man_law W _ q.vals.length l1.good (by omega) (by omega)
  have hz := man_val W _ q.vals.length l1.good (by omega) (by omega) (fun v hv => by have := hin v hv; omega)
  have LL := (l4.trans l1).trans l5
  refine ⟨_, LL, ?_⟩
  show valM (manS W (linM q [⟨0, W.length⟩]) q.vals.length).1.vals (manS W (linM q [⟨0, W.length⟩]) q.vals.length).2 = _
  rw [valM_at2 LL.good z0 z1, hz]
  have e2 : W.map (gV (linM q [⟨0, W.length⟩]).vals) = W.map (gV q.vals) := by
    refine List.map_congr_left fun w hw => ?_
    have := hin w hw
    exact l1.g (by omega)
  rw [e2, hval, foldH_mod, l1.vals, gV_last, ownT_id (by
    intro t ht
    simp only [List.mem_singleton] at ht; subst ht
    exact ⟨Int.le_refl _, by have := l4.good.ne; show (0:Int) < _; omega⟩)]
  unfold manyH
  congr 1
  simp only [lin, l4.good.g0, hlen]
  omega
theorem hash_law (a b : Int) (V : List Int) : Good (h5 a b V).1 ∧ AllH (h5 a b V).1 ∧ valM (h5 a b V).1.vals (twoR (h2 a b) 1 2) = twoH a b ∧ valM (h5 a b V).1.vals (h5 a b V).2 = manyH V := by
  have g2 : Good (h2 a b) := (good0.fresh a).fresh b
  have a2 : AllH (h2 a b) := (AllH.fresh (good0.fresh a) b).2 ((AllH.fresh good0 a).2 allh0)
  have v2 : valM (h2 a b).vals 1 = a % 288230376287764481 ∧ valM (h2 a b).vals 2 = b % 288230376287764481 := ⟨rfl, rfl⟩
  obtain ⟨X, l3, x0, x1, hx⟩ := two_law g2 1 2
  rw [v2.1, v2.2, twoH_mod, twoH_mod2] at hx
  obtain ⟨Y, l5, hy⟩ := tail_law l3.good V
  refine ⟨l5.good, l5.all.2 (l3.all.2 a2), ?_, hy⟩
  have n5 := l5.len
  have := l5.g x1
  rw [valM_at2 l5.good x0 (by rw [n5]; omega), this, hx]
end Go.Proofs.Ytiikiamdbelbjaa.E.M

