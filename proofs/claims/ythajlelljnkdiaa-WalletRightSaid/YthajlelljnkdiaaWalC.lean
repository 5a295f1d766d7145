/- The examples at the head of the statements, and that both plans are the same one. -/
import Derived.Test.YthajlelljnkdiaaWalB
import Derived.Test.YthajlelljnkdiaaProg
import Derived.KernelRfl
set_option linter.unusedVariables false
set_option linter.unusedSimpArgs false
set_option maxRecDepth 10000
open Go Go.Proofs.Ythajlelljnkdiaa.E Go.Proofs
namespace Go.Proofs.Ythajlelljnkdiaa.E.M
def mk (v : Int) : H := ⟨v, 0, 0, 0, false⟩
def uc : List Int → List AV
  | [] => []
  | n :: l => u n :: uc l
theorem uc_drop : ∀ {F : List Int} {k : Nat} {x : Int} {r : List Int}, F.drop k = x :: r → (uc F).drop k = u x :: uc r
  | [], k, h, r, e => by simp at e
  | g :: l, 0, h, r, e => by simp at e; obtain ⟨rfl, rfl⟩ := e; rfl
  | g :: l, k + 1, h, r, e => by
    simp only [uc, List.drop_succ_cons]
    exact uc_drop (by simpa using e)
theorem cells_append : ∀ (F G : List H), cells (F ++ G) = cells F ++ cells G
  | [], G => rfl
  | a :: F, G => by simp [cells, cells_append F G]
theorem cells_length : ∀ F : List H, (cells F).length = F.length * 5
  | [] => rfl
  | a :: F => by simp [cells, cells_length F, Nat.add_mul]
theorem obollaw21_held_c {V : List Int} (hL : V.length < 1000000) : Fn Try.prog 10 [.sl V.length (uc V)] [] (fun r _ => r = hs (V.map mk)) := by
  refine Fn.enter Try.func10 Try.ntmps10 rfl (h := ?_)
  have tf := tfv
  repeat refine AW.seq ?_
  refine AW.reg ?_
  iterate 1 refine AOL.s1 (h := ?_)
  refine AOL.nil ?_
  refine AW.kp [0] (h := ?_)
  repeat refine AW.seq ?_
  refine AW.reg ?_
  iterate 1 refine AOL.s1 (h := ?_)
  refine AOL.nil ?_
  refine AW.kp [0, 3] (h := ?_)
  refine AW.born 3 1304 80 5 (.inl rfl) (h := ?_)
  repeat refine AW.seq ?_
  refine AW.reg ?_
  iterate 1 refine AOL.s1 (h := ?_)
  refine AOL.nil ?_
  refine AW.kp [0, 3, 4] (h := ?_)
  repeat refine AW.seq ?_
  refine AW.block ?_
  repeat refine AW.seq ?_
  refine AW.loopK [0, 3, 4] (fun n s => ∃ (k : Nat) (r : List Int) (G : List H), s = ⟨21, [(0, .sl V.length (uc V)), (3, .ref 1304 0 G.length 5), (4, i k)], [(1304, ⟨80, false, cells G⟩)]⟩ ∧ V.drop k = r ∧ k ≤ V.length ∧ n = r.length ∧ (V.take k).map mk = G) V.length ?_ ?_
  · exact ⟨0, V, [], rfl, rfl, Nat.zero_le _, rfl, rfl⟩
  rintro n s ⟨k, r, G, rfl, hr, hkl, rfl, hG⟩
  have hGk : G.length ≤ k := by rw [← hG]; simp; omega
  repeat refine AW.seq ?_
  refine AW.reg ?_
  iterate 4 refine AOL.s1 (h := ?_)
  refine AOL.nil ?_
  refine AW.kp [0, 3, 4, 8] (h := ?_)
  repeat refine AW.seq ?_
  refine AW.cond rfl (fun c_ => ?_) (fun c_ => ?_)
  · cases r with
    | nil => have := drop_nil' hr hkl; simp at c_; omega
    | cons x r =>
    obtain ⟨hr', hlt, hlen⟩ := drop_cons' hr
    have hd := uc_drop hr
    have hk0 : (0:Int) ≤ k := by omega
    have hkl' : (k:Int) < V.length := by omega
    have hw := inc (k := k) (by omega)
    have hic := cells_length G
    have hG1 : cells G ++ [u x, u 0, u 0, i 0, bo false] = cells (G ++ [mk x]) := by rw [cells_append]; rfl
    have hG2 : G.length + 1 = (G ++ [mk x]).length := by simp
    have hb1 : (G ++ [mk x]).length * 40 ≤ 140737488355328 := by rw [← hG2]; omega
    have hb2 : (G ++ [mk x]).length ≤ 4611686018427387904 := by rw [← hG2]; omega
    have hb3 : G.length ≤ 4611686018427387903 := by omega
    have hGs : (V.take (k + 1)).map mk = G ++ [mk x] := by
      rw [List.take_add_one, List.map_append, hG]
      have : V[k]? = some x := by
        have := congrArg (·[0]?) hr
        simpa using this
      rw [this]; rfl
    clear hlen hkl hGk hG
    refine AW.skip ?_
    repeat refine AW.seq ?_
    refine AW.block ?_
    repeat refine AW.seq ?_
    refine AW.reg ?_
    iterate 10 refine AOL.s1 (h := ?_)
    refine AOL.nil ?_
    repeat refine AW.seq ?_
    refine AW.let 1288 (h := ?_)
    refine AW.reg ?_
    iterate 3 refine AOL.s1 (h := ?_)
    refine AOL.nil ?_
    refine ⟨r.length, by simp, k + 1, r, G ++ [mk x], rfl, hr', hlt, rfl, hGs⟩
  have hGf : V.map mk = G := by
    have : r = [] := by
      cases r with
      | nil => rfl
      | cons => obtain ⟨_, h, _⟩ := drop_cons' hr; simp at c_; omega
    have := drop_nil' (this ▸ hr) hkl
    rw [← hG, this, List.take_length]
  clear hG hGk hkl hr
  repeat refine AW.seq ?_
  refine AW.exit ?_
  refine Kseq.ex ?_
  refine Kloop.ex ?_
  refine Kblock.hit ?_
  refine AW.kp [3] (h := ?_)
  refine AW.fz 1304 rfl (fun h => by cases h) (h := ?_)
  have hsub : sub 0 (G.length * 5) (cells G) = cells G := sub_all (by rw [cells_length]; exact Nat.le_refl _)
  rw [hsub]
  repeat refine AW.seq ?_
  refine AW.reg ?_
  iterate 2 refine AOL.s1 (h := ?_)
  refine AOL.nil ?_
  refine AW.kp [2] (h := ?_)
  repeat refine AW.seq ?_
  refine AW.ret ?_
  refine ⟨_, [], rfl, HOk.nil _, ?_⟩
  simp only [one?, hGf]

abbrev L3 : List H := [mk 3, mk 5, mk 9]
theorem held3 : Fn Try.prog 10 [.sl 3 [u 3, u 5, u 9]] [] (fun r _ => r = hs L3) := obollaw21_held_c (V := [3, 5, 9]) (by decide)
theorem plan8 : Fn Try.prog 11 [hs L3, u 8] [] (fun r _ => r = .tup [.sl 1 [i 2], .val .nilIface]) := by
  have h := wallet_Plan_c (L := L3) (need := 8) (by decide)
  rw [show planF L3 8 = ([2], true) by decide] at h
  exact h
theorem plan12 : Fn Try.prog 11 [hs L3, u 12] [] (fun r _ => r = .tup [.sl 2 [i 0, i 2], .val .nilIface]) := by
  have h := wallet_Plan_c (L := L3) (need := 12) (by decide)
  rw [show planF L3 12 = ([0, 2], true) by decide] at h
  exact h
theorem plan15 : Fn Try.prog 11 [hs L3, u 15] [] (fun r _ => r = .tup [.sl 0 [], .val (.iface 55 (.int .i64 14))]) := by
  have h := wallet_Plan_c (L := L3) (need := 15) (by decide)
  rw [show planF L3 15 = ([], false) by decide] at h
  exact h
theorem has17 : Fn Try.prog 12 [hs L3] [] (fun r _ => r = u 17) := by
  have h := wallet_Has_c (L := L3) (by decide)
  rw [show hasS L3 0 = 17 by decide] at h
  exact h
set_option maxHeartbeats 4000000 in
theorem obollaw21_up_c : Fn Try.prog 4 [] [] (fun r _ => r = bo true) := by
  refine Fn.enter Try.func4 Try.ntmps4 rfl (h := ?_)
  have tf := tfv
  have hi37 : (Try.prog.info? 55).any (fun x => x.comparable) = true := rfl
  have d1 : (((1:Nat):Int) == 1) = true := rfl
  have d2 : (((2:Nat):Int) == 2) = true := rfl
  have d3 : (0:Int) < ((1:Nat):Int) := by decide
  have d4 : (0:Int) < ((2:Nat):Int) := by decide
  have d5 : (1:Int) < ((2:Nat):Int) := by decide
  have d6 : (0:Int) ≤ 1 := by decide
  have d7 : (0:Int) ≤ 0 := by decide
  have d8 : Int.toNat 1 = 1 := rfl
  repeat refine AW.seq ?_
  refine AW.reg ?_
  iterate 1 refine AOL.s1 (h := ?_)
  refine AOL.nil ?_
  refine AW.kp [] (h := ?_)
  repeat refine AW.seq ?_
  refine AW.reg ?_
  refine AOL.s1 (h := ?_)
  refine AOL.fz 1128 rfl (fun h => by cases h) (h := ?_)
  refine AOL.callD rfl held3 (by kernel_rfl) rfl rfl (h := ?_)
  refine AOL.s1 (h := ?_)
  refine AOL.nil ?_
  refine AW.kp [1] (h := ?_)
  repeat refine AW.seq ?_
  refine AW.reg ?_
  refine AOL.s1 (h := ?_)
  refine AOL.callD rfl plan8 (by kernel_rfl) rfl rfl (h := ?_)
  iterate 5 refine AOL.s1 (h := ?_)
  refine AOL.nil ?_
  refine AW.kp [1, 2, 3] (h := ?_)
  repeat refine AW.seq ?_
  refine AW.reg ?_
  refine AOL.s1 (h := ?_)
  refine AOL.callD rfl plan12 (by kernel_rfl) rfl rfl (h := ?_)
  iterate 5 refine AOL.s1 (h := ?_)
  refine AOL.nil ?_
  refine AW.kp [1, 2, 3, 4, 5] (h := ?_)
  repeat refine AW.seq ?_
  refine AW.reg ?_
  refine AOL.s1 (h := ?_)
  refine AOL.callD rfl plan15 (by kernel_rfl) rfl rfl (h := ?_)
  iterate 5 refine AOL.s1 (h := ?_)
  refine AOL.nil ?_
  refine AW.kp [1, 2, 3, 4, 5, 7] (h := ?_)
  repeat refine AW.seq ?_
  refine AW.reg ?_
  iterate 41 refine AOL.s1 (h := ?_)
  refine AOL.callD rfl has17 (by kernel_rfl) rfl rfl (h := ?_)
  iterate 3 refine AOL.s1 (h := ?_)
  refine AOL.nil ?_
  refine AW.kp [0] (h := ?_)
  repeat refine AW.seq ?_
  refine AW.ret ?_
  exact ⟨_, [], rfl, HOk.nil _, rfl⟩

theorem find_congr {p q : Nat → Bool} : ∀ {l : List Nat}, (∀ a ∈ l, p a = q a) → l.find? p = l.find? q
  | [], _ => rfl
  | a :: l, h => by
    simp only [List.find?_cons, h a List.mem_cons_self, find_congr fun x hx => h x (List.mem_cons_of_mem _ hx)]
theorem pairs_congr {p q : Nat → Nat → Bool} : ∀ {l : List Nat}, (∀ a ∈ l, ∀ b ∈ l, p a b = q a b) → pairs p l = pairs q l
  | [], _ => rfl
  | a :: l, h => by
    simp only [pairs, find_congr fun x hx => h a List.mem_cons_self x (List.mem_cons_of_mem _ hx), pairs_congr fun x hx y hy => h x (List.mem_cons_of_mem _ hx) y (List.mem_cons_of_mem _ hy)]
theorem find_filter {f p : Nat → Bool} : ∀ {l : List Nat}, (l.filter f).find? p = l.find? (fun x => f x && p x)
  | [] => rfl
  | a :: l => by
    cases hf : f a <;> cases hp : p a <;> simp [hf, hp]
theorem pairs_filter {f : Nat → Bool} {q : Nat → Nat → Bool} : ∀ {l : List Nat}, pairs q (l.filter f) = pairs (fun a b => f a && f b && q a b) l
  | [] => rfl
  | a :: l => by
    cases hf : f a with
    | true =>
      simp only [List.filter_cons, hf, if_true, pairs, find_filter, Bool.true_and, pairs_filter (l := l)]
    | false =>
      have hn : l.find? (fun b => false && f b && q a b) = none := by
        rw [List.find?_eq_none]; simp
      simp only [List.filter_cons, hf, Bool.false_eq_true, if_false, pairs, hn, pairs_filter (l := l)]
theorem planEq {L : List H} {need : Int} (hn : w64 need) (hL : ∀ x, w64 (gh L x).v) : planR L need = planF L need := by
  unfold planR planF
  by_cases h0 : need = 0
  · rw [if_pos h0, if_pos h0]
  rw [if_neg h0, if_neg h0]
  have hn1 := hn.1
  have hn2 := hn.2
  have h1 : (freeF L).find? (p2 L need) = (List.range L.length).find? (p1 L need) := by
    rw [freeF, find_filter]
    apply find_congr
    intro a _
    unfold fr p2 p1
    cases (gh L a).s <;> simp
    intro h
    omega
  rw [h1]
  cases hf : (List.range L.length).find? (p1 L need) with
  | some x => rfl
  | none =>
    have h2 : pairs (q1 L need) (List.range L.length) = pairs (q2 L need) (freeF L) := by
      rw [freeF, pairs_filter]
      apply pairs_congr
      intro a ha b hb
      rw [List.find?_eq_none] at hf
      have fa := hf a ha
      have fb := hf b hb
      have la := hL a
      have lb := hL b
      unfold p1 at fa fb
      unfold q1 q2 fr
      cases hsa : (gh L a).s <;> cases hsb : (gh L b).s <;> simp [hsa, hsb] at fa fb ⊢
      by_cases va : 0 < (gh L a).v <;> by_cases vb : 0 < (gh L b).v <;> simp [va, vb]
      rw [if_neg (by omega), wrapU ⟨by omega, by have := la.1; omega⟩, wrapU ⟨by omega, by have := lb.1; omega⟩]
      omega
    rw [h2]
    first | done | rfl
end Go.Proofs.Ythajlelljnkdiaa.E.M

