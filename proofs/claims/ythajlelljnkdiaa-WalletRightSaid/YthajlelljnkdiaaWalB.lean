/- What a wallet's plan tells: the contract of wallet.Plan. -/
import Derived.Test.YthajlelljnkdiaaWalA
import Derived.Test.YthajlelljnkdiaaProg
import Derived.KernelRfl
set_option linter.unusedVariables false
set_option linter.unusedSimpArgs false
set_option maxRecDepth 10000
open Go Go.Proofs.Ythajlelljnkdiaa.E Go.Proofs
namespace Go.Proofs.Ythajlelljnkdiaa.E.M
def fr (L : List H) (x : Nat) : Bool := !(gh L x).s && decide ((gh L x).v > 0)
def freeF (L : List H) : List Nat := (List.range L.length).filter (fr L)
def p2 (L : List H) (need : Int) (x : Nat) : Bool := decide ((gh L x).v ≥ need)
def q2 (L : List H) (need : Int) (a b : Nat) : Bool := decide ((gh L a).v ≥ IntKind.u64.wrap (need - (if need < (gh L b).v then need else (gh L b).v)))
def planF (L : List H) (need : Int) : List Nat × Bool :=
  if need = 0 then ([], true) else match (freeF L).find? (p2 L need) with
    | some x => ([x], true)
    | none => match pairs (q2 L need) (freeF L) with
      | some (a, b) => ([a, b], true)
      | none => ([], false)
def errV (ok : Bool) : AV := match ok with
  | true => .val .nilIface
  | false => .val (.iface 55 (.int .i64 14))
theorem freeF_lt {L : List H} {k x : Nat} {r : List Nat} (e : (freeF L).drop k = x :: r) : x < L.length := by
  have h : x ∈ (freeF L).drop k := by rw [e]; exact List.mem_cons_self
  have := List.mem_of_mem_drop h
  simp only [freeF, List.mem_filter, List.mem_range] at this
  exact this.1
theorem freeF_len (L : List H) : (freeF L).length ≤ L.length := by
  have := List.length_filter_le (fr L) (List.range L.length)
  simpa [freeF] using this
theorem hslice {G r : List Nat} {x j : Nat} (e : G.drop j = x :: r) : aSlice Try.prog 50 [] (.sl G.length (ic G)) (some (i ((j + 1 : Nat) : Int))) none none = some (slN r) := by
  obtain ⟨h1, h2, h3⟩ := drop_cons' e
  have hs : tSlice Try.prog 50 = some 3 := rfl
  have hz : tSz Try.prog 3 = some 1 := rfl
  have c1 : (0:Int) ≤ ((j + 1 : Nat) : Int) := by omega
  have c2 : ((j + 1 : Nat) : Int) ≤ G.length := by omega
  have hic : (ic G).drop (j + 1) = ic r := by
    have := ic_drop e
    rw [← List.drop_drop, this]; rfl
  have hn : (G.length - (j + 1)) = r.length := by omega
  simp only [aSlice, hs, hz, bnd, intOf?, c1, c2, and_self, Int.le_refl, if_true, Int.toNat_natCast, Nat.mul_one, hic, hn, List.take_of_length_le (Nat.le_of_eq (ic_length r))]
set_option maxHeartbeats 4000000 in
theorem wallet_Plan_c {L : List H} {need : Int} (hL : L.length < 1000000) : Fn Try.prog 11 [hs L, u need] [] (fun r _ => r = .tup [slN (planF L need).1, errV (planF L need).2]) := by
  refine Fn.enter Try.func11 Try.ntmps11 rfl (h := ?_)
  have tf := tfv
  repeat refine AW.seq ?_
  refine AW.reg ?_
  iterate 2 refine AOL.s1 (h := ?_)
  refine AOL.nil ?_
  refine AW.kp [0, 1] (h := ?_)
  repeat refine AW.seq ?_
  refine AW.reg ?_
  iterate 2 refine AOL.s1 (h := ?_)
  refine AOL.nil ?_
  refine AW.kp [0, 1, 16] (h := ?_)
  repeat refine AW.seq ?_
  refine AW.cond rfl (fun c_ => ?_) (fun c_ => ?_)
  · have h0 : need = 0 := by simpa using c_
    repeat refine AW.seq ?_
    refine AW.reg ?_
    iterate 2 refine AOL.s1 (h := ?_)
    refine AOL.nil ?_
    refine AW.kp [4, 5] (h := ?_)
    refine AW.nilSl 4 (.inl rfl) (h := ?_)
    repeat refine AW.seq ?_
    refine AW.ret ?_
    refine ⟨_, [], rfl, HOk.nil _, ?_⟩
    simp only [one?, planF, if_pos h0]; rfl
  have h0 : ¬ need = 0 := by simpa using c_
  refine AW.skip ?_
  repeat refine AW.seq ?_
  refine AW.reg ?_
  iterate 1 refine AOL.s1 (h := ?_)
  refine AOL.nil ?_
  refine AW.kp [0, 1, 6] (h := ?_)
  refine AW.born 6 1576 3 1 (.inl rfl) (h := ?_)
  repeat refine AW.seq ?_
  refine AW.reg ?_
  iterate 3 refine AOL.s1 (h := ?_)
  refine AOL.nil ?_
  refine AW.kp [0, 1, 6, 17, 18, 19] (h := ?_)
  repeat refine AW.seq ?_
  refine AW.block ?_
  repeat refine AW.seq ?_
  refine AW.loopK [0, 1, 6, 17, 18, 19] (fun n s => ∃ (k : Nat) (G : List Nat), s = ⟨94, [(0, hs L), (1, u need), (6, .ref 1576 0 G.length 1), (17, hs L), (18, i L.length), (19, i k)], [(1576, ⟨3, false, ic G⟩)]⟩ ∧ k ≤ L.length ∧ n = L.length - k ∧ (List.range k).filter (fr L) = G) L.length ?_ ?_
  · exact ⟨0, [], rfl, Nat.zero_le _, rfl, rfl⟩
  rintro n s ⟨k, G, rfl, hkl, rfl, hG⟩
  have hGk : G.length ≤ k := by rw [← hG]; have := List.length_filter_le (fr L) (List.range k); simpa using this
  repeat refine AW.seq ?_
  refine AW.reg ?_
  iterate 1 refine AOL.s1 (h := ?_)
  refine AOL.nil ?_
  refine AW.kp [0, 1, 6, 17, 18, 19, 20] (h := ?_)
  repeat refine AW.seq ?_
  refine AW.cond rfl (fun c_ => ?_) (fun c_ => ?_)
  · have hlt : k < L.length := by simp at c_; omega
    have hd := cells_at hlt
    have hk0 : (0:Int) ≤ k := by omega
    have hkl' : (k:Int) < L.length := by omega
    have hw := inc (k := k) (by omega)
    have hic := ic_length G
    have hG1 : ic G ++ [i k] = ic (G ++ [k]) := by rw [ic_append]; rfl
    have hG2 : G.length + 1 = (G ++ [k]).length := by simp
    have hb1 : (G ++ [k]).length * 8 ≤ 140737488355328 := by rw [← hG2]; omega
    have hb2 : (G ++ [k]).length ≤ 4611686018427387904 := by rw [← hG2]; omega
    have hb3 : G.length ≤ 4611686018427387903 := by omega
    have hGs := hG
    clear hG hkl hGk
    refine AW.skip ?_
    repeat refine AW.seq ?_
    refine AW.block ?_
    repeat refine AW.seq ?_
    refine AW.reg ?_
    iterate 6 refine AOL.s1 (h := ?_)
    refine AOL.nil ?_
    refine AW.kp [0, 1, 6, 7, 8, 17, 18, 19] (h := ?_)
    repeat refine AW.seq ?_
    have hcs : (gh L k).s = true ∨ ((gh L k).s = false ∧ decide ((gh L k).v > 0) = false) ∨ ((gh L k).s = false ∧ decide ((gh L k).v > 0) = true) := by
      cases (gh L k).s <;> cases decide ((gh L k).v > 0) <;> simp
    rcases hcs with h1 | ⟨h1, h2⟩ | ⟨h1, h2⟩
    iterate 2
      · refine AW.reg ?_
        iterate 9 refine AOL.s1 (h := ?_)
        refine AOL.nil ?_
        refine AW.kp [0, 1, 6, 7, 8, 17, 18, 19, 32] (h := ?_)
        repeat refine AW.seq ?_
        refine AW.cond rfl (fun d_ => ?_) (fun d_ => ?_)
        · cases d_
        refine AW.skip ?_
        repeat refine AW.seq ?_
        refine AW.let 1128 (h := ?_)
        refine AW.reg ?_
        iterate 2 refine AOL.s1 (h := ?_)
        refine AOL.nil ?_
        refine ⟨L.length - (k + 1), by omega, k + 1, G, rfl, hlt, rfl, ?_⟩
        rw [List.range_succ, List.filter_append, hGs]
        simp [fr, *]
    · refine AW.reg ?_
      iterate 9 refine AOL.s1 (h := ?_)
      refine AOL.nil ?_
      refine AW.kp [0, 1, 6, 7, 8, 17, 18, 19, 32] (h := ?_)
      repeat refine AW.seq ?_
      refine AW.cond rfl (fun d_ => ?_) (fun d_ => ?_)
      · repeat refine AW.seq ?_
        refine AW.let 1128 (h := ?_)
        refine AW.reg ?_
        iterate 5 refine AOL.s1 (h := ?_)
        refine AOL.nil ?_
        repeat refine AW.seq ?_
        refine AW.let 1560 (h := ?_)
        refine AW.reg ?_
        iterate 2 refine AOL.s1 (h := ?_)
        refine AOL.nil ?_
        refine ⟨L.length - (k + 1), by omega, k + 1, G ++ [k], rfl, hlt, rfl, ?_⟩
        rw [List.range_succ, List.filter_append, hGs]
        simp [fr] at h2 ⊢; simp [h1, h2]
      · cases d_
  have hGf : freeF L = G := by
    have : k = L.length := by simp at c_; omega
    rw [← hG, this]; rfl
  clear hG hGk hkl
  repeat refine AW.seq ?_
  refine AW.exit ?_
  refine Kseq.ex ?_
  refine Kloop.ex ?_
  refine Kblock.hit ?_
  refine AW.kp [0, 1, 6] (h := ?_)
  refine AW.fz 1576 rfl (fun h => by cases h) (h := ?_)
  have hsub : sub 0 (G.length * 1) (ic G) = ic G := sub_all (by rw [ic_length, Nat.mul_one]; exact Nat.le_refl _)
  rw [hsub]
  clear hsub c_
  have hGL := freeF_len L
  rw [hGf] at hGL
  repeat refine AW.seq ?_
  refine AW.reg ?_
  iterate 3 refine AOL.s1 (h := ?_)
  refine AOL.nil ?_
  refine AW.kp [0, 1, 6, 38, 39, 40] (h := ?_)
  repeat refine AW.seq ?_
  refine AW.block ?_
  repeat refine AW.seq ?_
  refine AW.loopK [0, 1, 6, 38, 39, 40] (fun n s => ∃ (j : Nat) (r : List Nat), s = ⟨94, [(0, hs L), (1, u need), (6, slN G), (38, slN G), (39, i G.length), (40, i j)], []⟩ ∧ G.drop j = r ∧ j ≤ G.length ∧ n = r.length ∧ r.find? (p2 L need) = G.find? (p2 L need)) G.length ?_ ?_
  · exact ⟨0, G, rfl, rfl, Nat.zero_le _, rfl, rfl⟩
  rintro n s ⟨j, r, rfl, hr, hjl, rfl, hi⟩
  repeat refine AW.seq ?_
  refine AW.reg ?_
  iterate 1 refine AOL.s1 (h := ?_)
  refine AOL.nil ?_
  refine AW.kp [0, 1, 6, 38, 39, 40, 41] (h := ?_)
  repeat refine AW.seq ?_
  refine AW.cond rfl (fun c_ => ?_) (fun c_ => ?_)
  · cases r with
    | nil => have := drop_nil' hr hjl; simp at c_; omega
    | cons x r =>
    obtain ⟨hr', hlt, hlen⟩ := drop_cons' hr
    have hxl : x < L.length := by rw [← hGf] at hr; exact freeF_lt hr
    have hd := cells_at hxl
    have hdj := ic_drop hr
    have hx0 : (0:Int) ≤ x := by omega
    have hxl' : (x:Int) < L.length := by omega
    have hj0 : (0:Int) ≤ j := by omega
    have hjl' : (j:Int) < G.length := by omega
    have hw := inc (k := j) (by omega)
    clear hlen
    refine AW.skip ?_
    repeat refine AW.seq ?_
    refine AW.block ?_
    repeat refine AW.seq ?_
    refine AW.reg ?_
    iterate 3 refine AOL.s1 (h := ?_)
    refine AOL.nil ?_
    refine AW.kp [0, 1, 6, 10, 38, 39, 40] (h := ?_)
    repeat refine AW.seq ?_
    refine AW.reg ?_
    iterate 8 refine AOL.s1 (h := ?_)
    refine AOL.nil ?_
    refine AW.kp [0, 1, 6, 10, 38, 39, 40, 51] (h := ?_)
    repeat refine AW.seq ?_
    refine AW.cond rfl (fun d_ => ?_) (fun d_ => ?_)
    · repeat refine AW.seq ?_
      refine AW.reg ?_
      iterate 4 refine AOL.s1 (h := ?_)
      refine AOL.nil ?_
      refine AW.kp [4, 5] (h := ?_)
      refine AW.fz 1848 rfl (fun h => by cases h) (h := ?_)
      repeat refine AW.seq ?_
      refine AW.ret ?_
      refine ⟨_, [], rfl, HOk.nil _, ?_⟩
      rw [List.find?_cons_of_pos (by exact d_)] at hi
      simp only [one?, planF, if_neg h0, hGf, ← hi]; rfl
    · refine AW.skip ?_
      repeat refine AW.seq ?_
      refine AW.reg ?_
      iterate 2 refine AOL.s1 (h := ?_)
      refine AOL.nil ?_
      refine ⟨r.length, by simp, j + 1, r, rfl, hr', hlt, rfl, ?_⟩
      rw [← hi, List.find?_cons_of_neg]
      rw [p2, d_]; decide
  have hn : G.find? (p2 L need) = none := by
    cases r with
    | nil => exact hi.symm
    | cons => obtain ⟨_, h, _⟩ := drop_cons' hr; simp at c_; omega
  clear hi hr hjl c_
  repeat refine AW.seq ?_
  refine AW.exit ?_
  refine Kseq.ex ?_
  refine Kloop.ex ?_
  refine Kblock.hit ?_
  refine AW.kp [0, 1, 6] (h := ?_)
  repeat refine AW.seq ?_
  refine AW.reg ?_
  iterate 3 refine AOL.s1 (h := ?_)
  refine AOL.nil ?_
  refine AW.kp [0, 1, 6, 55, 56, 57] (h := ?_)
  repeat refine AW.seq ?_
  refine AW.block ?_
  repeat refine AW.seq ?_
  refine AW.loopK [0, 1, 6, 55, 56, 57] (fun n s => ∃ (j : Nat) (r : List Nat), s = ⟨94, [(0, hs L), (1, u need), (6, slN G), (55, slN G), (56, i G.length), (57, i j)], []⟩ ∧ G.drop j = r ∧ j ≤ G.length ∧ n = r.length ∧ pairs (q2 L need) r = pairs (q2 L need) G) G.length ?_ ?_
  · exact ⟨0, G, rfl, rfl, Nat.zero_le _, rfl, rfl⟩
  rintro n s ⟨j, r, rfl, hr, hjl, rfl, hi⟩
  repeat refine AW.seq ?_
  refine AW.reg ?_
  iterate 1 refine AOL.s1 (h := ?_)
  refine AOL.nil ?_
  refine AW.kp [0, 1, 6, 55, 56, 57, 58] (h := ?_)
  repeat refine AW.seq ?_
  refine AW.cond rfl (fun c_ => ?_) (fun c_ => ?_)
  · cases r with
    | nil => have := drop_nil' hr hjl; simp at c_; omega
    | cons x r =>
    obtain ⟨hr', hlt, hlen⟩ := drop_cons' hr
    have hxl : x < L.length := by rw [← hGf] at hr; exact freeF_lt hr
    have hd := cells_at hxl
    have hdj := ic_drop hr
    have hsl := hslice hr
    have hx0 : (0:Int) ≤ x := by omega
    have hxl' : (x:Int) < L.length := by omega
    have hj0 : (0:Int) ≤ j := by omega
    have hjl' : (j:Int) < G.length := by omega
    have hw := inc (k := j) (by omega)
    have hrG : r.length < 1000000 := by omega
    clear hlen
    refine AW.skip ?_
    repeat refine AW.seq ?_
    refine AW.block ?_
    repeat refine AW.seq ?_
    refine AW.reg ?_
    iterate 5 refine AOL.s1 (h := ?_)
    refine AOL.nil ?_
    refine AW.kp [0, 1, 6, 11, 12, 55, 56, 57] (h := ?_)
    repeat refine AW.seq ?_
    refine AW.reg ?_
    iterate 6 refine AOL.s1 (h := ?_)
    refine AOL.nil ?_
    refine AW.kp [0, 1, 6, 12, 55, 56, 57, 65, 66, 67] (h := ?_)
    clear hdj hsl
    repeat refine AW.seq ?_
    refine AW.block ?_
    repeat refine AW.seq ?_
    refine AW.loopK [0, 1, 6, 12, 55, 56, 57, 65, 66, 67] (fun n s => ∃ (m : Nat) (t : List Nat), s = ⟨94, [(0, hs L), (1, u need), (6, slN G), (12, i x), (55, slN G), (56, i G.length), (57, i j), (65, slN r), (66, i r.length), (67, i m)], []⟩ ∧ r.drop m = t ∧ m ≤ r.length ∧ n = t.length ∧ t.find? (q2 L need x) = r.find? (q2 L need x)) r.length ?_ ?_
    · exact ⟨0, r, rfl, rfl, Nat.zero_le _, rfl, rfl⟩
    rintro n s ⟨m, t, rfl, ht, hml, rfl, hj⟩
    repeat refine AW.seq ?_
    refine AW.reg ?_
    iterate 1 refine AOL.s1 (h := ?_)
    refine AOL.nil ?_
    refine AW.kp [0, 1, 6, 12, 55, 56, 57, 65, 66, 67, 68] (h := ?_)
    repeat refine AW.seq ?_
    refine AW.cond rfl (fun d_ => ?_) (fun d_ => ?_)
    · cases t with
      | nil => have := drop_nil' ht hml; simp at d_; omega
      | cons y t =>
      obtain ⟨ht', hmt, hlen⟩ := drop_cons' ht
      have hyl : y < L.length := by
        have h2 : (freeF L).drop (j + 1 + m) = y :: t := by rw [hGf, ← List.drop_drop, hr', ht]
        exact freeF_lt h2
      have hd2 := cells_at hyl
      have hdm := ic_drop ht
      have hy0 : (0:Int) ≤ y := by omega
      have hyl' : (y:Int) < L.length := by omega
      have hm0 : (0:Int) ≤ m := by omega
      have hml' : (m:Int) < r.length := by omega
      have hw2 := inc (k := m) (by omega)
      clear hlen
      refine AW.skip ?_
      repeat refine AW.seq ?_
      refine AW.block ?_
      repeat refine AW.seq ?_
      refine AW.reg ?_
      iterate 3 refine AOL.s1 (h := ?_)
      refine AOL.nil ?_
      refine AW.kp [0, 1, 6, 12, 14, 55, 56, 57, 65, 66, 67] (h := ?_)
      repeat refine AW.seq ?_
      refine AW.drw 17 [] (by kernel_rfl) (h := ?_)
      iterate 17 refine ADL.dm 1 (h := ?_)
      refine ADL.done hmix rfl rfl (hT := ?_)
      refine AOL.nil ?_
      refine AW.kp [0, 1, 6, 12, 14, 55, 56, 57, 65, 66, 67, 87] (h := ?_)
      repeat refine AW.seq ?_
      refine AW.cond rfl (fun e_ => ?_) (fun e_ => ?_)
      · repeat refine AW.seq ?_
        refine AW.reg ?_
        iterate 5 refine AOL.s1 (h := ?_)
        refine AOL.nil ?_
        refine AW.kp [4, 5] (h := ?_)
        refine AW.fz 2440 rfl (fun h => by cases h) (h := ?_)
        repeat refine AW.seq ?_
        refine AW.ret ?_
        refine ⟨_, [], rfl, HOk.nil _, ?_⟩
        rw [List.find?_cons_of_pos (by exact e_)] at hj
        simp only [pairs, ← hj] at hi
        simp only [one?, planF, if_neg h0, hGf, hn, ← hi]; rfl
      · refine AW.skip ?_
        repeat refine AW.seq ?_
        refine AW.reg ?_
        iterate 2 refine AOL.s1 (h := ?_)
        refine AOL.nil ?_
        refine ⟨t.length, by simp, m + 1, t, rfl, ht', hmt, rfl, ?_⟩
        rw [← hj, List.find?_cons_of_neg]
        rw [q2, e_]; decide
    · repeat refine AW.seq ?_
      refine AW.exit ?_
      refine Kseq.ex ?_
      refine Kloop.ex ?_
      refine Kblock.hit ?_
      have ht0 : t = [] := by
        cases t with
        | nil => rfl
        | cons => obtain ⟨_, h, _⟩ := drop_cons' ht; simp at d_; omega
      subst ht0
      repeat refine AW.seq ?_
      refine AW.reg ?_
      iterate 2 refine AOL.s1 (h := ?_)
      refine AOL.nil ?_
      refine ⟨r.length, by simp, j + 1, r, rfl, hr', hlt, rfl, ?_⟩
      rw [← hi, pairs, ← hj]; rfl
  · repeat refine AW.seq ?_
    refine AW.exit ?_
    refine Kseq.ex ?_
    refine Kloop.ex ?_
    refine Kblock.hit ?_
    refine AW.kp [] (h := ?_)
    have hp : pairs (q2 L need) G = none := by
      cases r with
      | nil => exact hi.symm
      | cons => obtain ⟨_, h, _⟩ := drop_cons' hr; simp at c_; omega
    repeat refine AW.seq ?_
    refine AW.reg ?_
    iterate 3 refine AOL.s1 (h := ?_)
    refine AOL.nil ?_
    refine AW.kp [4, 5] (h := ?_)
    refine AW.nilSl 4 (.inl rfl) (h := ?_)
    repeat refine AW.seq ?_
    refine AW.ret ?_
    refine ⟨_, [], rfl, HOk.nil _, ?_⟩
    simp only [one?, planF, if_neg h0, hGf, hn, hp]; rfl
end Go.Proofs.Ythajlelljnkdiaa.E.M

