/- rank.Sum, its result told as a block of one's own. -/
import Derived.Test.YtjeafkodcmbabaaDoorSm
import Derived.Test.YtjeafkodcmbabaaDoorDfo
import Derived.Test.YtjeafkodcmbabaaDoorProg
import Derived.KernelRfl
set_option linter.unusedVariables false
set_option linter.unusedSimpArgs false
set_option maxRecDepth 10000
open Go Go.Proofs.YtjeafkodcmbabaaDoor.E Go.Proofs
namespace Go.Proofs.YtjeafkodcmbabaaDoor.E.M
set_option maxHeartbeats 16000000 in
theorem rank_Sum_own_c {L : List Tm} (hl : L.length < 1000000000) (hT : wT L) : Fn Tryd.prog 9 [slF tm L] [] (Tells (.ref 1000 0 (sumT L).length 2) [(1000, ⟨41, false, fm tm (sumT L)⟩)]) := by
  have hV : Fn Tryd.prog 20 [slF tm L] [] (fun q _ => q = .clo 37 [.fptr [slF tm L]]) := slices_Values_c
  have hS := sorted_c hl
  refine Fn.enter Tryd.func9 Tryd.ntmps9 rfl (h := ?_)
  have tf := tfr
  have ot_ : (false || true) = true := rfl
  repeat refine AW.seq ?_
  refine AW.reg ?_
  iterate 1 refine AOL.s1 (h := ?_)
  refine AOL.nil ?_
  refine AW.kq [0] (h := ?_)
  repeat refine AW.seq ?_
  refine AW.reg ?_
  iterate 1 refine AOL.s1 (h := ?_)
  refine AOL.callD rfl (hV) (by kernel_rfl) rfl rfl (h := ?_)
  refine AOL.call rfl hS (by kernel_rfl) rfl ?_
  rintro q h_ ⟨S, rfl, hp, hs⟩
  refine ⟨rfl, ?_⟩
  have hST : wT S := fun t ht => hT t (hp.mem_iff.1 ht)
  have lS : S.length < 1000000000 := by rw [hp.length_eq]; exact hl
  rw [← accS_eq hp hs]
  clear hp hs hT hl hS hV
  iterate 1 refine AOL.s1 (h := ?_)
  refine AOL.nil ?_
  refine AW.kq [3] (h := ?_)
  repeat refine AW.seq ?_
  refine AW.reg ?_
  iterate 1 refine AOL.s1 (h := ?_)
  refine AOL.nil ?_
  refine AW.kq [3, 4] (h := ?_)
  refine AW.born 4 1001 41 2 (.inl rfl) (h := ?_)
  repeat refine AW.seq ?_
  refine AW.reg ?_
  iterate 3 refine AOL.s1 (h := ?_)
  refine AOL.nil ?_
  refine AW.kq [3, 4, 11, 12, 13] (h := ?_)
  repeat refine AW.seq ?_
  refine AW.block ?_
  repeat refine AW.seq ?_
  refine AW.loopK [3, 4, 11, 12, 13] (fun n s => ∃ (k : Nat) (p : Option Int) (out r : List Tm), s = ⟨58, [(3, slF tm S), (4, .ref 1001 0 out.length 2), (11, slF tm S), (12, i S.length), (13, i k)], [(1001, ⟨41, false, fm tm out⟩)]⟩ ∧ S.drop k = r ∧ k ≤ S.length ∧ n = r.length ∧ id (accS p out r = accS none [] S) ∧ out.length ≤ k ∧ wT out ∧ (k = 0 → p = none) ∧ (∀ j t, k = j + 1 → S[j]? = some t → p = some t.v) ∧ (∀ v, p = some v → 0 ≤ v → out ≠ [])) S.length ?_ ?_
  · exact ⟨0, none, [], S, rfl, rfl, Nat.zero_le _, rfl, rfl, Nat.le_refl _, (fun t ht => by cases ht), fun _ => rfl, fun j t h => by omega, fun v h => by cases h⟩
  rintro n s ⟨k, p, out, r, rfl, hr, hkl, rfl, hi, hol, hwo, hp0, hp1, hpo⟩
  repeat refine AW.seq ?_
  refine AW.reg ?_
  iterate 1 refine AOL.s1 (h := ?_)
  refine AOL.nil ?_
  refine AW.kq [3, 4, 11, 12, 13, 14] (h := ?_)
  repeat refine AW.seq ?_
  refine AW.cond rfl (fun c_ => ?_) (fun c_ => ?_)
  · cases r with
    | nil => have := dnilq hr hkl; simp at c_; omega
    | cons t r =>
    obtain ⟨hlt, hr', ht⟩ := dconsq hr
    have hd : (fm tm S).drop (k * 2) = i t.v :: u t.k :: fm tm r := fm_drop tm_len hr
    have k0 : (0:Int) ≤ k := by omega
    have k1 : (k:Int) < S.length := by omega
    have hw := incq hlt lS
    have hkw := hST t (List.mem_of_getElem? ht)
    have hn1 : ∀ j s, k + 1 = j + 1 → S[j]? = some s → some t.v = some s.v := by
      intro j s h1 h2
      obtain rfl : j = k := by omega
      rw [ht] at h2; cases h2; rfl
    clear hr
    refine AW.skip ?_
    repeat refine AW.seq ?_
    refine AW.midK [3, 4, 11, 12, 13] (fun s => ∃ (out' : List Tm), s = ⟨58, [(3, slF tm S), (4, .ref 1001 0 out'.length 2), (11, slF tm S), (12, i S.length), (13, i k)], [(1001, ⟨41, false, fm tm out'⟩)]⟩ ∧ id (accS (some t.v) out' r = accS none [] S) ∧ out'.length ≤ k + 1 ∧ wT out' ∧ (0 ≤ t.v → out' ≠ [])) ?_ ?_
    · refine AW.block ?_
      repeat refine AW.seq ?_
      refine AW.reg ?_
      iterate 6 refine AOL.s1 (h := ?_)
      refine AOL.nil ?_
      refine AW.kq [3, 4, 5, 6, 11, 12, 13] (h := ?_)
      repeat refine AW.seq ?_
      refine AW.reg ?_
      iterate 3 refine AOL.s1 (h := ?_)
      refine AOL.nil ?_
      refine AW.kq [3, 4, 5, 6, 11, 12, 13, 20] (h := ?_)
      repeat refine AW.seq ?_
      refine AW.cond rfl (fun c_ => ?_) (fun c_ => ?_)
      · have hi' : id (accS (some t.v) out r = accS none [] S) := by
          rw [← show _ = _ from hi]; show _ = _; simp only [accS]; rw [if_pos (by simpa using c_)]
        repeat refine AW.seq ?_
        refine AW.let 1096 (h := ?_)
        refine AW.exit ?_
        repeat (first | refine Kseq.ex ?_ | refine Kloop.ex ?_ | refine Kblock.miss (by decide) ?_)
        refine Kblock.hit ?_
        exact ⟨out, rfl, hi', by omega, hwo, fun h => by simp at c_; omega⟩
      have t0 : 0 ≤ t.v := by simpa using c_
      have hi' : id (accS (some t.v) (addL t.k (if p = some t.v then out else out ++ [⟨t.v, 0⟩])) r = accS none [] S) := by
        rw [← show _ = _ from hi]; show _ = _; simp only [accS]; rw [if_neg (show ¬ t.v < 0 by omega)]
      clear hi c_
      refine AW.skip ?_
      repeat refine AW.seq ?_
      refine AW.midK [3, 4, 6, 11, 12, 13, 33] (fun s => s = ⟨58, [(3, slF tm S), (4, .ref 1001 0 out.length 2), (6, .ptr 1096 0), (11, slF tm S), (12, i S.length), (13, i k), (33, bo (!decide (p = some t.v)))], [(1001, ⟨41, false, fm tm out⟩), (1096, ⟨41, true, [i t.v, u t.k]⟩)]⟩) ?_ ?_
      · rcases Nat.eq_zero_or_pos k with rfl | hpos
        · have hz : decide (p = some t.v) = false := by rw [hp0 rfl]; simp
          rw [hz]
          clear hi' hz
          refine AW.drw 11 [] (by kernel_rfl) (h := ?_)
          iterate 11 refine ADL.dm 1 (h := ?_)
          refine ADL.done hmix rfl rfl (hT := ?_)
          iterate 2 refine AOL.s1 (h := ?_)
          refine AOL.nil ?_
          exact rfl
        · obtain ⟨j, rfl⟩ : ∃ j, k = j + 1 := ⟨k - 1, by omega⟩
          have hj : j < S.length := by omega
          have hq := hp1 j S[j] rfl (List.getElem?_eq_getElem hj)
          have hq2 : (fm tm S).drop (j * 2) = i S[j].v :: u S[j].k :: fm tm (S.drop (j + 1)) := fm_at tm_len hj
          have j0 : (((j + 1 : Nat) : Int) == 0) = false := by rw [beq_eq_false_iff_ne]; omega
          have jw : IntKind.i64.wrap (((j + 1 : Nat) : Int) - 1) = (j : Int) := by rw [wrapI_o (by omega) (by omega)]; omega
          have j1 : (0:Int) ≤ j := by omega
          have j2 : (j:Int) < S.length := by omega
          have hz : (!decide (p = some t.v)) = (S[j].v != t.v) := by
            rw [hq]; by_cases h : S[j].v = t.v <;> simp [h]
          rw [hz]
          clear hi' hz hq hp1 hp0 hpo hn1 hd
          generalize S[j] = q at *
          refine AW.drw 11 [] (by kernel_rfl) (h := ?_)
          iterate 11 refine ADL.dm 1 (h := ?_)
          refine ADL.done hmix rfl rfl (hT := ?_)
          iterate 2 refine AOL.s1 (h := ?_)
          refine AOL.nil ?_
          exact rfl
      rintro t_ rfl
      repeat refine AW.seq ?_
      refine AW.midK [3, 4, 6, 11, 12, 13] (fun s => ∃ (l : List Tm) (z : Tm), s = ⟨58, [(3, slF tm S), (4, .ref 1001 0 (l ++ [z]).length 2), (6, .ptr 1096 0), (11, slF tm S), (12, i S.length), (13, i k)], [(1001, ⟨41, false, fm tm (l ++ [z])⟩), (1096, ⟨41, true, [i t.v, u t.k]⟩)]⟩ ∧ id ((if p = some t.v then out else out ++ [⟨t.v, 0⟩]) = l ++ [z]) ∧ l.length ≤ k ∧ wT l ∧ w64 z.k) ?_ ?_
      · refine AW.cond rfl (fun c_ => ?_) (fun c_ => ?_)
        · have c1 : ¬ p = some t.v := by simpa using c_
          have lc : (fm tm out).length = out.length * 2 := fm_len tm_len out
          have a1 : (out.length + 1) * 16 ≤ 140737488355328 := by omega
          have a2 : out.length + 1 ≤ 4611686018427387904 := by omega
          have a3 : out.length ≤ 4611686018427387903 := by omega
          clear hi'
          repeat refine AW.seq ?_
          refine AW.reg ?_
          iterate 7 refine AOL.s1 (h := ?_)
          refine AOL.let 1608 (h := ?_)
          refine AOL.nil ?_
          refine ⟨out, ⟨t.v, 0⟩, ?_, if_neg c1, hol, hwo, by show w64 0; decide⟩
          rw [fm_snoc, List.length_append]; rfl
        · have c1 : p = some t.v := by simpa using c_
          refine AW.skip ?_
          have hne := hpo t.v c1 t0
          obtain ⟨l, z, rfl⟩ : ∃ l z, out = l ++ [z] := ⟨out.dropLast, out.getLast hne, (List.dropLast_concat_getLast hne).symm⟩
          refine ⟨l, z, rfl, if_pos c1, ?_, fun a ha => hwo a (List.mem_append_left _ ha), hwo z (by simp)⟩
          rw [List.length_append] at hol; simp at hol; omega
      rintro s_ ⟨l, z, rfl, he, hl, hwl, hwz⟩
      have ll : (l ++ [z]).length = l.length + 1 := by simp
      have lw : IntKind.i64.wrap (((l.length + 1 : Nat) : Int) - 1) = (l.length : Int) := by rw [wrapI_o (by omega) (by omega)]; omega
      have l0 : (0:Int) ≤ l.length := by omega
      have l1 : (l.length:Int) < (l.length + 1 : Nat) := by omega
      rw [ll]
      repeat refine AW.seq ?_
      refine AW.reg ?_
      iterate 6 refine AOL.s1 (h := ?_)
      refine AOL.nil ?_
      refine AW.kq [3, 4, 6, 7, 11, 12, 13] (h := ?_)
      have cA := modular_Add_c hR hwz hkw
      have hdz : (fm tm (l ++ [z])).drop (l.length * 2 + 1) = [u z.k] := by
        rw [fm_snoc, List.drop_append, fm_len tm_len, List.drop_of_length_le (by rw [fm_len tm_len]; omega), show l.length * 2 + 1 - l.length * 2 = 1 by omega]; rfl
      have lz : l.length * 2 + 1 + 1 ≤ (fm tm (l ++ [z])).length := by rw [fm_len tm_len, ll]; omega
      have hst := set_tm l z ((z.k + t.k) % 288230376287764481)
      rw [show _ = _ from he, addL_snoc] at hi'
      clear he hd
      repeat refine AW.seq ?_
      refine AW.drw 8 [] (by kernel_rfl) (h := ?_)
      iterate 7 refine ADL.dm 1 (h := ?_)
      refine ADL.call rfl (cA) (by kernel_rfl) rfl rfl (h := ?_)
      refine ADL.done hmix rfl rfl (hT := ?_)
      iterate 3 refine AOL.s1 (h := ?_)
      refine AOL.let 1096 (h := ?_)
      refine AOL.nil ?_
      exact ⟨l ++ [⟨z.v, (z.k + t.k) % 288230376287764481⟩], by rw [← hst]; simp only [List.length_append, List.length_singleton]; rfl, hi', by simp; omega, by
        intro a ha
        rcases List.mem_append.1 ha with ha | ha
        · exact hwl a ha
        · simp only [List.mem_singleton] at ha; subst ha; exact w64_r _, fun _ => by simp⟩
    rintro s_ ⟨out', rfl, hi', hol', hwo', hne⟩
    repeat refine AW.seq ?_
    refine AW.reg ?_
    iterate 2 refine AOL.s1 (h := ?_)
    refine AOL.nil ?_
    exact ⟨r.length, by simp, k + 1, some t.v, out', r, rfl, hr', hlt, rfl, hi', hol', hwo', fun h => by omega, hn1, fun v hv h0 => by cases hv; exact hne h0⟩
  · have : r = [] := by
      cases r with
      | nil => rfl
      | cons t r => have := (dconsq hr).1; simp at c_; omega
    subst this
    have hg : accS none [] S = out := hi.symm
    rw [hg]
    clear hi hr hp0 hp1 hpo hg
    have cD : Fn Tryd.prog 24 [.ref 0 0 out.length 2, .clo 25 []] [(0, ⟨41, false, fm tm out⟩)] (Tells (.ref 1000 0 (kept0 out).length 2) [(1000, ⟨41, false, fm tm (kept0 out)⟩)]) :=
      slices_DeleteFunc_own_c (p := fun t => t.k == 0) (by omega) (by kernel_rfl) (fun v => rank_Sum_2_c)
    repeat refine AW.seq ?_
    refine AW.exit ?_
    repeat (first | refine Kseq.ex ?_ | refine Kloop.ex ?_ | refine Kblock.miss (by decide) ?_)
    refine Kblock.hit ?_
    refine AW.kq [4] (h := ?_)
    repeat refine AW.seq ?_
    refine AW.reg ?_
    iterate 1 refine AOL.s1 (h := ?_)
    generalize kept0 out = Q at *
    have hsg : sig [1001] 2000 [(1000, (⟨41, false, fm tm Q⟩ : Blk))] 1000 = 2000 := by simp [sig, pos]
    refine AOL.callT [1001] 2000 cD rfl rfl (by kernel_rfl) (by simp [labs, labss]) (by intro p hp; simp only [List.mem_singleton] at hp; subst hp; exact ⟨Nat.zero_lt_one, (by intro l hl; simp only [tm_labs] at hl; cases hl), (by simp only [renB, tm_rens]; rfl)⟩) ⟨by simp, by simp, by simp [labs, hlabs], (by intro p hp l hl; simp only [List.mem_singleton] at hp; subst hp; simp only [tm_labs] at hl; cases hl), by simp [hlabs]⟩ (by simp only [St.after, consumed, newNames, get?, putH, St.drops, St.drop, mapT, mapH, kill, kills, del, St.put, ins, ren, rens, renB, tm_rens, hsg, mapS, List.map_cons, List.map_nil, reduceIte, Nat.reduceLT, Nat.reduceEqDiff, List.cons_append, List.nil_append]; exact rfl) ?_
    iterate 1 refine AOL.s1 (h := ?_)
    refine AOL.nil ?_
    refine AW.kq [2] (h := ?_)
    repeat refine AW.seq ?_
    refine AW.ret ?_
    refine ⟨_, [(2000, _)], rfl, (fun p_ hp_ => by simp only [List.mem_singleton] at hp_; subst hp_; first | exact List.mem_cons_self | exact List.mem_cons_of_mem _ List.mem_cons_self | exact List.mem_cons_of_mem _ (List.mem_cons_of_mem _ List.mem_cons_self)), ?_⟩
    refine Tells.one 2000 (by decide) ?_
    first | rfl | exact frees_fm (fun _ => rfl) _ | exact a64_free _ | exact by8_free _
end Go.Proofs.YtjeafkodcmbabaaDoor.E.M

