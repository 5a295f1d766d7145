/- CurveStays over E. -/
import Derived.Test.YtibmidoepeghpaaCurY
import Derived.Test.YtibmidoepeghpaaProg
import Derived.KernelRfl
set_option linter.unusedVariables false
set_option linter.unusedSimpArgs false
set_option maxRecDepth 10000
open Go Go.Proofs.Ytibmidoepeghpaa.E Go.Proofs
namespace Go.Proofs.Ytibmidoepeghpaa.E.M
mutual
/-- a value in which no memory is named -/
def plain : AV → Bool
  | .val _ => true
  | .agg cs => plains cs
  | .tup cs => plains cs
  | .ifc _ c => plain c
  | _ => false
def plains : List AV → Bool
  | [] => true
  | c :: cs => plain c && plains cs
end
mutual
theorem plain_rel {ρ ρ' : Rho} {F F' : Nat → Prop} {w w' : World} : ∀ (c : AV) (v : Value), plain c = true → VR ρ F w c v → VR ρ' F' w' c v
  | .val _, v, _, hc => by simpa only [VR] using hc
  | .agg cs, v, h, hc => by
    simp only [VR] at hc ⊢
    obtain ⟨vs, e, hc⟩ := hc
    exact ⟨vs, e, plains_rel cs vs (by simpa only [plain] using h) hc⟩
  | .tup cs, v, h, hc => by
    simp only [VR] at hc ⊢
    obtain ⟨vs, e, hc⟩ := hc
    exact ⟨vs, e, plains_rel cs vs (by simpa only [plain] using h) hc⟩
  | .ifc t c, v, h, hc => by
    simp only [VR] at hc ⊢
    obtain ⟨u, e, hc⟩ := hc
    exact ⟨u, e, plain_rel c u (by simpa only [plain] using h) hc⟩
  | .ptr _ _, _, h, _ => by cases h
  | .ref _ _ _ _, _, h, _ => by cases h
  | .sl _ _, _, h, _ => by cases h
  | .fptr _, _, h, _ => by cases h
  | .clo _ _, _, h, _ => by cases h
  | .emp, _, h, _ => by cases h
  | .dead, _, h, _ => by cases h
theorem plains_rel {ρ ρ' : Rho} {F F' : Nat → Prop} {w w' : World} : ∀ (cs : List AV) (vs : List Value), plains cs = true → VRs ρ F w cs vs → VRs ρ' F' w' cs vs
  | [], vs, _, hc => by simpa only [VRs] using hc
  | c :: cs, vs, h, hc => by
    simp only [VRs] at hc ⊢
    obtain ⟨v, rest, e, hv, hc⟩ := hc
    simp only [plains, Bool.and_eq_true] at h
    exact ⟨v, rest, e, plain_rel c v h.1 hv, plains_rel cs rest h.2 hc⟩
end
theorem callP {P : Program} {ops : Array Oper} {o : Oper} {os : List Oper} {K : St → Prop} {st st' : St} {g : FuncId} {az : List AV} {v : AV} (ls : List (Nat × List AV))
    (hls : ∀ p ∈ ls, ∃ B, get? p.1 st.h = some B ∧ B.cs = p.2 ∧ (B.boxy = true → frees B.cs = true))
    (hc : (callL st ops.toList o).map (fun p => (p.1, ls.foldl (fun az q => frzs q.1 q.2 az) p.2)) = some (g, az)) (hF : Fn P g az [] (fun r _ => r = v)) (hcl : callable P g = true) (hfr : frees az = true) (hpl : plain v = true) (hst : st.put o.dst v = st' := by simp only [St.put, ins, del, reduceIte, Nat.reduceLT, Nat.reduceEqDiff]; exact rfl)
    (h : AOL P ops os K st') : AOL P ops (o :: os) K st := by
  subst hst
  intro i hi
  obtain ⟨ho, hi'⟩ := drop_cons hi
  rw [List.length_cons, List.range'_succ]
  intro ρ F a w Q hR hQ
  simp only [Option.map_eq_some_iff, Prod.mk.injEq] at hc
  obtain ⟨⟨g', az'⟩, hc, rfl, has⟩ := hc
  unfold callL at hc
  split at hc
  · rename_i hd hg
    rw [gOkL_eq] at hg
    obtain ⟨vs, hrun, hvs⟩ := callOf_run hR hc hcl
    have hw := gOk_rel hR hg
    simp only [wpOps, ho, hw, if_true]
    refine .inl ?_
    simp only [Oper.wp, hrun, Oper.upon]
    -- the view of the arguments in which those blocks are frozen
    let F1 : Nat → Prop := fun b => F b ∨ ∃ p ∈ ls, ∃ m, ρ p.1 = some (b, m)
    have key : ∀ (qs : List (Nat × List AV)) (az : List AV) (ρ1 : Rho), (∀ p ∈ qs, p ∈ ls) → (∀ l x, ρ1 l = some x → ρ l = some x) → VRs ρ1 F1 w az vs → ∃ ρ2 : Rho, (∀ l x, ρ2 l = some x → ρ l = some x) ∧ VRs ρ2 F1 w (qs.foldl (fun az q => frzs q.1 q.2 az) az) vs := by
      intro qs
      induction qs with
      | nil => intro az ρ1 _ h1 h2; exact ⟨ρ1, h1, h2⟩
      | cons q qs ih =>
        intro az ρ1 hq h1 h2
        simp only [List.foldl_cons]
        refine ih _ (rdel q.1 ρ1) (fun p hp => hq p (List.mem_cons_of_mem _ hp)) ?_ ?_
        · intro l x hx; simp only [rdel] at hx; split at hx; cases hx; exact h1 l x hx
        · have hqm := hq q (by simp)
          refine frzs_rel (F := F1) ⟨fun _ h => h, ?_⟩ _ _ h2
          intro r m hl
          have hl' := h1 _ _ hl
          obtain ⟨B, hB, hBc, hbx⟩ := hls q hqm
          obtain ⟨c, _, _, us, hv, hv', _, hcs⟩ := hR.heap.cells hB hl'
          refine ⟨.inr ⟨q, hqm, m, hl'⟩, us, ?_, fun i v hi => ⟨(hcs i v hi).2.2, (hcs i v hi).2.1⟩⟩
          have : VRs (fun _ => none) F w B.cs us := by
            cases hbb : B.boxy
            · simpa [hbb] using hv'
            · exact frees_rel _ _ (hbx hbb) hv
          rw [← hBc]
          exact VRs.keep (fun b h => .inl h) (fun _ _ _ _ h => h) (fun _ _ h => h) _ _ this
    obtain ⟨ρ2, hρ2, hv2⟩ := key ls az' ρ (fun _ h => h) (fun _ _ h => h) (VRs.keep (fun b h => .inl h) (fun _ _ _ _ h => h) (fun _ _ h => h) _ _ hvs)
    rw [has] at hv2
    have hh : HRel (fun _ => none) F1 [] w := ⟨by simp, by simp, by simp, by simp, by
      rintro b (hb | ⟨p, hp, m, hl⟩)
      · exact hR.heap.flt b hb
      · exact hR.heap.lt _ b m hl⟩
    refine (hF (fun _ => none) F1 w vs hh (frees_rel _ _ hfr hv2)).mono ?_
    rintro e w' ⟨x, ρ', F', r, h', rfl, rfl, hvr, hhr, hfr'⟩
    have hblk : ∀ k, k < w.heap.size → w'.heap[k]? = w.heap[k]? := fun k hk => hfr'.block k hk (by simp)
    have hf0 : Fr (fun _ => none) F w (fun _ => none) F w' := {
      os := hfr'.os, tape := hfr'.tape, output := hfr'.output, size := hfr'.size, block := fun k hk _ => hblk k hk, froz := fun _ h => h
      froz' := fun _ h => .inl h, own := fun _ _ _ h => (by cases h), same := fun _ _ _ _ h => (by cases h), gone := fun _ _ h => h }
    obtain ⟨hA, hFr⟩ := hR.ext hf0 (fun b hb => Nat.lt_of_lt_of_le (hR.heap.flt b hb) hfr'.size)
    exact h (i + 1) hi' ρ F _ w' Q (hA.put (dOk_lt hd) (plain_rel _ _ hpl hvr)) fun st' ρ'' F'' a' w'' h1 h2 h3 => hQ st' ρ'' F'' a' w'' h1 h2 (hFr.trans h3)
  · cases hc
def ownR (M : List Int) (r : AV) (h : List (Nat × Blk)) : Prop := ∃ l, 1000 ≤ l ∧ r = .tup [.ref l 0 M.length 1, nil_] ∧ h = [(l, ⟨5, false, by8 M⟩)]
set_option maxHeartbeats 4000000 in
theorem curve_WriteOwn_c {b : Bool} {x y : Int} (hx : w64 x) (hy : w64 y) (hp : isPt b x y = true) : Fn Try.prog 26 [pt (b, x, y)] [] (fun r h => ownR (bytesP b x y) r h) := by
  have ci := curve_Is_c (b := b) hx hy
  have tc : tIface Try.prog 38 = some false := rfl
  rw [hp] at ci
  clear hp
  refine Fn.enter Try.func26 Try.ntmps26 rfl (h := ?_)
  have tf := tf
  have tfb := tfb
  repeat refine AW.seq ?_
  refine AW.reg ?_
  iterate 3 refine AOL.s1 (h := ?_)
  refine AOL.nil ?_
  refine AW.kq [1, 2, 3] (h := ?_)
  repeat refine AW.seq ?_
  refine AW.block ?_
  repeat refine AW.seq ?_
  refine AW.reg ?_
  iterate 1 refine AOL.s1 (h := ?_)
  refine AOL.callD rfl (ci) (by kernel_rfl) rfl rfl (h := ?_)
  iterate 2 refine AOL.s1 (h := ?_)
  refine AOL.nil ?_
  refine AW.kq [1, 2, 3, 8] (h := ?_)
  clear ci
  repeat refine AW.seq ?_
  refine AW.cond rfl (fun c_ => ?_) (fun c_ => ?_)
  · cases c_
  repeat refine AW.seq ?_
  refine AW.reg ?_
  iterate 3 refine AOL.s1 (h := ?_)
  refine AOL.nil ?_
  refine AW.kq [1, 2, 3, 13] (h := ?_)
  repeat refine AW.seq ?_
  cases b with
  | true =>
    refine AW.cond rfl (fun d_ => ?_) (fun d_ => ?_)
    · repeat refine AW.seq ?_
      refine AW.reg ?_
      iterate 3 refine AOL.s1 (h := ?_)
      refine AOL.nil ?_
      refine AW.kq [2, 3] (h := ?_)
      repeat refine AW.seq ?_
      refine AW.ret ?_
      exact ⟨_, [(1256, ⟨5, false, by8 [0]⟩)], rfl, fun p hp => by simp only [List.mem_singleton] at hp; subst hp; first | exact List.mem_cons_self | exact List.mem_cons_of_mem _ List.mem_cons_self, 1256, by decide, rfl, rfl⟩
    cases d_
  | false =>
    refine AW.cond rfl (fun d_ => ?_) (fun d_ => ?_)
    · cases d_
    refine AW.skip ?_
    repeat refine AW.seq ?_
    refine AW.reg ?_
    iterate 2 refine AOL.s1 (h := ?_)
    refine AOL.nil ?_
    refine AW.kq [1, 2, 3, 4] (h := ?_)
    repeat refine AW.seq ?_
    refine AW.reg ?_
    iterate 7 refine AOL.s1 (h := ?_)
    refine AOL.nil ?_
    refine AW.kq [2, 3, 4, 22, 23, 24] (h := ?_)
    repeat refine AW.seq ?_
    refine AW.block ?_
    repeat refine AW.seq ?_
    refine AW.let 1016 (h := ?_)
    refine AW.loopK [2, 3, 4, 22, 23, 24] (fun n s => ∃ k : Nat, s = ⟨41, [(2, .val (.slice none 0 0)), (3, nil_), (4, .ref 1272 0 (wr2 x y k).length 1), (22, .ref 1352 0 2 1), (23, i 2), (24, i k)], [(1272, ⟨5, false, by8 (wr2 x y k)⟩), (1352, ⟨22, false, [u x, u y]⟩)]⟩ ∧ k ≤ 2 ∧ n = 2 - k) 2 ?_ ?_
    · exact ⟨0, rfl, by decide, rfl⟩
    rintro n s ⟨k, rfl, hk, rfl⟩
    repeat refine AW.seq ?_
    refine AW.reg ?_
    iterate 1 refine AOL.s1 (h := ?_)
    refine AOL.nil ?_
    refine AW.kq [2, 3, 4, 22, 23, 24, 25] (h := ?_)
    repeat refine AW.seq ?_
    refine AW.cond rfl (fun e_ => ?_) (fun e_ => ?_)
    · have hk2 : k < 2 := by
        have : (k:Int) < 2 := by simpa using e_
        omega
      obtain ⟨v, r, hv, hd, hG⟩ : ∃ (v : Int) (r : List AV), w64 v ∧ List.drop k [u x, u y] = u v :: r ∧ wr2 x y (k + 1) = wr2 x y k ++ be v := by
        have : k = 0 ∨ k = 1 := by omega
        rcases this with rfl | rfl
        · exact ⟨x, [u y], hx, rfl, rfl⟩
        · exact ⟨y, [], hy, rfl, rfl⟩
      have k0 : (0:Int) ≤ k := by omega
      have k1 : (k:Int) < ((2 : Nat) : Int) := by omega
      have hlG : (wr2 x y k).length = 1 + 8 * k := by
        have : k = 0 ∨ k = 1 := by omega
        rcases this with rfl | rfl <;> rfl
      replace hG : id (wr2 x y (k + 1) = wr2 x y k ++ be v) := hG
      replace hlG : id ((wr2 x y k).length = 1 + 8 * k) := hlG
      generalize wr2 x y k = G at *
      clear e_
      refine AW.skip ?_
      repeat refine AW.seq ?_
      refine AW.block ?_
      repeat refine AW.seq ?_
      refine AW.reg ?_
      iterate 3 refine AOL.s1 (h := ?_)
      refine AOL.nil ?_
      refine AW.kq [2, 3, 4, 6, 22, 23, 24] (h := ?_)
      repeat refine AW.seq ?_
      refine AW.reg ?_
      iterate 1 refine AOL.s1 (h := ?_)
      refine AOL.nil ?_
      refine AW.kq [2, 3, 4, 6, 7, 22, 23, 24] (h := ?_)
      clear hd k0 k1
      repeat refine AW.seq ?_
      refine AW.block ?_
      repeat refine AW.seq ?_
      refine AW.loopK [2, 3, 4, 6, 7, 22, 23, 24] (fun n s => ∃ j : Nat, s = ⟨41, [(2, .val (.slice none 0 0)), (3, nil_), (4, .ref 1272 0 (G ++ (be v).take j).length 1), (6, u v), (7, i (56 - 8 * (j : Int))), (22, .ref 1352 0 2 1), (23, i 2), (24, i k)], [(1272, ⟨5, false, by8 (G ++ (be v).take j)⟩), (1352, ⟨22, false, [u x, u y]⟩)]⟩ ∧ j ≤ 8 ∧ n = 8 - j) 8 ?_ ?_
      · exact ⟨0, by rw [List.take_zero, List.append_nil]; rfl, by decide, rfl⟩
      rintro n s ⟨j, rfl, hj, rfl⟩
      repeat refine AW.seq ?_
      refine AW.reg ?_
      iterate 2 refine AOL.s1 (h := ?_)
      refine AOL.nil ?_
      refine AW.kq [2, 3, 4, 6, 7, 22, 23, 24, 29] (h := ?_)
      repeat refine AW.seq ?_
      refine AW.cond rfl (fun g_ => ?_) (fun g_ => ?_)
      · have hj8 : j < 8 := by
          have : (56:Int) - 8 * j ≥ 0 := by simpa using g_
          omega
        have hA := be_take v j hj8
        obtain ⟨sh, hsh⟩ : ∃ sh : Nat, sh = 56 - 8 * j := ⟨_, rfl⟩
        have e0 : (56:Int) - 8 * j = (sh : Int) := by omega
        obtain ⟨f1, f2⟩ := shr_b (y := v) (k := sh) hv (by omega)
        have f3 : IntKind.u8.wrap (v / 2 ^ sh) = v / 256 ^ (7 - j) % 256 := by
          have : (2:Int) ^ sh = 256 ^ (7 - j) := by
            rw [hsh, show (256:Int) = 2 ^ 8 from rfl, ← Int.pow_mul]; congr 1; omega
          rw [this]; rfl
        have s0 : ¬ (sh : Int) < 0 := by omega
        have e1 : IntKind.i64.wrap ((sh : Int) - 8) = 56 - 8 * ((j + 1 : Nat) : Int) := by rw [wrapI_o (by omega) (by omega)]; omega
        have hlA : (G ++ (be v).take j).length < 100 := by
          have : G.length = 1 + 8 * k := hlG
          rw [List.length_append, List.length_take, be_len]; omega
        have hA' : G ++ (be v).take (j + 1) = (G ++ (be v).take j) ++ [v / 256 ^ (7 - j) % 256] := by rw [hA, List.append_assoc]
        rw [e0]
        generalize v / 256 ^ (7 - j) % 256 = c at *
        clear hA
        generalize hB : G ++ (be v).take j = A at *
        replace hB := id hB
        have a1 : (by8 A).length = A.length := by8_len A
        have a2 : A.length + 1 ≤ 140737488355328 := by omega
        have a3 : A.length + 1 ≤ 4611686018427387904 := by omega
        have a4 : A.length ≤ 140737488355327 := by omega
        have a5 : A.length ≤ 4611686018427387903 := by omega
        have hA2 : id (G ++ (be v).take (j + 1) = A ++ [c]) := hA'
        clear hA' g_ hsh e0 f2 hB
        refine AW.skip ?_
        repeat refine AW.seq ?_
        refine AW.block ?_
        repeat refine AW.seq ?_
        refine AW.reg ?_
        iterate 8 refine AOL.s1 (h := ?_)
        refine AOL.nil ?_
        refine AW.kq [2, 3, 4, 6, 7, 22, 23, 24] (h := ?_)
        refine AW.let 1592 (h := ?_)
        repeat refine AW.seq ?_
        refine AW.reg ?_
        iterate 3 refine AOL.s1 (h := ?_)
        refine AOL.nil ?_
        have hA' : G ++ (be v).take (j + 1) = A ++ [c] := hA2
        exact ⟨8 - (j + 1), by omega, j + 1, by rw [hA', List.length_append, ← by8_snoc]; rfl, by omega, rfl⟩
      have hj8 : j = 8 := by
        have : ¬ (56:Int) - 8 * j ≥ 0 := by simpa using g_
        omega
      subst hj8
      have hG' : wr2 x y (k + 1) = G ++ List.take 8 (be v) := hG
      have e1 : IntKind.i64.wrap ((k : Int) + 1) = ((k + 1 : Nat) : Int) := by rw [wrapI_o (by omega) (by omega)]; rfl
      rw [← hG']
      clear g_ hG hG' hlG
      repeat refine AW.seq ?_
      refine AW.exit ?_
      repeat (first | refine Kseq.ex ?_ | refine Kloop.ex ?_ | refine Kblock.miss (by decide) ?_)
      refine Kblock.hit ?_
      refine AW.kq [2, 3, 4, 22, 23, 24] (h := ?_)
      repeat refine AW.seq ?_
      refine AW.reg ?_
      iterate 2 refine AOL.s1 (h := ?_)
      refine AOL.nil ?_
      exact ⟨2 - (k + 1), by omega, k + 1, rfl, by omega, rfl⟩
    have hk2 : k = 2 := by
      have : ¬ (k:Int) < 2 := by simpa using e_
      omega
    subst hk2
    clear e_
    repeat refine AW.seq ?_
    refine AW.exit ?_
    repeat (first | refine Kseq.ex ?_ | refine Kloop.ex ?_ | refine Kblock.miss (by decide) ?_)
    refine Kblock.hit ?_
    refine AW.kq [4] (h := ?_)
    repeat refine AW.seq ?_
    refine AW.reg ?_
    iterate 3 refine AOL.s1 (h := ?_)
    refine AOL.nil ?_
    refine AW.kq [2, 3] (h := ?_)
    repeat refine AW.seq ?_
    refine AW.ret ?_
    exact ⟨_, [(1272, ⟨5, false, by8 (wr2 x y 2)⟩)], rfl, fun p hp => by simp only [List.mem_singleton] at hp; subst hp; first | exact List.mem_cons_self | exact List.mem_cons_of_mem _ List.mem_cons_self, 1272, by decide, rfl, rfl⟩
theorem rens_by8 (f : Nat → Nat) : ∀ L : List Int, rens f (by8 L) = by8 L
  | [] => rfl
  | n :: L => by show ren f (.val (.int .u8 n)) :: rens f (by8 L) = _; rw [rens_by8 f L]; rfl
theorem sig_one (l : Nat) (hl : 1000 ≤ l) (B : Blk) : sig [] 5000 [(l, B)] l = 5000 := by
  unfold sig
  rw [if_neg (by omega)]
  show 5000 + (if l = l then 0 else _) = 5000
  rw [if_pos rfl]
theorem callOwn {P : Program} {ops : Array Oper} {o : Oper} {os : List Oper} {K : St → Prop} {st st' : St} {g : FuncId} {az : List AV} {M : List Int}
    (hF : Fn P g az [] (ownR M)) (hc : callL st ops.toList o = some (g, az)) (hr : rens (nth []) az = az) (hz : labss az = []) (hcl : callable P g = true)
    (hst : ({ (st.drop 5000) with h := ins 5000 ⟨5, false, by8 M⟩ (st.drop 5000).h } : St).put o.dst (.tup [.ref 5000 0 M.length 1, nil_]) = st' := by
      simp only [St.drop, mapT, mapH, kill, kills, del, St.put, ins, reduceIte, Nat.reduceLT, Nat.reduceEqDiff, Bool.false_eq_true]; exact rfl)
    (h : AOL P ops os K st') : AOL P ops (o :: os) K st := by
  subst hst
  refine AOL.callR (las := az) (hin := []) [] 5000 (by simp) (by simp) (by decide) hc hr (by rw [hz]; simp) (by simp) hcl hF ?_
  rintro r hh ⟨l, hl, rfl, rfl⟩
  have hs := sig_one l hl ⟨5, false, by8 M⟩
  have hB : renB (sig [] 5000 [(l, (⟨5, false, by8 M⟩ : Blk))]) ⟨5, false, by8 M⟩ = ⟨5, false, by8 M⟩ := by
    unfold renB; rw [rens_by8]
  refine ⟨⟨?_, ?_, ?_, ?_, ?_⟩, ?_⟩
  · intro p hp; simp only [List.mem_singleton] at hp; subst hp; exact .inr hl
  · intro p hp h; simp only [List.mem_singleton] at hp; subst hp; exact absurd h (Nat.not_lt.2 hl)
  · intro k hk
    refine ⟨_, List.mem_singleton_self _, ?_⟩
    have : k ∈ [l] := hk
    simp at this; exact this.symm
  · intro p hp h; simp only [List.mem_singleton] at hp; subst hp; cases h
  · intro p hp q hq _; simp only [List.mem_singleton] at hp hq; subst hp hq; rfl
  · have e1 : newNames [] 5000 [(l, (⟨5, false, by8 M⟩ : Blk))] [(l, ⟨5, false, by8 M⟩)] = [5000] := by
      show (if l < 1000 then _ else sig [] 5000 [(l, (⟨5, false, by8 M⟩ : Blk))] l :: []) = _
      rw [if_neg (by omega), hs]
    have e2 : st.after [] 5000 [(l, (⟨5, false, by8 M⟩ : Blk))] = { (st.drop 5000) with h := ins 5000 ⟨5, false, by8 M⟩ (st.drop 5000).h } := by
      show ({ (st.drops ([] ++ newNames [] 5000 [(l, (⟨5, false, by8 M⟩ : Blk))] [(l, ⟨5, false, by8 M⟩)])) with h := putH (sig [] 5000 [(l, (⟨5, false, by8 M⟩ : Blk))]) [(l, ⟨5, false, by8 M⟩)] (st.drops ([] ++ newNames [] 5000 [(l, (⟨5, false, by8 M⟩ : Blk))] [(l, ⟨5, false, by8 M⟩)])).h } : St) = _
      rw [e1]
      show ({ (st.drop 5000) with h := ins (sig [] 5000 [(l, (⟨5, false, by8 M⟩ : Blk))] l) (renB (sig [] 5000 [(l, (⟨5, false, by8 M⟩ : Blk))]) ⟨5, false, by8 M⟩) (st.drop 5000).h } : St) = _
      rw [hs, hB]
    rw [e2]
    have e3 : ren (sig [] 5000 [(l, (⟨5, false, by8 M⟩ : Blk))]) (.tup [.ref l 0 M.length 1, nil_]) = .tup [.ref 5000 0 M.length 1, nil_] := by
      show AV.tup [.ref (sig [] 5000 [(l, (⟨5, false, by8 M⟩ : Blk))] l) 0 M.length 1, nil_] = _
      rw [hs]
    rw [e3]
    exact h
set_option maxHeartbeats 8000000 in
theorem obollaw03_CurveStays_c {b : Bool} {x y : Int} (hx : w64 x) (hy : w64 y) {L : List Int} (hb : ∀ b ∈ L, b8 b) (hl : L.length ≤ 140737488355327) : Fn Try.prog 9 [pt (b, x, y), sl8 L] [] (fun r _ => r = bo true) := by
  have eqPt : eqT Try.prog 24 = some [.bool, .int, .int] := eqT_of (by kernel_rfl) (by kernel_rfl) (by kernel_rfl)
  have tc : tIface Try.prog 38 = some false := rfl
  have cw := curve_Write_c (b := b) hx hy
  have cb := obolref03_Bytes_c (b := b) hx hy
  have co := fun h => curve_WriteOwn_c (b := b) hx hy h
  have cr := curve_Read_c hb (by omega)
  have hsub : sub 0 (L.length * 1) (by8 L) = by8 L := sub_all (by rw [by8_len]; omega)
  have hw17 := bytesP_len b x y
  have a1 : (by8 L).length = L.length := by8_len L
  have a2 : L.length ≤ 140737488355328 := by omega
  have a3 : L.length ≤ 4611686018427387904 := by omega
  unfold writeV at cw
  obtain ⟨p0, p1, p2, hE⟩ : ∃ p0 p1 p2, readC L = .tup [pt (p0, p1, p2), nil_] ∨ readC L = .tup [pt (p0, p1, p2), er 3] := by
    rcases read_both hb with ⟨_, h⟩ | ⟨b, x, y, _, h, _⟩
    · exact ⟨_, _, _, .inr h⟩
    · exact ⟨_, _, _, .inl h⟩
  generalize bytesP b x y = W at *
  generalize isPt b x y = p at *
  rcases hE with hE | hE
  · rw [hE] at cr
    have cr2 := cr
    rw [show (sl8 L : AV) = .sl L.length (sub 0 (L.length * 1) (by8 L)) by rw [hsub]] at cr2
    clear hE hsub
    cases p with
    | true =>
      rw [if_pos rfl] at cw
      have co := co rfl
      refine Fn.enter Try.func9 Try.ntmps9 rfl (h := ?_)
      have tf := tf
      have tfb := tfb
      repeat refine AW.seq ?_
      refine AW.reg ?_
      iterate 2 refine AOL.s1 (h := ?_)
      refine AOL.nil ?_
      refine AW.kq [1, 2] (h := ?_)
      repeat refine AW.seq ?_
      refine AW.reg ?_
      refine AOL.callD rfl (obollaw03_up_c) (by kernel_rfl) rfl rfl (h := ?_)
      iterate 1 refine AOL.s1 (h := ?_)
      refine AOL.nil ?_
      refine AW.kq [1, 2, 5] (h := ?_)
      repeat refine AW.seq ?_
      refine AW.reg ?_
      iterate 4 refine AOL.s1 (h := ?_)
      refine AOL.nil ?_
      refine AW.kq [1, 2, 5, 6] (h := ?_)
      repeat refine AW.seq ?_
      refine AW.reg ?_
      iterate 1 refine AOL.s1 (h := ?_)
      refine callP [(1304, by8 L)] (by intro p hp; simp only [List.mem_singleton] at hp; subst hp; exact ⟨_, rfl, rfl, fun h => by cases h⟩) (by kernel_rfl) cr2 (by kernel_rfl) rfl rfl (h := ?_)
      iterate 6 refine AOL.s1 (h := ?_)
      refine AOL.nil ?_
      refine AW.kq [1, 2, 5, 6, 7, 8] (h := ?_)
      clear cr2
      repeat refine AW.seq ?_
      refine AW.reg ?_
      iterate 6 refine AOL.s1 (h := ?_)
      refine AOL.nil ?_
      refine AW.kq [1, 2, 5, 6, 7, 8, 9] (h := ?_)
      repeat refine AW.seq ?_
      refine AW.reg ?_
      iterate 1 refine AOL.s1 (h := ?_)
      refine AOL.nil ?_
      refine AW.kq [1, 2, 5, 6, 7, 8, 9, 10] (h := ?_)
      repeat refine AW.seq ?_
      refine AW.block ?_
      repeat refine AW.seq ?_
      refine AW.loopK [1, 2, 5, 6, 7, 8, 9, 10] (fun n s => ∃ (k : Nat) (M : List Int), s = ⟨103, [(1, sl8 L), (2, .ptr 1032 0), (5, bo true), (6, .ref 1304 0 L.length 1), (7, .ptr 1112 0), (8, nil_), (9, bo true), (10, i k)], [(1032, ⟨24, true, [bo b, u x, u y]⟩), (1112, ⟨24, true, [bo p0, u p1, u p2]⟩), (1304, ⟨5, false, by8 M⟩)]⟩ ∧ k ≤ L.length ∧ n = L.length - k ∧ id (M.length = L.length)) L.length ?_ ?_
      · exact ⟨0, L, rfl, Nat.zero_le _, rfl, rfl⟩
      rintro n s ⟨k, M, rfl, hk, rfl, hM⟩
      repeat refine AW.seq ?_
      refine AW.reg ?_
      iterate 4 refine AOL.s1 (h := ?_)
      refine AOL.nil ?_
      refine AW.kq [1, 2, 5, 6, 7, 8, 9, 10, 35] (h := ?_)
      repeat refine AW.seq ?_
      refine AW.cond rfl (fun c_ => ?_) (fun c_ => ?_)
      · have hkN : k < L.length := by
          have : (k:Int) < L.length := by simpa using c_
          omega
        have hM' : M.length = L.length := hM
        obtain ⟨c, r, e⟩ : ∃ c r, M.drop k = c :: r := by
          cases h : M.drop k with
          | nil => have := List.drop_eq_nil_iff.1 h; omega
          | cons c r => exact ⟨c, r, rfl⟩
        obtain ⟨q1, q2, q3, hd⟩ := drop_at e
        have k0 : (0:Int) ≤ k := by omega
        have k1 : (k:Int) < L.length := by omega
        have m2 : k + 1 ≤ (by8 M).length := by rw [by8_len]; omega
        have e1 : IntKind.i64.wrap ((k : Int) + 1) = ((k + 1 : Nat) : Int) := by rw [wrapI_o (by omega) (by omega)]; rfl
        clear e q1 q2 q3 c_ hM'
        refine AW.skip ?_
        repeat refine AW.seq ?_
        refine AW.block ?_
        repeat refine AW.seq ?_
        refine AW.reg ?_
        iterate 9 refine AOL.s1 (h := ?_)
        refine AOL.nil ?_
        refine AW.kq [1, 2, 5, 6, 7, 8, 9, 10] (h := ?_)
        rw [by8_set]
        repeat refine AW.seq ?_
        refine AW.reg ?_
        iterate 3 refine AOL.s1 (h := ?_)
        refine AOL.nil ?_
        exact ⟨L.length - (k + 1), by omega, k + 1, _, rfl, by omega, rfl, by have hM' : M.length = L.length := hM; show (List.set _ _ _).length = _; rw [List.length_set]; exact hM'⟩
      clear c_ hM hk
      repeat refine AW.seq ?_
      refine AW.exit ?_
      repeat (first | refine Kseq.ex ?_ | refine Kloop.ex ?_ | refine Kblock.miss (by decide) ?_)
      refine Kblock.hit ?_
      refine AW.kq [1, 2, 5, 7, 8, 9] (h := ?_)
      refine AW.let 1304 (h := ?_)
      repeat refine AW.seq ?_
      refine AW.reg ?_
      iterate 1 refine AOL.s1 (h := ?_)
      refine callOwn co (by kernel_rfl) rfl rfl (by kernel_rfl) (h := ?_)
      iterate 5 refine AOL.s1 (h := ?_)
      refine AOL.nil ?_
      refine AW.kq [1, 2, 5, 7, 8, 9, 11] (h := ?_)
      repeat refine AW.seq ?_
      refine AW.reg ?_
      iterate 1 refine AOL.s1 (h := ?_)
      refine AOL.nil ?_
      refine AW.kq [1, 2, 5, 7, 8, 9, 11, 13] (h := ?_)
      repeat refine AW.seq ?_
      refine AW.block ?_
      repeat refine AW.seq ?_
      refine AW.loopK [1, 2, 5, 7, 8, 9, 11, 13] (fun n s => ∃ (k : Nat) (M : List Int), s = ⟨103, [(1, sl8 L), (2, .ptr 1032 0), (5, bo true), (7, .ptr 1112 0), (8, nil_), (9, bo true), (11, .ref 5000 0 W.length 1), (13, i k)], [(1032, ⟨24, true, [bo b, u x, u y]⟩), (1112, ⟨24, true, [bo p0, u p1, u p2]⟩), (5000, ⟨5, false, by8 M⟩)]⟩ ∧ k ≤ W.length ∧ n = W.length - k ∧ id (M.length = W.length)) W.length ?_ ?_
      · exact ⟨0, W, rfl, Nat.zero_le _, rfl, rfl⟩
      rintro n s ⟨k, M, rfl, hk, rfl, hM⟩
      repeat refine AW.seq ?_
      refine AW.reg ?_
      iterate 4 refine AOL.s1 (h := ?_)
      refine AOL.nil ?_
      refine AW.kq [1, 2, 5, 7, 8, 9, 11, 13, 54] (h := ?_)
      repeat refine AW.seq ?_
      refine AW.cond rfl (fun c_ => ?_) (fun c_ => ?_)
      · have hkN : k < W.length := by
          have : (k:Int) < W.length := by simpa using c_
          omega
        have hM' : M.length = W.length := hM
        obtain ⟨c, r, e⟩ : ∃ c r, M.drop k = c :: r := by
          cases h : M.drop k with
          | nil => have := List.drop_eq_nil_iff.1 h; omega
          | cons c r => exact ⟨c, r, rfl⟩
        obtain ⟨q1, q2, q3, hd⟩ := drop_at e
        have k0 : (0:Int) ≤ k := by omega
        have k1 : (k:Int) < W.length := by omega
        have m2 : k + 1 ≤ (by8 M).length := by rw [by8_len]; omega
        have e1 : IntKind.i64.wrap ((k : Int) + 1) = ((k + 1 : Nat) : Int) := by rw [wrapI_o (by omega) (by omega)]; rfl
        clear e q1 q2 q3 c_ hM'
        refine AW.skip ?_
        repeat refine AW.seq ?_
        refine AW.block ?_
        repeat refine AW.seq ?_
        refine AW.reg ?_
        iterate 9 refine AOL.s1 (h := ?_)
        refine AOL.nil ?_
        refine AW.kq [1, 2, 5, 7, 8, 9, 11, 13] (h := ?_)
        rw [by8_set]
        repeat refine AW.seq ?_
        refine AW.reg ?_
        iterate 3 refine AOL.s1 (h := ?_)
        refine AOL.nil ?_
        exact ⟨W.length - (k + 1), by omega, k + 1, _, rfl, by omega, rfl, by have hM' : M.length = W.length := hM; show (List.set _ _ _).length = _; rw [List.length_set]; exact hM'⟩
      clear c_ hM hk
      repeat refine AW.seq ?_
      refine AW.exit ?_
      repeat (first | refine Kseq.ex ?_ | refine Kloop.ex ?_ | refine Kblock.miss (by decide) ?_)
      refine Kblock.hit ?_
      refine AW.kq [1, 2, 5, 7, 8, 9] (h := ?_)
      refine AW.let 5000 (h := ?_)
      repeat refine AW.seq ?_
      refine AW.reg ?_
      iterate 1 refine AOL.s1 (h := ?_)
      refine AOL.callD rfl (cw) (by kernel_rfl) rfl rfl (h := ?_)
      iterate 5 refine AOL.s1 (h := ?_)
      refine AOL.nil ?_
      refine AW.kq [1, 2, 5, 7, 8, 9, 14, 15] (h := ?_)
      repeat refine AW.seq ?_
      refine AW.reg ?_
      iterate 1 refine AOL.s1 (h := ?_)
      refine AOL.callD rfl (cr) (by kernel_rfl) rfl rfl (h := ?_)
      iterate 6 refine AOL.s1 (h := ?_)
      refine AOL.nil ?_
      refine AW.kq [2, 5, 7, 8, 9, 14, 15, 16, 17] (h := ?_)
      repeat refine AW.seq ?_
      refine AW.drw 28 [] (by kernel_rfl) (h := ?_)
      iterate 23 refine ADL.dm 1 (h := ?_)
      refine ADL.call rfl (cb) (by kernel_rfl) rfl rfl (h := ?_)
      iterate 4 refine ADL.dm 1 (h := ?_)
      refine ADL.done hmix rfl rfl (hT := ?_)
      iterate 1 refine AOL.s1 (h := ?_)
      refine AOL.nil ?_
      refine AW.kq [4] (h := ?_)
      repeat refine AW.seq ?_
      refine AW.ret ?_
      refine ⟨_, [], rfl, HOk.nil _, ?_⟩
      rfl
    | false =>
      rw [if_neg (by decide)] at cw
      clear co
      refine Fn.enter Try.func9 Try.ntmps9 rfl (h := ?_)
      have tf := tf
      have tfb := tfb
      repeat refine AW.seq ?_
      refine AW.reg ?_
      iterate 2 refine AOL.s1 (h := ?_)
      refine AOL.nil ?_
      refine AW.kq [1, 2] (h := ?_)
      repeat refine AW.seq ?_
      refine AW.reg ?_
      refine AOL.callD rfl (obollaw03_up_c) (by kernel_rfl) rfl rfl (h := ?_)
      iterate 1 refine AOL.s1 (h := ?_)
      refine AOL.nil ?_
      refine AW.kq [1, 2, 5] (h := ?_)
      repeat refine AW.seq ?_
      refine AW.reg ?_
      iterate 4 refine AOL.s1 (h := ?_)
      refine AOL.nil ?_
      refine AW.kq [1, 2, 5, 6] (h := ?_)
      repeat refine AW.seq ?_
      refine AW.reg ?_
      iterate 1 refine AOL.s1 (h := ?_)
      refine callP [(1304, by8 L)] (by intro p hp; simp only [List.mem_singleton] at hp; subst hp; exact ⟨_, rfl, rfl, fun h => by cases h⟩) (by kernel_rfl) cr2 (by kernel_rfl) rfl rfl (h := ?_)
      iterate 6 refine AOL.s1 (h := ?_)
      refine AOL.nil ?_
      refine AW.kq [1, 2, 5, 6, 7, 8] (h := ?_)
      clear cr2
      repeat refine AW.seq ?_
      refine AW.reg ?_
      iterate 6 refine AOL.s1 (h := ?_)
      refine AOL.nil ?_
      refine AW.kq [1, 2, 5, 6, 7, 8, 9] (h := ?_)
      repeat refine AW.seq ?_
      refine AW.reg ?_
      iterate 1 refine AOL.s1 (h := ?_)
      refine AOL.nil ?_
      refine AW.kq [1, 2, 5, 6, 7, 8, 9, 10] (h := ?_)
      repeat refine AW.seq ?_
      refine AW.block ?_
      repeat refine AW.seq ?_
      refine AW.loopK [1, 2, 5, 6, 7, 8, 9, 10] (fun n s => ∃ (k : Nat) (M : List Int), s = ⟨103, [(1, sl8 L), (2, .ptr 1032 0), (5, bo true), (6, .ref 1304 0 L.length 1), (7, .ptr 1112 0), (8, nil_), (9, bo true), (10, i k)], [(1032, ⟨24, true, [bo b, u x, u y]⟩), (1112, ⟨24, true, [bo p0, u p1, u p2]⟩), (1304, ⟨5, false, by8 M⟩)]⟩ ∧ k ≤ L.length ∧ n = L.length - k ∧ id (M.length = L.length)) L.length ?_ ?_
      · exact ⟨0, L, rfl, Nat.zero_le _, rfl, rfl⟩
      rintro n s ⟨k, M, rfl, hk, rfl, hM⟩
      repeat refine AW.seq ?_
      refine AW.reg ?_
      iterate 4 refine AOL.s1 (h := ?_)
      refine AOL.nil ?_
      refine AW.kq [1, 2, 5, 6, 7, 8, 9, 10, 35] (h := ?_)
      repeat refine AW.seq ?_
      refine AW.cond rfl (fun c_ => ?_) (fun c_ => ?_)
      · have hkN : k < L.length := by
          have : (k:Int) < L.length := by simpa using c_
          omega
        have hM' : M.length = L.length := hM
        obtain ⟨c, r, e⟩ : ∃ c r, M.drop k = c :: r := by
          cases h : M.drop k with
          | nil => have := List.drop_eq_nil_iff.1 h; omega
          | cons c r => exact ⟨c, r, rfl⟩
        obtain ⟨q1, q2, q3, hd⟩ := drop_at e
        have k0 : (0:Int) ≤ k := by omega
        have k1 : (k:Int) < L.length := by omega
        have m2 : k + 1 ≤ (by8 M).length := by rw [by8_len]; omega
        have e1 : IntKind.i64.wrap ((k : Int) + 1) = ((k + 1 : Nat) : Int) := by rw [wrapI_o (by omega) (by omega)]; rfl
        clear e q1 q2 q3 c_ hM'
        refine AW.skip ?_
        repeat refine AW.seq ?_
        refine AW.block ?_
        repeat refine AW.seq ?_
        refine AW.reg ?_
        iterate 9 refine AOL.s1 (h := ?_)
        refine AOL.nil ?_
        refine AW.kq [1, 2, 5, 6, 7, 8, 9, 10] (h := ?_)
        rw [by8_set]
        repeat refine AW.seq ?_
        refine AW.reg ?_
        iterate 3 refine AOL.s1 (h := ?_)
        refine AOL.nil ?_
        exact ⟨L.length - (k + 1), by omega, k + 1, _, rfl, by omega, rfl, by have hM' : M.length = L.length := hM; show (List.set _ _ _).length = _; rw [List.length_set]; exact hM'⟩
      clear c_ hM hk
      repeat refine AW.seq ?_
      refine AW.exit ?_
      repeat (first | refine Kseq.ex ?_ | refine Kloop.ex ?_ | refine Kblock.miss (by decide) ?_)
      refine Kblock.hit ?_
      refine AW.kq [1, 2, 5, 7, 8, 9] (h := ?_)
      refine AW.let 1304 (h := ?_)
      repeat refine AW.seq ?_
      refine AW.reg ?_
      iterate 1 refine AOL.s1 (h := ?_)
      refine AOL.callD rfl (cw) (by kernel_rfl) rfl rfl (h := ?_)
      iterate 5 refine AOL.s1 (h := ?_)
      refine AOL.nil ?_
      refine AW.kq [1, 2, 5, 7, 8, 9, 11] (h := ?_)
      repeat refine AW.seq ?_
      refine AW.reg ?_
      iterate 1 refine AOL.s1 (h := ?_)
      refine AOL.nil ?_
      refine AW.kq [1, 2, 5, 7, 8, 9, 11, 13] (h := ?_)
      repeat refine AW.seq ?_
      refine AW.block ?_
      repeat refine AW.seq ?_
      refine AW.loopK [1, 2, 5, 7, 8, 9, 11, 13] (fun n s => s = ⟨103, [(1, sl8 L), (2, .ptr 1032 0), (5, bo true), (7, .ptr 1112 0), (8, nil_), (9, bo true), (11, .val (.slice none 0 0)), (13, i 0)], [(1032, ⟨24, true, [bo b, u x, u y]⟩), (1112, ⟨24, true, [bo p0, u p1, u p2]⟩)]⟩ ∧ n = 0) 0 ?_ ?_
      · exact ⟨rfl, rfl⟩
      rintro n s ⟨rfl, rfl⟩
      repeat refine AW.seq ?_
      refine AW.reg ?_
      iterate 4 refine AOL.s1 (h := ?_)
      refine AOL.nil ?_
      refine AW.kq [1, 2, 5, 7, 8, 9, 11, 13, 54] (h := ?_)
      repeat refine AW.seq ?_
      refine AW.cond rfl (fun c_ => ?_) (fun c_ => ?_)
      · cases c_
      clear c_
      repeat refine AW.seq ?_
      refine AW.exit ?_
      repeat (first | refine Kseq.ex ?_ | refine Kloop.ex ?_ | refine Kblock.miss (by decide) ?_)
      refine Kblock.hit ?_
      refine AW.kq [1, 2, 5, 7, 8, 9] (h := ?_)
      repeat refine AW.seq ?_
      refine AW.reg ?_
      iterate 1 refine AOL.s1 (h := ?_)
      refine AOL.callD rfl (cw) (by kernel_rfl) rfl rfl (h := ?_)
      iterate 5 refine AOL.s1 (h := ?_)
      refine AOL.nil ?_
      refine AW.kq [1, 2, 5, 7, 8, 9, 14, 15] (h := ?_)
      repeat refine AW.seq ?_
      refine AW.reg ?_
      iterate 1 refine AOL.s1 (h := ?_)
      refine AOL.callD rfl (cr) (by kernel_rfl) rfl rfl (h := ?_)
      iterate 6 refine AOL.s1 (h := ?_)
      refine AOL.nil ?_
      refine AW.kq [2, 5, 7, 8, 9, 14, 15, 16, 17] (h := ?_)
      repeat refine AW.seq ?_
      refine AW.drw 28 [] (by kernel_rfl) (h := ?_)
      iterate 28 refine ADL.dm 1 (h := ?_)
      refine ADL.done hmix rfl rfl (hT := ?_)
      iterate 1 refine AOL.s1 (h := ?_)
      refine AOL.nil ?_
      refine AW.kq [4] (h := ?_)
      repeat refine AW.seq ?_
      refine AW.ret ?_
      refine ⟨_, [], rfl, HOk.nil _, ?_⟩
      rfl
  · rw [hE] at cr
    have cr2 := cr
    rw [show (sl8 L : AV) = .sl L.length (sub 0 (L.length * 1) (by8 L)) by rw [hsub]] at cr2
    clear hE hsub
    cases p with
    | true =>
      rw [if_pos rfl] at cw
      have co := co rfl
      refine Fn.enter Try.func9 Try.ntmps9 rfl (h := ?_)
      have tf := tf
      have tfb := tfb
      repeat refine AW.seq ?_
      refine AW.reg ?_
      iterate 2 refine AOL.s1 (h := ?_)
      refine AOL.nil ?_
      refine AW.kq [1, 2] (h := ?_)
      repeat refine AW.seq ?_
      refine AW.reg ?_
      refine AOL.callD rfl (obollaw03_up_c) (by kernel_rfl) rfl rfl (h := ?_)
      iterate 1 refine AOL.s1 (h := ?_)
      refine AOL.nil ?_
      refine AW.kq [1, 2, 5] (h := ?_)
      repeat refine AW.seq ?_
      refine AW.reg ?_
      iterate 4 refine AOL.s1 (h := ?_)
      refine AOL.nil ?_
      refine AW.kq [1, 2, 5, 6] (h := ?_)
      repeat refine AW.seq ?_
      refine AW.reg ?_
      iterate 1 refine AOL.s1 (h := ?_)
      refine callP [(1304, by8 L)] (by intro p hp; simp only [List.mem_singleton] at hp; subst hp; exact ⟨_, rfl, rfl, fun h => by cases h⟩) (by kernel_rfl) cr2 (by kernel_rfl) rfl rfl (h := ?_)
      iterate 6 refine AOL.s1 (h := ?_)
      refine AOL.nil ?_
      refine AW.kq [1, 2, 5, 6, 7, 8] (h := ?_)
      clear cr2
      repeat refine AW.seq ?_
      refine AW.reg ?_
      iterate 6 refine AOL.s1 (h := ?_)
      refine AOL.nil ?_
      refine AW.kq [1, 2, 5, 6, 7, 8, 9] (h := ?_)
      repeat refine AW.seq ?_
      refine AW.reg ?_
      iterate 1 refine AOL.s1 (h := ?_)
      refine AOL.nil ?_
      refine AW.kq [1, 2, 5, 6, 7, 8, 9, 10] (h := ?_)
      repeat refine AW.seq ?_
      refine AW.block ?_
      repeat refine AW.seq ?_
      refine AW.loopK [1, 2, 5, 6, 7, 8, 9, 10] (fun n s => ∃ (k : Nat) (M : List Int), s = ⟨103, [(1, sl8 L), (2, .ptr 1032 0), (5, bo true), (6, .ref 1304 0 L.length 1), (7, .ptr 1112 0), (8, er 3), (9, bo true), (10, i k)], [(1032, ⟨24, true, [bo b, u x, u y]⟩), (1112, ⟨24, true, [bo p0, u p1, u p2]⟩), (1304, ⟨5, false, by8 M⟩)]⟩ ∧ k ≤ L.length ∧ n = L.length - k ∧ id (M.length = L.length)) L.length ?_ ?_
      · exact ⟨0, L, rfl, Nat.zero_le _, rfl, rfl⟩
      rintro n s ⟨k, M, rfl, hk, rfl, hM⟩
      repeat refine AW.seq ?_
      refine AW.reg ?_
      iterate 4 refine AOL.s1 (h := ?_)
      refine AOL.nil ?_
      refine AW.kq [1, 2, 5, 6, 7, 8, 9, 10, 35] (h := ?_)
      repeat refine AW.seq ?_
      refine AW.cond rfl (fun c_ => ?_) (fun c_ => ?_)
      · have hkN : k < L.length := by
          have : (k:Int) < L.length := by simpa using c_
          omega
        have hM' : M.length = L.length := hM
        obtain ⟨c, r, e⟩ : ∃ c r, M.drop k = c :: r := by
          cases h : M.drop k with
          | nil => have := List.drop_eq_nil_iff.1 h; omega
          | cons c r => exact ⟨c, r, rfl⟩
        obtain ⟨q1, q2, q3, hd⟩ := drop_at e
        have k0 : (0:Int) ≤ k := by omega
        have k1 : (k:Int) < L.length := by omega
        have m2 : k + 1 ≤ (by8 M).length := by rw [by8_len]; omega
        have e1 : IntKind.i64.wrap ((k : Int) + 1) = ((k + 1 : Nat) : Int) := by rw [wrapI_o (by omega) (by omega)]; rfl
        clear e q1 q2 q3 c_ hM'
        refine AW.skip ?_
        repeat refine AW.seq ?_
        refine AW.block ?_
        repeat refine AW.seq ?_
        refine AW.reg ?_
        iterate 9 refine AOL.s1 (h := ?_)
        refine AOL.nil ?_
        refine AW.kq [1, 2, 5, 6, 7, 8, 9, 10] (h := ?_)
        rw [by8_set]
        repeat refine AW.seq ?_
        refine AW.reg ?_
        iterate 3 refine AOL.s1 (h := ?_)
        refine AOL.nil ?_
        exact ⟨L.length - (k + 1), by omega, k + 1, _, rfl, by omega, rfl, by have hM' : M.length = L.length := hM; show (List.set _ _ _).length = _; rw [List.length_set]; exact hM'⟩
      clear c_ hM hk
      repeat refine AW.seq ?_
      refine AW.exit ?_
      repeat (first | refine Kseq.ex ?_ | refine Kloop.ex ?_ | refine Kblock.miss (by decide) ?_)
      refine Kblock.hit ?_
      refine AW.kq [1, 2, 5, 7, 8, 9] (h := ?_)
      refine AW.let 1304 (h := ?_)
      repeat refine AW.seq ?_
      refine AW.reg ?_
      iterate 1 refine AOL.s1 (h := ?_)
      refine callOwn co (by kernel_rfl) rfl rfl (by kernel_rfl) (h := ?_)
      iterate 5 refine AOL.s1 (h := ?_)
      refine AOL.nil ?_
      refine AW.kq [1, 2, 5, 7, 8, 9, 11] (h := ?_)
      repeat refine AW.seq ?_
      refine AW.reg ?_
      iterate 1 refine AOL.s1 (h := ?_)
      refine AOL.nil ?_
      refine AW.kq [1, 2, 5, 7, 8, 9, 11, 13] (h := ?_)
      repeat refine AW.seq ?_
      refine AW.block ?_
      repeat refine AW.seq ?_
      refine AW.loopK [1, 2, 5, 7, 8, 9, 11, 13] (fun n s => ∃ (k : Nat) (M : List Int), s = ⟨103, [(1, sl8 L), (2, .ptr 1032 0), (5, bo true), (7, .ptr 1112 0), (8, er 3), (9, bo true), (11, .ref 5000 0 W.length 1), (13, i k)], [(1032, ⟨24, true, [bo b, u x, u y]⟩), (1112, ⟨24, true, [bo p0, u p1, u p2]⟩), (5000, ⟨5, false, by8 M⟩)]⟩ ∧ k ≤ W.length ∧ n = W.length - k ∧ id (M.length = W.length)) W.length ?_ ?_
      · exact ⟨0, W, rfl, Nat.zero_le _, rfl, rfl⟩
      rintro n s ⟨k, M, rfl, hk, rfl, hM⟩
      repeat refine AW.seq ?_
      refine AW.reg ?_
      iterate 4 refine AOL.s1 (h := ?_)
      refine AOL.nil ?_
      refine AW.kq [1, 2, 5, 7, 8, 9, 11, 13, 54] (h := ?_)
      repeat refine AW.seq ?_
      refine AW.cond rfl (fun c_ => ?_) (fun c_ => ?_)
      · have hkN : k < W.length := by
          have : (k:Int) < W.length := by simpa using c_
          omega
        have hM' : M.length = W.length := hM
        obtain ⟨c, r, e⟩ : ∃ c r, M.drop k = c :: r := by
          cases h : M.drop k with
          | nil => have := List.drop_eq_nil_iff.1 h; omega
          | cons c r => exact ⟨c, r, rfl⟩
        obtain ⟨q1, q2, q3, hd⟩ := drop_at e
        have k0 : (0:Int) ≤ k := by omega
        have k1 : (k:Int) < W.length := by omega
        have m2 : k + 1 ≤ (by8 M).length := by rw [by8_len]; omega
        have e1 : IntKind.i64.wrap ((k : Int) + 1) = ((k + 1 : Nat) : Int) := by rw [wrapI_o (by omega) (by omega)]; rfl
        clear e q1 q2 q3 c_ hM'
        refine AW.skip ?_
        repeat refine AW.seq ?_
        refine AW.block ?_
        repeat refine AW.seq ?_
        refine AW.reg ?_
        iterate 9 refine AOL.s1 (h := ?_)
        refine AOL.nil ?_
        refine AW.kq [1, 2, 5, 7, 8, 9, 11, 13] (h := ?_)
        rw [by8_set]
        repeat refine AW.seq ?_
        refine AW.reg ?_
        iterate 3 refine AOL.s1 (h := ?_)
        refine AOL.nil ?_
        exact ⟨W.length - (k + 1), by omega, k + 1, _, rfl, by omega, rfl, by have hM' : M.length = W.length := hM; show (List.set _ _ _).length = _; rw [List.length_set]; exact hM'⟩
      clear c_ hM hk
      repeat refine AW.seq ?_
      refine AW.exit ?_
      repeat (first | refine Kseq.ex ?_ | refine Kloop.ex ?_ | refine Kblock.miss (by decide) ?_)
      refine Kblock.hit ?_
      refine AW.kq [1, 2, 5, 7, 8, 9] (h := ?_)
      refine AW.let 5000 (h := ?_)
      repeat refine AW.seq ?_
      refine AW.reg ?_
      iterate 1 refine AOL.s1 (h := ?_)
      refine AOL.callD rfl (cw) (by kernel_rfl) rfl rfl (h := ?_)
      iterate 5 refine AOL.s1 (h := ?_)
      refine AOL.nil ?_
      refine AW.kq [1, 2, 5, 7, 8, 9, 14, 15] (h := ?_)
      repeat refine AW.seq ?_
      refine AW.reg ?_
      iterate 1 refine AOL.s1 (h := ?_)
      refine AOL.callD rfl (cr) (by kernel_rfl) rfl rfl (h := ?_)
      iterate 6 refine AOL.s1 (h := ?_)
      refine AOL.nil ?_
      refine AW.kq [2, 5, 7, 8, 9, 14, 15, 16, 17] (h := ?_)
      repeat refine AW.seq ?_
      refine AW.drw 28 [] (by kernel_rfl) (h := ?_)
      iterate 23 refine ADL.dm 1 (h := ?_)
      refine ADL.call rfl (cb) (by kernel_rfl) rfl rfl (h := ?_)
      iterate 4 refine ADL.dm 1 (h := ?_)
      refine ADL.done hmix rfl rfl (hT := ?_)
      iterate 1 refine AOL.s1 (h := ?_)
      refine AOL.nil ?_
      refine AW.kq [4] (h := ?_)
      repeat refine AW.seq ?_
      refine AW.ret ?_
      refine ⟨_, [], rfl, HOk.nil _, ?_⟩
      rfl
    | false =>
      rw [if_neg (by decide)] at cw
      clear co
      refine Fn.enter Try.func9 Try.ntmps9 rfl (h := ?_)
      have tf := tf
      have tfb := tfb
      repeat refine AW.seq ?_
      refine AW.reg ?_
      iterate 2 refine AOL.s1 (h := ?_)
      refine AOL.nil ?_
      refine AW.kq [1, 2] (h := ?_)
      repeat refine AW.seq ?_
      refine AW.reg ?_
      refine AOL.callD rfl (obollaw03_up_c) (by kernel_rfl) rfl rfl (h := ?_)
      iterate 1 refine AOL.s1 (h := ?_)
      refine AOL.nil ?_
      refine AW.kq [1, 2, 5] (h := ?_)
      repeat refine AW.seq ?_
      refine AW.reg ?_
      iterate 4 refine AOL.s1 (h := ?_)
      refine AOL.nil ?_
      refine AW.kq [1, 2, 5, 6] (h := ?_)
      repeat refine AW.seq ?_
      refine AW.reg ?_
      iterate 1 refine AOL.s1 (h := ?_)
      refine callP [(1304, by8 L)] (by intro p hp; simp only [List.mem_singleton] at hp; subst hp; exact ⟨_, rfl, rfl, fun h => by cases h⟩) (by kernel_rfl) cr2 (by kernel_rfl) rfl rfl (h := ?_)
      iterate 6 refine AOL.s1 (h := ?_)
      refine AOL.nil ?_
      refine AW.kq [1, 2, 5, 6, 7, 8] (h := ?_)
      clear cr2
      repeat refine AW.seq ?_
      refine AW.reg ?_
      iterate 6 refine AOL.s1 (h := ?_)
      refine AOL.nil ?_
      refine AW.kq [1, 2, 5, 6, 7, 8, 9] (h := ?_)
      repeat refine AW.seq ?_
      refine AW.reg ?_
      iterate 1 refine AOL.s1 (h := ?_)
      refine AOL.nil ?_
      refine AW.kq [1, 2, 5, 6, 7, 8, 9, 10] (h := ?_)
      repeat refine AW.seq ?_
      refine AW.block ?_
      repeat refine AW.seq ?_
      refine AW.loopK [1, 2, 5, 6, 7, 8, 9, 10] (fun n s => ∃ (k : Nat) (M : List Int), s = ⟨103, [(1, sl8 L), (2, .ptr 1032 0), (5, bo true), (6, .ref 1304 0 L.length 1), (7, .ptr 1112 0), (8, er 3), (9, bo true), (10, i k)], [(1032, ⟨24, true, [bo b, u x, u y]⟩), (1112, ⟨24, true, [bo p0, u p1, u p2]⟩), (1304, ⟨5, false, by8 M⟩)]⟩ ∧ k ≤ L.length ∧ n = L.length - k ∧ id (M.length = L.length)) L.length ?_ ?_
      · exact ⟨0, L, rfl, Nat.zero_le _, rfl, rfl⟩
      rintro n s ⟨k, M, rfl, hk, rfl, hM⟩
      repeat refine AW.seq ?_
      refine AW.reg ?_
      iterate 4 refine AOL.s1 (h := ?_)
      refine AOL.nil ?_
      refine AW.kq [1, 2, 5, 6, 7, 8, 9, 10, 35] (h := ?_)
      repeat refine AW.seq ?_
      refine AW.cond rfl (fun c_ => ?_) (fun c_ => ?_)
      · have hkN : k < L.length := by
          have : (k:Int) < L.length := by simpa using c_
          omega
        have hM' : M.length = L.length := hM
        obtain ⟨c, r, e⟩ : ∃ c r, M.drop k = c :: r := by
          cases h : M.drop k with
          | nil => have := List.drop_eq_nil_iff.1 h; omega
          | cons c r => exact ⟨c, r, rfl⟩
        obtain ⟨q1, q2, q3, hd⟩ := drop_at e
        have k0 : (0:Int) ≤ k := by omega
        have k1 : (k:Int) < L.length := by omega
        have m2 : k + 1 ≤ (by8 M).length := by rw [by8_len]; omega
        have e1 : IntKind.i64.wrap ((k : Int) + 1) = ((k + 1 : Nat) : Int) := by rw [wrapI_o (by omega) (by omega)]; rfl
        clear e q1 q2 q3 c_ hM'
        refine AW.skip ?_
        repeat refine AW.seq ?_
        refine AW.block ?_
        repeat refine AW.seq ?_
        refine AW.reg ?_
        iterate 9 refine AOL.s1 (h := ?_)
        refine AOL.nil ?_
        refine AW.kq [1, 2, 5, 6, 7, 8, 9, 10] (h := ?_)
        rw [by8_set]
        repeat refine AW.seq ?_
        refine AW.reg ?_
        iterate 3 refine AOL.s1 (h := ?_)
        refine AOL.nil ?_
        exact ⟨L.length - (k + 1), by omega, k + 1, _, rfl, by omega, rfl, by have hM' : M.length = L.length := hM; show (List.set _ _ _).length = _; rw [List.length_set]; exact hM'⟩
      clear c_ hM hk
      repeat refine AW.seq ?_
      refine AW.exit ?_
      repeat (first | refine Kseq.ex ?_ | refine Kloop.ex ?_ | refine Kblock.miss (by decide) ?_)
      refine Kblock.hit ?_
      refine AW.kq [1, 2, 5, 7, 8, 9] (h := ?_)
      refine AW.let 1304 (h := ?_)
      repeat refine AW.seq ?_
      refine AW.reg ?_
      iterate 1 refine AOL.s1 (h := ?_)
      refine AOL.callD rfl (cw) (by kernel_rfl) rfl rfl (h := ?_)
      iterate 5 refine AOL.s1 (h := ?_)
      refine AOL.nil ?_
      refine AW.kq [1, 2, 5, 7, 8, 9, 11] (h := ?_)
      repeat refine AW.seq ?_
      refine AW.reg ?_
      iterate 1 refine AOL.s1 (h := ?_)
      refine AOL.nil ?_
      refine AW.kq [1, 2, 5, 7, 8, 9, 11, 13] (h := ?_)
      repeat refine AW.seq ?_
      refine AW.block ?_
      repeat refine AW.seq ?_
      refine AW.loopK [1, 2, 5, 7, 8, 9, 11, 13] (fun n s => s = ⟨103, [(1, sl8 L), (2, .ptr 1032 0), (5, bo true), (7, .ptr 1112 0), (8, er 3), (9, bo true), (11, .val (.slice none 0 0)), (13, i 0)], [(1032, ⟨24, true, [bo b, u x, u y]⟩), (1112, ⟨24, true, [bo p0, u p1, u p2]⟩)]⟩ ∧ n = 0) 0 ?_ ?_
      · exact ⟨rfl, rfl⟩
      rintro n s ⟨rfl, rfl⟩
      repeat refine AW.seq ?_
      refine AW.reg ?_
      iterate 4 refine AOL.s1 (h := ?_)
      refine AOL.nil ?_
      refine AW.kq [1, 2, 5, 7, 8, 9, 11, 13, 54] (h := ?_)
      repeat refine AW.seq ?_
      refine AW.cond rfl (fun c_ => ?_) (fun c_ => ?_)
      · cases c_
      clear c_
      repeat refine AW.seq ?_
      refine AW.exit ?_
      repeat (first | refine Kseq.ex ?_ | refine Kloop.ex ?_ | refine Kblock.miss (by decide) ?_)
      refine Kblock.hit ?_
      refine AW.kq [1, 2, 5, 7, 8, 9] (h := ?_)
      repeat refine AW.seq ?_
      refine AW.reg ?_
      iterate 1 refine AOL.s1 (h := ?_)
      refine AOL.callD rfl (cw) (by kernel_rfl) rfl rfl (h := ?_)
      iterate 5 refine AOL.s1 (h := ?_)
      refine AOL.nil ?_
      refine AW.kq [1, 2, 5, 7, 8, 9, 14, 15] (h := ?_)
      repeat refine AW.seq ?_
      refine AW.reg ?_
      iterate 1 refine AOL.s1 (h := ?_)
      refine AOL.callD rfl (cr) (by kernel_rfl) rfl rfl (h := ?_)
      iterate 6 refine AOL.s1 (h := ?_)
      refine AOL.nil ?_
      refine AW.kq [2, 5, 7, 8, 9, 14, 15, 16, 17] (h := ?_)
      repeat refine AW.seq ?_
      refine AW.drw 28 [] (by kernel_rfl) (h := ?_)
      iterate 28 refine ADL.dm 1 (h := ?_)
      refine ADL.done hmix rfl rfl (hT := ?_)
      iterate 1 refine AOL.s1 (h := ?_)
      refine AOL.nil ?_
      refine AW.kq [4] (h := ?_)
      repeat refine AW.seq ?_
      refine AW.ret ?_
      refine ⟨_, [], rfl, HOk.nil _, ?_⟩
      rfl
end Go.Proofs.Ytibmidoepeghpaa.E.M

