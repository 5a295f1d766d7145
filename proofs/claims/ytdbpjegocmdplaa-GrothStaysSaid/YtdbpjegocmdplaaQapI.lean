/- The polynomial of values, products, quotients: contracts over E. -/
import Derived.Test.YtdbpjegocmdplaaQapH
import Derived.Test.YtdbpjegocmdplaaProg
import Derived.KernelRfl
set_option linter.unusedVariables false
set_option linter.unusedSimpArgs false
set_option maxRecDepth 10000
open Go Go.Proofs.Ytdbpjegocmdplaa.E Go.Proofs
namespace Go.Proofs.Ytdbpjegocmdplaa.E.M
theorem poly_turn_o : ∀ {k : Nat}, k ≤ 12 → ∀ {w : Int} {p : List Int}, p.length = 2 ^ k → wV p → w64 w → Fn Try.prog 83 [ul p, u w] [] (Tells (.ref 1000 0 p.length 1) [(1000, blk (turnF k w p))])
  | 0, _, w, p, hp, hpw, hw => poly_turn_0 hp hpw hw
  | k + 1, hk, w, p, hp, hpw, hw => poly_turn_s (fun hp hpw hw => poly_turn_o (k := k) (by omega) hp hpw hw) hk hp hpw hw
/-- a row that is gone through in place -/
def mpL (g : Int → Int) (T : List Int) (j : Nat) : List Int := (T.take j).map g ++ T.drop j
theorem mpL_zero (g : Int → Int) (T : List Int) : mpL g T 0 = T := by simp [mpL]
theorem mpL_full (g : Int → Int) (T : List Int) : mpL g T T.length = T.map g := by simp [mpL]
theorem mpL_len (g : Int → Int) (T : List Int) (j : Nat) : (mpL g T j).length = T.length := by simp [mpL]; omega
theorem mpL_get (g : Int → Int) {T : List Int} {j : Nat} {v : Int} (h : T[j]? = some v) : (mpL g T j)[j]? = some v := by
  have hj := (List.getElem?_eq_some_iff.1 h).1
  unfold mpL
  rw [List.getElem?_append_right (by simp; omega)]
  simp [Nat.min_eq_left (Nat.le_of_lt hj), h]
theorem mpL_set (g : Int → Int) {T : List Int} {j : Nat} {v : Int} (h : T[j]? = some v) : (mpL g T j).set j (g v) = mpL g T (j + 1) := by
  have hj := (List.getElem?_eq_some_iff.1 h).1
  unfold mpL
  rw [List.set_append_right _ _ (by simp; omega)]
  simp only [List.length_map, List.length_take, Nat.min_eq_left (Nat.le_of_lt hj), Nat.sub_self]
  rw [List.drop_eq_getElem_cons hj, List.set_cons_zero, List.take_add_one, h]
  simp
theorem mpL_w (g : Int → Int) {T : List Int} (h : wV T) (hg : ∀ v, w64 (g v)) (j : Nat) : wV (mpL g T j) := by
  intro v hv
  unfold mpL at hv
  rcases List.mem_append.1 hv with hv | hv
  · obtain ⟨a, _, rfl⟩ := List.mem_map.1 hv; exact hg a
  · exact h v (List.mem_of_mem_drop hv)
def ninv (k : Nat) : Int := ipow 288230376287764481 (2 ^ k : Nat) 288230376287764479
def winv (k : Nat) : Int := ipow 288230376287764481 (rootF k) 288230376287764479
def mulR (n v : Int) : Int := v * n % 288230376287764481
def invF (k : Nat) (V : List Int) : List Int := (turnF k (winv k) V).map (mulR (ninv k))
theorem invF_len (k : Nat) (V : List Int) : (invF k V).length = 2 ^ k := by simp [invF, turnF_len]
theorem invF_w (k : Nat) (V : List Int) : wV (invF k V) := by
  intro v hv; obtain ⟨a, _, rfl⟩ := List.mem_map.1 hv; exact w64_r _
set_option maxHeartbeats 8000000 in
theorem poly_Inverse_o {k : Nat} {V : List Int} (hk : k ≤ 12) (hV : V.length = 2 ^ k) (wv : wV V) : Fn Try.prog 60 [ul V, i k] [] (Tells (.tup [.ref 1000 0 V.length 1, nil_]) [(1000, blk (invF k V))]) := by
  refine Fn.enter Try.func60 Try.ntmps60 rfl (h := ?_)
  have tf := tfr
  have ot_ : (false || true) = true := rfl
  have cr := poly_Root_c hk
  have hr := rootF_w k hk
  have hwi : w64 (winv k) := ipow_w hr.1 (by decide)
  have ct := poly_turn_o hk hV wv hwi
  have lT := turnF_len k (winv k) V
  have wT := turnF_w k (winv k) V
  obtain ⟨t1, t2⟩ := two_le hk
  have hN : w64 ((2 ^ k : Nat) : Int) := by omega
  have hni : w64 (ninv k) := ipow_w hN.1 (by decide)
  have kn : ¬ (k:Int) < 0 := by omega
  have shu := shlu (k := k) (by omega)
  have shi := shlk (k := k) (by omega)
  rw [Int.toNat_natCast] at shu shi
  have hne : ((V.length : Int) != ((2 ^ k : Nat) : Int)) = false := by
    rw [hV]; simp
  have bf : (false || false) = false := rfl
  have bff : ((!true) || false) = false := rfl
  have nt : (!true) = false := rfl
  have e1 : ipow 288230376287764481 (rootF k) 288230376287764479 = winv k := rfl
  have e2 : ipow 288230376287764481 ((2 ^ k : Nat) : Int) 288230376287764479 = ninv k := rfl
  have cp1 := modular_Pow_c hR hr (e := 288230376287764479) (by decide)
  have cp2 := modular_Pow_c hR hN (e := 288230376287764479) (by decide)
  rw [e1] at cp1
  rw [e2] at cp2
  unfold invF
  rw [← lT] at hV
  clear e1 e2
  generalize turnF k (winv k) V = T at *
  generalize 2 ^ k = N at *
  generalize winv k = wi at *
  generalize ninv k = ni at *
  generalize rootF k = w at *
  replace hV := hid hV
  replace lT := hid lT
  repeat refine AW.seq ?_
  refine AW.reg ?_
  iterate 2 refine AOL.s1 (h := ?_)
  refine AOL.nil ?_
  refine AW.kq [0, 1] (h := ?_)
  repeat refine AW.seq ?_
  refine AW.reg ?_
  iterate 1 refine AOL.s1 (h := ?_)
  refine AOL.callD rfl (cr) (by kernel_rfl) rfl rfl (h := ?_)
  iterate 5 refine AOL.s1 (h := ?_)
  refine AOL.nil ?_
  refine AW.kq [0, 1, 6, 7] (h := ?_)
  repeat refine AW.seq ?_
  refine AW.reg ?_
  iterate 3 refine AOL.s1 (h := ?_)
  refine AOL.kq [0, 1, 6, 18] (h := ?_)
  iterate 6 refine AOL.s1 (h := ?_)
  refine AOL.nil ?_
  refine AW.kq [0, 1, 6, 24] (h := ?_)
  repeat refine AW.seq ?_
  refine AW.cond rfl (fun c_ => ?_) (fun c_ => ?_)
  · cases c_
  refine AW.skip ?_
  repeat refine AW.seq ?_
  refine AW.reg ?_
  iterate 2 refine AOL.s1 (h := ?_)
  refine AOL.callD rfl (cp1) (by kernel_rfl) rfl rfl (h := ?_)
  refine AOL.callO 5000 (ct) rfl (by kernel_rfl) rfl (by first | rfl | exact frees_fm (fun _ => rfl) _) (by intro l_ hl_; simp [labs, labss] at hl_ <;> exact hl_) (by decide) (by simp only [St.drop, mapT, mapH, kill, kills, del, St.put, ins, ren, rens, reduceIte, Nat.reduceLT, Nat.reduceEqDiff, Bool.false_eq_true]; exact rfl) ?_
  iterate 1 refine AOL.s1 (h := ?_)
  refine AOL.nil ?_
  refine AW.kq [1, 8] (h := ?_)
  repeat refine AW.seq ?_
  refine AW.reg ?_
  iterate 2 refine AOL.s1 (h := ?_)
  refine AOL.callD rfl (cp2) (by kernel_rfl) rfl rfl (h := ?_)
  iterate 1 refine AOL.s1 (h := ?_)
  refine AOL.nil ?_
  refine AW.kq [8, 9] (h := ?_)
  repeat refine AW.seq ?_
  refine AW.reg ?_
  iterate 3 refine AOL.s1 (h := ?_)
  refine AOL.nil ?_
  refine AW.kq [8, 9, 34, 35] (h := ?_)
  repeat refine AW.seq ?_
  refine AW.block ?_
  repeat refine AW.seq ?_
  clear cr ct cp1 cp2 hne
  refine AW.loopK [8, 9, 34, 35] (fun n s => ∃ (j : Nat), s = ⟨49, [(8, .ref 5000 0 V.length 1), (9, u ni), (34, i V.length), (35, i j)], [(5000, blk (mpL (mulR ni) T j))]⟩ ∧ j ≤ V.length ∧ n = V.length - j) (V.length) ?_ ?_
  · exact ⟨0, by rw [mpL_zero]; rfl, Nat.zero_le _, rfl⟩
  rintro n s ⟨j, rfl, jV, rfl⟩
  repeat refine AW.seq ?_
  refine AW.reg ?_
  iterate 1 refine AOL.s1 (h := ?_)
  refine AOL.nil ?_
  refine AW.kq [8, 9, 34, 35, 36] (h := ?_)
  repeat refine AW.seq ?_
  refine AW.cond rfl (fun c_ => ?_) (fun c_ => ?_)
  · have hV' : V.length = T.length := hV
    have hj : j < V.length := by have : (j:Int) < V.length := by simpa using c_
                                 omega
    obtain ⟨v, hv, hvw, _⟩ := at_nat (V := T) (n := j) (by omega) wT
    have hg := mpL_get (mulR ni) hv
    have hset := mpL_set (mulR ni) hv
    have hlen := (mpL_len (mulR ni) T j).trans hV'.symm
    obtain ⟨v', hv', _, hvd⟩ := at_nat (V := mpL (mulR ni) T j) (n := j) (by omega) (mpL_w _ wT (fun _ => w64_r _) j)
    obtain rfl : v = v' := by rw [hg] at hv'; exact Option.some.inj hv'
    have j0 : (0:Int) ≤ j := by omega
    have j1 : (j:Int) < V.length := by omega
    have hfs := fset (mpL (mulR ni) T j) j (mulR ni v)
    rw [hset] at hfs
    have hfs : ((fm u1 (mpL (mulR ni) T j)).set j (u (v * ni % 288230376287764481))) = fm u1 (mpL (mulR ni) T (j + 1)) := hfs
    have hfl := fml (mpL (mulR ni) T j)
    rw [hlen] at hfl
    have lTl : T.length = N := lT
    have hVN : V.length ≤ 4096 := by omega
    have hiw := incq hj (by omega)
    have jl : j + 1 ≤ V.length := hj
    clear hV' hv hv' hg hset hlen c_ lTl
    refine AW.skip ?_
    repeat refine AW.seq ?_
    refine AW.block ?_
    repeat refine AW.seq ?_
    refine AW.reg ?_
    iterate 2 refine AOL.s1 (h := ?_)
    refine AOL.nil ?_
    refine AW.kq [8, 9, 10, 34, 35] (h := ?_)
    repeat refine AW.seq ?_
    refine AW.reg ?_
    iterate 7 refine AOL.s1 (h := ?_)
    refine AOL.callD rfl (poly_mul_c hvw hni) (by kernel_rfl) rfl rfl (h := ?_)
    iterate 2 refine AOL.s1 (h := ?_)
    refine AOL.nil ?_
    repeat refine AW.seq ?_
    refine AW.reg ?_
    iterate 2 refine AOL.s1 (h := ?_)
    refine AOL.nil ?_
    exact ⟨V.length - (j + 1), by omega, j + 1, rfl, hj, rfl⟩
  · have hj : j = V.length := by have : ¬ (j:Int) < V.length := by simpa using c_
                                 omega
    subst hj
    have hV' : V.length = T.length := hV
    have hfull : mpL (mulR ni) T V.length = T.map (mulR ni) := by rw [hV', mpL_full]
    rw [hfull]
    clear hV' hfull
    repeat refine AW.seq ?_
    refine AW.exit ?_
    repeat (first | refine Kseq.ex ?_ | refine Kloop.ex ?_ | refine Kblock.miss (by decide) ?_)
    refine Kblock.hit ?_
    refine AW.kq [8] (h := ?_)
    repeat refine AW.seq ?_
    refine AW.reg ?_
    iterate 3 refine AOL.s1 (h := ?_)
    refine AOL.nil ?_
    refine AW.kq [4, 5] (h := ?_)
    repeat refine AW.seq ?_
    refine AW.ret ?_
    refine ⟨_, [(5000, _)], rfl, (fun p_ hp_ => by simp only [List.mem_singleton] at hp_; subst hp_; first | exact List.mem_cons_self | exact List.mem_cons_of_mem _ List.mem_cons_self | exact List.mem_cons_of_mem _ (List.mem_cons_of_mem _ List.mem_cons_self)), ?_⟩
    refine Tells.one 5000 (by decide) ?_
    first | rfl | exact frees_fm (fun _ => rfl) _
    skip
def addAt (L : List Int) (j : Nat) (v : Int) : List Int := L.set j ((L[j]?.getD 0 + v) % 288230376287764481)
theorem addAt_len (L : List Int) (j : Nat) (v : Int) : (addAt L j v).length = L.length := by simp [addAt]
theorem addAt_w {L : List Int} (h : wV L) (j : Nat) (v : Int) : wV (addAt L j v) := set_w h (w64_r _) j
def mulRow : List Int → Nat → Int → List Int → List Int
  | L, _, _, [] => L
  | L, j, a, b :: q => mulRow (addAt L j (a * b % 288230376287764481)) (j + 1) a q
theorem mulRow_len : ∀ (q : List Int) (L : List Int) (j : Nat) (a : Int), (mulRow L j a q).length = L.length
  | [], L, j, a => rfl
  | b :: q, L, j, a => by simp only [mulRow]; rw [mulRow_len q, addAt_len]
theorem mulRow_w : ∀ (q : List Int) {L : List Int} (j : Nat) (a : Int), wV L → wV (mulRow L j a q)
  | [], L, j, a, h => h
  | b :: q, L, j, a, h => mulRow_w q _ _ (addAt_w h _ _)
def mulAll : List Int → Nat → List Int → List Int → List Int
  | L, _, [], _ => L
  | L, j, a :: p, q => mulAll (mulRow L j a q) (j + 1) p q
theorem mulAll_len : ∀ (p : List Int) (L : List Int) (j : Nat) (q : List Int), (mulAll L j p q).length = L.length
  | [], L, j, q => rfl
  | a :: p, L, j, q => by simp only [mulAll]; rw [mulAll_len p, mulRow_len]
theorem mulAll_w : ∀ (p : List Int) {L : List Int} (j : Nat) (q : List Int), wV L → wV (mulAll L j p q)
  | [], L, j, q, h => h
  | a :: p, L, j, q, h => mulAll_w p _ _ (mulRow_w q _ _ h)
def mulL (p q : List Int) : List Int := mulAll (List.replicate (p.length + q.length) 0) 0 p q
theorem mulL_len (p q : List Int) : (mulL p q).length = p.length + q.length := by unfold mulL; rw [mulAll_len, List.length_replicate]
theorem mulL_w (p q : List Int) : wV (mulL p q) := mulAll_w _ _ _ (rep_w _)
set_option maxHeartbeats 16000000 in
theorem poly_Mul_o {p q : List Int} (hp : 0 < p.length) (lp : p.length ≤ 4096) (lq : q.length ≤ 4096) (wp : wV p) (wq : wV q) : Fn Try.prog 61 [ul p, ul q] [] (Tells (.ref 1000 0 (shortL (mulL p q)).length 1) [(1000, blk (mulL p q))]) := by
  refine Fn.enter Try.func61 Try.ntmps61 rfl (h := ?_)
  have tf := tfr
  have ot_ : (false || true) = true := rfl
  have hwN : IntKind.i64.wrap ((p.length : Int) + q.length) = ((p.length + q.length : Nat) : Int) := by rw [wrapI_o (by omega) (by omega)]; rfl
  have hmk := mk64 (n := p.length + q.length) (by omega)
  have e0 : mulL p q = mulAll (List.replicate (p.length + q.length) 0) 0 p q := rfl
  have lM := mulL_len p q
  have wM := mulL_w p q
  generalize mulL p q = MM at *
  replace lM := hid lM
  repeat refine AW.seq ?_
  refine AW.reg ?_
  iterate 1 refine AOL.s1 (h := ?_)
  refine AOL.nil ?_
  refine AW.kq [0, 1] (h := ?_)
  repeat refine AW.seq ?_
  refine AW.reg ?_
  iterate 7 refine AOL.s1 (h := ?_)
  refine AOL.nil ?_
  refine AW.kq [0, 1, 5] (h := ?_)
  repeat refine AW.seq ?_
  refine AW.reg ?_
  iterate 3 refine AOL.s1 (h := ?_)
  refine AOL.nil ?_
  refine AW.kq [1, 5, 16, 17, 18] (h := ?_)
  repeat refine AW.seq ?_
  refine AW.block ?_
  repeat refine AW.seq ?_
  refine AW.loopK [1, 5, 16, 17, 18] (fun n' s => ∃ (j : Nat) (r L : List Int), s = ⟨49, [(1, ul q), (5, .ref 1240 0 (p.length + q.length) 1), (16, ul p), (17, i p.length), (18, i j)], [(1240, blk L)]⟩ ∧ p.drop j = r ∧ j ≤ p.length ∧ n' = r.length ∧ L.length = p.length + q.length ∧ wV L ∧ mulAll L j r q = MM) (p.length) ?_ ?_
  · exact ⟨0, p, _, rfl, rfl, Nat.zero_le _, rfl, List.length_replicate, rep_w _, e0.symm⟩
  rintro n' s ⟨j, r, L, rfl, hr, hkl, rfl, hL, wL, hM⟩
  repeat refine AW.seq ?_
  refine AW.reg ?_
  iterate 1 refine AOL.s1 (h := ?_)
  refine AOL.nil ?_
  refine AW.kq [1, 5, 16, 17, 18, 19] (h := ?_)
  repeat refine AW.seq ?_
  refine AW.cond rfl (fun c_ => ?_) (fun c_ => ?_)
  · obtain ⟨a, r, rfl⟩ := ends_cons hr hkl (by simpa using c_)
    obtain ⟨hlt, hr', hat⟩ := dconsq hr
    obtain ⟨a', ha', haw, hda⟩ := at_nat (V := p) (n := j) (by omega) wp
    obtain rfl : a = a' := by rw [hat] at ha'; exact Option.some.inj ha'
    have j0 : (0:Int) ≤ j := by omega
    have j1 : (j:Int) < p.length := by omega
    have hiw := incq hlt (by omega)
    have hM : mulAll (mulRow L j a q) (j + 1) r q = MM := hM
    have lR := mulRow_len q L j a
    have wR := mulRow_w q j a wL
    have eR : mulRow L j a q = mulRow L j a q := rfl
    generalize hRR : mulRow L j a q = RR' at *
    replace hRR := hid hRR
    have lR : Hid (RR'.length = p.length + q.length) := lR.trans hL
    replace hL := hid hL
    clear eR hmk e0 hr hat ha' c_
    refine AW.skip ?_
    repeat refine AW.seq ?_
    refine AW.block ?_
    repeat refine AW.seq ?_
    refine AW.reg ?_
    iterate 5 refine AOL.s1 (h := ?_)
    refine AOL.nil ?_
    refine AW.kq [1, 5, 6, 7, 16, 17, 18] (h := ?_)
    repeat refine AW.seq ?_
    refine AW.reg ?_
    iterate 3 refine AOL.s1 (h := ?_)
    refine AOL.nil ?_
    refine AW.kq [1, 5, 6, 7, 16, 17, 18, 23, 24, 25] (h := ?_)
    repeat refine AW.seq ?_
    refine AW.block ?_
    repeat refine AW.seq ?_
    refine AW.loopK [1, 5, 6, 7, 16, 17, 18, 23, 24, 25] (fun n' s => ∃ (i_ : Nat) (t L1 : List Int), s = ⟨49, [(1, ul q), (5, .ref 1240 0 (p.length + q.length) 1), (6, i j), (7, u a), (16, ul p), (17, i p.length), (18, i j), (23, ul q), (24, i q.length), (25, i i_)], [(1240, blk L1)]⟩ ∧ q.drop i_ = t ∧ i_ ≤ q.length ∧ n' = t.length ∧ L1.length = p.length + q.length ∧ wV L1 ∧ mulRow L1 (j + i_) a t = RR') (q.length) ?_ ?_
    · exact ⟨0, q, L, rfl, rfl, Nat.zero_le _, rfl, hL, wL, hRR⟩
    rintro n' s ⟨i_, t, L1, rfl, ht, hil, rfl, hL1, wL1, hR1⟩
    repeat refine AW.seq ?_
    refine AW.reg ?_
    iterate 1 refine AOL.s1 (h := ?_)
    refine AOL.nil ?_
    refine AW.kq [1, 5, 6, 7, 16, 17, 18, 23, 24, 25, 26] (h := ?_)
    repeat refine AW.seq ?_
    refine AW.cond rfl (fun d_ => ?_) (fun d_ => ?_)
    · obtain ⟨b, t, rfl⟩ := ends_cons ht hil (by simpa using d_)
      obtain ⟨hlt2, ht', hbt⟩ := dconsq ht
      obtain ⟨b', hb', hbw, hdb⟩ := at_nat (V := q) (n := i_) (by omega) wq
      obtain rfl : b = b' := by rw [hbt] at hb'; exact Option.some.inj hb'
      have i0 : (0:Int) ≤ i_ := by omega
      have i1 : (i_:Int) < q.length := by omega
      have hiw2 := incq hlt2 (by omega)
      have hsum : IntKind.i64.wrap ((j:Int) + i_) = ((j + i_ : Nat) : Int) := by rw [wrapI_o (by omega) (by omega)]; rfl
      have s0 : (0:Int) ≤ ((j + i_ : Nat) : Int) := by omega
      have s1 : ((j + i_ : Nat) : Int) < ((p.length + q.length : Nat) : Int) := by omega
      obtain ⟨c, hc, hcw, hdc⟩ := at_nat (V := L1) (n := j + i_) (by omega) wL1
      have hR1 : mulRow (addAt L1 (j + i_) (a * b % 288230376287764481)) (j + i_ + 1) a t = RR' := hR1
      have hA : addAt L1 (j + i_) (a * b % 288230376287764481) = L1.set (j + i_) ((c + a * b % 288230376287764481) % 288230376287764481) := by simp only [addAt, hc, Option.getD_some]
      have lA := (addAt_len L1 (j + i_) (a * b % 288230376287764481)).trans hL1
      have wA := addAt_w wL1 (j + i_) (a * b % 288230376287764481)
      have hfs := fset L1 (j + i_) ((c + a * b % 288230376287764481) % 288230376287764481)
      rw [← hA] at hfs
      have hfl := fml L1
      rw [hL1] at hfl
      have b1 : j + i_ + 1 ≤ p.length + q.length := by omega
      generalize addAt L1 (j + i_) (a * b % 288230376287764481) = L2 at *
      replace lA := hid lA
      have hR1 : Hid (mulRow L2 (j + (i_ + 1)) a t = RR') := hR1
      clear hL1 hc hA ht hbt hb' d_
      refine AW.skip ?_
      repeat refine AW.seq ?_
      refine AW.block ?_
      repeat refine AW.seq ?_
      refine AW.reg ?_
      iterate 5 refine AOL.s1 (h := ?_)
      refine AOL.nil ?_
      refine AW.kq [1, 5, 6, 7, 8, 9, 16, 17, 18, 23, 24, 25] (h := ?_)
      repeat refine AW.seq ?_
      refine AW.drw 14 [] (by kernel_rfl) (h := ?_)
      iterate 12 refine ADL.dm 1 (h := ?_)
      refine ADL.call rfl (poly_mul_c haw hbw) (by kernel_rfl) rfl rfl (h := ?_)
      refine ADL.call rfl (modular_Add_c hR hcw (w64_r _)) (by kernel_rfl) rfl rfl (h := ?_)
      refine ADL.done hmix rfl rfl (hT := ?_)
      iterate 2 refine AOL.s1 (h := ?_)
      refine AOL.nil ?_
      repeat refine AW.seq ?_
      refine AW.reg ?_
      iterate 2 refine AOL.s1 (h := ?_)
      refine AOL.nil ?_
      exact ⟨t.length, by simp, i_ + 1, t, L2, rfl, ht', hlt2, rfl, lA, wA, hR1⟩
    · obtain rfl := ends_nil ht (by simpa using d_)
      have hg : L1 = RR' := hR1
      subst hg
      repeat refine AW.seq ?_
      refine AW.exit ?_
      repeat (first | refine Kseq.ex ?_ | refine Kloop.ex ?_ | refine Kblock.miss (by decide) ?_)
      refine Kblock.hit ?_
      repeat refine AW.seq ?_
      refine AW.reg ?_
      iterate 2 refine AOL.s1 (h := ?_)
      refine AOL.nil ?_
      exact ⟨r.length, by simp, j + 1, r, L1, rfl, hr', hlt, rfl, lR, wR, hM⟩
  · obtain rfl := ends_nil hr (by simpa using c_)
    have hg : L = MM := hM
    subst hg
    clear e0 hmk hM
    have cs := poly_short_o wM (by omega)
    rw [hL] at cs
    have hnz : (blk L).cs ≠ [] := fm_ne (by omega)
    repeat refine AW.seq ?_
    refine AW.exit ?_
    repeat (first | refine Kseq.ex ?_ | refine Kloop.ex ?_ | refine Kblock.miss (by decide) ?_)
    refine Kblock.hit ?_
    refine AW.kq [5] (h := ?_)
    repeat refine AW.seq ?_
    refine AW.reg ?_
    iterate 1 refine AOL.s1 (h := ?_)
    refine AOL.call1 1240 (cs) rfl (by kernel_rfl) rfl (by intro l_ hl_; simp [labs, labss] at hl_ <;> exact hl_) (by first | rfl | exact frees_fm (fun _ => rfl) _) (by first | rfl | exact frees_fm (fun _ => rfl) _) (by intro l_ hl_; simp [labs, labss] at hl_ <;> exact hl_) (by assumption) rfl (by simp only [St.drop, mapT, mapH, kill, kills, del, St.put, ins, ren, rens, reduceIte, Nat.reduceLT, Nat.reduceEqDiff, Bool.false_eq_true]; exact rfl) ?_
    iterate 1 refine AOL.s1 (h := ?_)
    refine AOL.nil ?_
    refine AW.kq [4] (h := ?_)
    repeat refine AW.seq ?_
    skip
    refine AW.ret ?_
    exact ⟨_, [(1240, _)], rfl, (fun p_ hp_ => hp_), Tells.one 1240 (by decide) (frees_fm (fun _ => rfl) _)⟩
end Go.Proofs.Ytdbpjegocmdplaa.E.M

