/- Quotients by what vanishes on a domain: a contract over E. -/
import Derived.Test.YtdbpjegocmdplaaQapI
import Derived.Test.YtdbpjegocmdplaaProg
import Derived.KernelRfl
set_option linter.unusedVariables false
set_option linter.unusedSimpArgs false
set_option maxRecDepth 10000
open Go Go.Proofs.Ytdbpjegocmdplaa.E Go.Proofs
namespace Go.Proofs.Ytdbpjegocmdplaa.E.M
def vanF (n : Nat) : Nat → List Int → List Int → List Int × List Int
  | 0, rest, out => (rest, out)
  | m + 1, rest, out => vanF n m ((rest.set m ((rest[m]?.getD 0 + rest[n + m]?.getD 0) % 288230376287764481)).set (n + m) 0) (out.set m (rest[n + m]?.getD 0))
theorem vanF_len (n : Nat) : ∀ (m : Nat) (rest out : List Int), (vanF n m rest out).1.length = rest.length ∧ (vanF n m rest out).2.length = out.length
  | 0, rest, out => ⟨rfl, rfl⟩
  | m + 1, rest, out => by
    have ⟨h1, h2⟩ := vanF_len n m ((rest.set m ((rest[m]?.getD 0 + rest[n + m]?.getD 0) % 288230376287764481)).set (n + m) 0) (out.set m (rest[n + m]?.getD 0))
    simp only [vanF, h1, h2, List.length_set, and_self]
theorem getD_w {L : List Int} (h : wV L) (j : Nat) : w64 (L[j]?.getD 0) := by
  cases hj : L[j]? with
  | none => show w64 0; decide
  | some v => exact h v (List.mem_of_getElem? hj)
theorem vanF_w (n : Nat) : ∀ (m : Nat) {rest out : List Int}, wV rest → wV out → wV (vanF n m rest out).1 ∧ wV (vanF n m rest out).2
  | 0, rest, out, h1, h2 => ⟨h1, h2⟩
  | m + 1, rest, out, h1, h2 => vanF_w n m (set_w (set_w h1 (w64_r _) m) (by decide) (n + m)) (set_w h2 (getD_w h1 _) m)
def redF (p : List Int) (j : Nat) : Int := (p[j]?.getD 0) % 288230376287764481
def vanR (n : Nat) (p : List Int) : List Int × List Int := vanF n (p.length - n) ((List.range p.length).map (redF p)) (List.replicate (p.length - n) 0)
def vanOk (n : Nat) (p : List Int) : Bool := (shortL (vanR n p).1).isEmpty
def vanV (n : Nat) (p : List Int) : List Int := shortL (vanR n p).2
theorem redL_w (p : List Int) : wV ((List.range p.length).map (redF p)) := by
  intro v hv; obtain ⟨j, _, rfl⟩ := List.mem_map.1 hv; exact w64_r _
set_option maxHeartbeats 16000000 in
theorem poly_Vanish_o {k M : Nat} {p : List Int} (hk : k ≤ 12) (hp : p.length = 2 ^ k + M) (lp : p.length ≤ 100000) (wp : wV p) : Fn Try.prog 62 [ul p, i k] [] (fun r h_ => (vanOk (2 ^ k) p = false ∧ r = .tup [.val (.slice none 0 0), er 8] ∧ h_ = []) ∨ (vanOk (2 ^ k) p = true ∧ M = 0 ∧ r = .tup [ul [], nil_] ∧ h_ = []) ∨ (vanOk (2 ^ k) p = true ∧ 0 < M ∧ Tells (.tup [.ref 1000 0 (vanV (2 ^ k) p).length 1, nil_]) [(1000, blk (vanR (2 ^ k) p).2)] r h_)) := by
  refine Fn.enter Try.func62 Try.ntmps62 rfl (h := ?_)
  have tf := tfr
  have ot_ : (false || true) = true := rfl
  have cr := poly_Root_c hk
  obtain ⟨t1, t2⟩ := two_le hk
  have kn : ¬ (k:Int) < 0 := by omega
  have shi := shlk (k := k) (by omega)
  rw [Int.toNat_natCast] at shi
  have nt : (!true) = false := rfl
  have hM : p.length - 2 ^ k = M := by omega
  have hmk := mk64 (n := p.length) (by omega)
  have hmk2 := mk64 (n := M) (by omega)
  have hmx : (if (0:Int) > (M:Int) then (0:Int) else (M:Int)) = M := by rw [if_neg (by omega)]
  have eR : vanR (2 ^ k) p = vanF (2 ^ k) M ((List.range p.length).map (redF p)) (List.replicate M 0) := by unfold vanR; rw [hM]
  have eO : vanOk (2 ^ k) p = (shortL (vanR (2 ^ k) p).1).isEmpty := rfl
  have eV : vanV (2 ^ k) p = shortL (vanR (2 ^ k) p).2 := rfl
  obtain ⟨lr1, lr2⟩ := vanF_len (2 ^ k) M ((List.range p.length).map (redF p)) (List.replicate M 0)
  obtain ⟨wr1, wr2⟩ := vanF_w (2 ^ k) M (redL_w p) (rep_w M)
  rw [← eR] at lr1 lr2 wr1 wr2
  rw [List.length_map, List.length_range] at lr1
  rw [List.length_replicate] at lr2
  rw [eO, eV]
  clear eO eV hM
  generalize vanR (2 ^ k) p = VR at *
  generalize 2 ^ k = n at *
  generalize rootF k = w at *
  have hsub : IntKind.i64.wrap ((p.length : Int) - n) = (M : Int) := by rw [wrapI_o (by omega) (by omega)]; omega
  have hr0 : ¬ (288230376287764481 : Int) = 0 := by decide
  replace hp := hid hp
  replace lr1 := hid lr1
  replace lr2 := hid lr2
  replace eR := hid eR
  repeat refine AW.seq ?_
  refine AW.reg ?_
  iterate 2 refine AOL.s1 (h := ?_)
  refine AOL.nil ?_
  refine AW.kq [0, 1] (h := ?_)
  repeat refine AW.seq ?_
  refine AW.reg ?_
  iterate 1 refine AOL.s1 (h := ?_)
  refine AOL.callD rfl (cr) (by kernel_rfl) rfl rfl (h := ?_)
  iterate 5 refine AOL.s1 (h := ?_)
  refine AOL.nil ?_
  refine AW.kq [0, 1, 7] (h := ?_)
  repeat refine AW.seq ?_
  refine AW.reg ?_
  iterate 2 refine AOL.s1 (h := ?_)
  refine AOL.nil ?_
  refine AW.kq [0, 1, 7, 20] (h := ?_)
  repeat refine AW.seq ?_
  refine AW.cond rfl (fun c_ => ?_) (fun c_ => ?_)
  · cases c_
  refine AW.skip ?_
  repeat refine AW.seq ?_
  refine AW.reg ?_
  iterate 3 refine AOL.s1 (h := ?_)
  refine AOL.nil ?_
  refine AW.kq [0, 8] (h := ?_)
  repeat refine AW.seq ?_
  refine AW.reg ?_
  iterate 4 refine AOL.s1 (h := ?_)
  refine AOL.nil ?_
  refine AW.kq [0, 8, 9] (h := ?_)
  repeat refine AW.seq ?_
  refine AW.reg ?_
  iterate 3 refine AOL.s1 (h := ?_)
  refine AOL.nil ?_
  refine AW.kq [0, 8, 9, 27, 28, 29] (h := ?_)
  repeat refine AW.seq ?_
  refine AW.block ?_
  repeat refine AW.seq ?_
  clear cr hmk2
  refine AW.loopK [0, 8, 9, 27, 28, 29] (fun n' s => ∃ (j : Nat), s = ⟨89, [(0, ul p), (8, i n), (9, .ref 1416 0 p.length 1), (27, ul p), (28, i p.length), (29, i j)], [(1416, blk (upL (redF p) p.length j))]⟩ ∧ j ≤ p.length ∧ n' = p.length - j) (p.length) ?_ ?_
  · exact ⟨0, by rw [upL_zero]; rfl, Nat.zero_le _, rfl⟩
  rintro n' s ⟨j, rfl, jp, rfl⟩
  repeat refine AW.seq ?_
  refine AW.reg ?_
  iterate 1 refine AOL.s1 (h := ?_)
  refine AOL.nil ?_
  refine AW.kq [0, 8, 9, 27, 28, 29, 30] (h := ?_)
  repeat refine AW.seq ?_
  refine AW.cond rfl (fun c_ => ?_) (fun c_ => ?_)
  · have hj : j < p.length := by have : (j:Int) < p.length := by simpa using c_
                                 omega
    obtain ⟨v, hv, hvw, hvd⟩ := at_nat (V := p) (n := j) (by omega) wp
    have j0 : (0:Int) ≤ j := by omega
    have j1 : (j:Int) < p.length := by omega
    have hiw := incq hj (by omega)
    have htm := tmod_nn (m := 288230376287764481) hvw.1
    have hset := upL_set (redF p) hj
    have hlen := upL_len (redF p) jp
    have hrv : redF p j = v % 288230376287764481 := by simp only [redF, hv, Option.getD_some]
    have hfs := fset (upL (redF p) p.length j) j (redF p j)
    rw [hset, hrv] at hfs
    have hfl := fml (upL (redF p) p.length j)
    rw [hlen] at hfl
    have jl : j + 1 ≤ p.length := hj
    clear hset hlen hrv hv c_ hmk
    refine AW.skip ?_
    repeat refine AW.seq ?_
    refine AW.block ?_
    repeat refine AW.seq ?_
    refine AW.reg ?_
    iterate 5 refine AOL.s1 (h := ?_)
    refine AOL.nil ?_
    refine AW.kq [0, 8, 9, 10, 11, 27, 28, 29] (h := ?_)
    repeat refine AW.seq ?_
    refine AW.reg ?_
    iterate 6 refine AOL.s1 (h := ?_)
    refine AOL.nil ?_
    repeat refine AW.seq ?_
    refine AW.reg ?_
    iterate 2 refine AOL.s1 (h := ?_)
    refine AOL.nil ?_
    exact ⟨p.length - (j + 1), by omega, j + 1, rfl, hj, rfl⟩
  · have hj : j = p.length := by have : ¬ (j:Int) < p.length := by simpa using c_
                                 omega
    subst hj
    rw [upL_full]
    clear hmk
    have hmk2 := mk64 (n := M) (by have hp' : p.length = n + M := hp; omega)
    have hone : IntKind.i64.wrap ((p.length : Int) - 1) = ((n:Int) + M - 1) := by
      have hp' : p.length = n + M := hp
      rw [wrapI_o (by omega) (by omega)]; omega
    repeat refine AW.seq ?_
    refine AW.exit ?_
    repeat (first | refine Kseq.ex ?_ | refine Kloop.ex ?_ | refine Kblock.miss (by decide) ?_)
    refine Kblock.hit ?_
    refine AW.kq [0, 8, 9] (h := ?_)
    repeat refine AW.seq ?_
    refine AW.reg ?_
    iterate 7 refine AOL.s1 (h := ?_)
    refine AOL.nil ?_
    refine AW.kq [0, 8, 9, 12] (h := ?_)
    repeat refine AW.seq ?_
    refine AW.reg ?_
    iterate 4 refine AOL.s1 (h := ?_)
    refine AOL.nil ?_
    refine AW.kq [8, 9, 12, 13] (h := ?_)
    repeat refine AW.seq ?_
    refine AW.block ?_
    repeat refine AW.seq ?_
    refine AW.loopK [8, 9, 12, 13] (fun n' s => ∃ (m : Nat) (iv : Int) (rest out : List Int), s = ⟨89, [(8, i n), (9, .ref 1416 0 p.length 1), (12, .ref 1720 0 M 1), (13, i iv)], [(1416, blk rest), (1720, blk out)]⟩ ∧ m = n' ∧ m ≤ M ∧ iv = (n:Int) + m - 1 ∧ rest.length = p.length ∧ out.length = M ∧ wV rest ∧ wV out ∧ vanF n m rest out = VR) (M) ?_ ?_
    · exact ⟨M, _, _, _, rfl, rfl, Nat.le_refl _, rfl, by simp, by simp, redL_w p, rep_w M, Eq.symm eR⟩
    rintro n' s ⟨m, iv, rest, out, rfl, rfl, mM, hiv, lr, lo, wr, wo, hV⟩
    replace hiv := hid hiv
    repeat refine AW.seq ?_
    refine AW.reg ?_
    iterate 3 refine AOL.s1 (h := ?_)
    refine AOL.nil ?_
    refine AW.kq [8, 9, 12, 13, 51] (h := ?_)
    repeat refine AW.seq ?_
    refine AW.cond rfl (fun d_ => ?_) (fun d_ => ?_)
    · have hp' : p.length = n + M := hp
      have hiv : iv = (n:Int) + m - 1 := hiv
      have hm : 0 < m := by have : iv ≥ (n:Int) := by simpa using d_
                            omega
      obtain ⟨m', rfl⟩ : ∃ m', m = m' + 1 := ⟨m - 1, by omega⟩
      obtain rfl : iv = ((n + m' : Nat) : Int) := by omega
      clear hiv
      have hs1 : IntKind.i64.wrap (((n + m' : Nat) : Int) - n) = (m' : Int) := by rw [wrapI_o (by omega) (by omega)]; omega
      have hs2 : IntKind.i64.wrap (((n + m' : Nat) : Int) - 1) = (n : Int) + m' - 1 := by rw [wrapI_o (by omega) (by omega)]; omega
      obtain ⟨a, ha, haw, hda⟩ := at_nat (V := rest) (n := n + m') (by omega) wr
      obtain ⟨b, hb, hbw, hdb⟩ := at_nat (V := rest) (n := m') (by omega) wr
      have z1 : (0:Int) ≤ ((n + m' : Nat) : Int) := by omega
      have z2 : ((n + m' : Nat) : Int) < p.length := by omega
      have z3 : (0:Int) ≤ (m' : Int) := by omega
      have z4 : (m' : Int) < (M : Int) := by omega
      have z5 : (m' : Int) < p.length := by omega
      have y1 : m' + 1 ≤ M := by omega
      have y2 : m' + 1 ≤ p.length := by omega
      have y3 : n + m' + 1 ≤ p.length := by omega
      have hV : vanF n m' ((rest.set m' ((b + a) % 288230376287764481)).set (n + m') 0) (out.set m' a) = VR := by
        rw [← hV]; simp only [vanF, ha, hb, Option.getD_some]
      have f1 := fset out m' a
      have f2 := fset rest m' ((b + a) % 288230376287764481)
      have f3 := fset (rest.set m' ((b + a) % 288230376287764481)) (n + m') 0
      have g1 := fml out
      have g2 := fml rest
      have g3 := fml (rest.set m' ((b + a) % 288230376287764481))
      rw [lo] at g1
      rw [lr] at g2
      rw [List.length_set, lr] at g3
      have wo2 := set_w wo haw m'
      have wr2' := set_w (set_w wr (w64_r (b + a)) m') (v := 0) (by decide) (n + m')
      have lo2 : (out.set m' a).length = M := by rw [List.length_set, lo]
      have lr2' : ((rest.set m' ((b + a) % 288230376287764481)).set (n + m') 0).length = p.length := by rw [List.length_set, List.length_set, lr]
      generalize rest.set m' ((b + a) % 288230376287764481) = R1 at *
      generalize R1.set (n + m') 0 = R2 at *
      generalize out.set m' a = O2 at *
      replace lo := hid lo
      replace lr := hid lr
      replace lo2 := hid lo2
      replace lr2' := hid lr2'
      replace hV := hid hV
      clear hp' ha hb d_ hmk2 hone hm
      refine AW.skip ?_
      repeat refine AW.seq ?_
      refine AW.block ?_
      repeat refine AW.seq ?_
      refine AW.reg ?_
      iterate 10 refine AOL.s1 (h := ?_)
      refine AOL.nil ?_
      refine AW.kq [8, 9, 12, 13] (h := ?_)
      repeat refine AW.seq ?_
      refine AW.drw 15 [] (by kernel_rfl) (h := ?_)
      iterate 14 refine ADL.dm 1 (h := ?_)
      refine ADL.call rfl (modular_Add_c hR hbw haw) (by kernel_rfl) rfl rfl (h := ?_)
      refine ADL.done hmix rfl rfl (hT := ?_)
      iterate 2 refine AOL.s1 (h := ?_)
      refine AOL.nil ?_
      refine AW.kq [8, 9, 12, 13] (h := ?_)
      repeat refine AW.seq ?_
      refine AW.reg ?_
      iterate 4 refine AOL.s1 (h := ?_)
      refine AOL.nil ?_
      repeat refine AW.seq ?_
      refine AW.reg ?_
      iterate 3 refine AOL.s1 (h := ?_)
      refine AOL.nil ?_
      exact ⟨m', by omega, m', _, R2, O2, rfl, rfl, by omega, rfl, lr2', lo2, wr2', wo2, hV⟩
    · have hiv : iv = (n:Int) + m - 1 := hiv
      have hm : m = 0 := by have : ¬ iv ≥ (n:Int) := by simpa using d_
                            omega
      subst hm
      clear hiv
      have hVR : (rest, out) = VR := hV
      subst hVR
      simp only
      have hsr : sub 0 (p.length * 1) (fm u1 rest) = fm u1 rest := sub_all (Nat.le_of_eq (by rw [fml, lr, Nat.mul_one]))
      have cs := poly_short_c wr (by omega)
      rw [ul_def rest, lr] at cs
      clear hmk2 hone hV eR
      have hln : ∀ L : List Int, ((L.length : Int) > 0) = (L.isEmpty = false) := by
        intro L; cases L <;> simp <;> omega
      repeat refine AW.seq ?_
      refine AW.exit ?_
      repeat (first | refine Kseq.ex ?_ | refine Kloop.ex ?_ | refine Kblock.miss (by decide) ?_)
      refine Kblock.hit ?_
      refine AW.kq [9, 12] (h := ?_)
      refine AW.fz 1416 rfl (fun h => by cases h) (h := ?_)
      rw [hsr]
      clear hsr
      repeat refine AW.seq ?_
      refine AW.reg ?_
      iterate 1 refine AOL.s1 (h := ?_)
      refine AOL.callD rfl (cs) (by kernel_rfl) rfl rfl (h := ?_)
      iterate 2 refine AOL.s1 (h := ?_)
      refine AOL.nil ?_
      refine AW.kq [12, 85] (h := ?_)
      repeat refine AW.seq ?_
      refine AW.cond rfl (fun e_ => ?_) (fun e_ => ?_)
      · have hem : (shortL rest).isEmpty = false := by simpa [hln] using e_
        rw [hem]
        repeat refine AW.seq ?_
        refine AW.reg ?_
        iterate 3 refine AOL.s1 (h := ?_)
        refine AOL.nil ?_
        refine AW.kq [4, 5] (h := ?_)
        repeat refine AW.seq ?_
        refine AW.ret ?_
        refine ⟨_, [], rfl, HOk.nil _, ?_⟩
        exact .inl ⟨rfl, rfl, rfl⟩
      have hem : (shortL rest).isEmpty = true := by simpa using e_
      rw [hem]
      clear cs
      cases M with
      | zero =>
        have hout : out = [] := List.eq_nil_of_length_eq_zero lo
        subst hout
        have cs := poly_short_c (L := []) (by intro v hv; cases hv) (by decide)
        refine AW.skip ?_
        refine AW.fz 1720 rfl (fun h => by cases h) (h := ?_)
        repeat refine AW.seq ?_
        refine AW.reg ?_
        iterate 1 refine AOL.s1 (h := ?_)
        refine AOL.callD rfl (cs) (by kernel_rfl) rfl rfl (h := ?_)
        iterate 2 refine AOL.s1 (h := ?_)
        refine AOL.nil ?_
        refine AW.kq [4, 5] (h := ?_)
        repeat refine AW.seq ?_
        refine AW.ret ?_
        refine ⟨_, [], rfl, HOk.nil _, ?_⟩
        exact .inr (.inl ⟨rfl, rfl, rfl, rfl⟩)
      | succ M =>
      have hp' : p.length = n + (M + 1) := hp
      have cs := poly_short_o wo (by omega)
      clear hp'
      rw [lo] at cs
      have hnz : (blk out).cs ≠ [] := fm_ne (by omega)
      refine AW.skip ?_
      repeat refine AW.seq ?_
      refine AW.reg ?_
      iterate 1 refine AOL.s1 (h := ?_)
      refine AOL.call1 1720 (cs) rfl (by kernel_rfl) rfl (by intro l_ hl_; simp [labs, labss] at hl_ <;> exact hl_) (by first | rfl | exact frees_fm (fun _ => rfl) _) (by first | rfl | exact frees_fm (fun _ => rfl) _) (by intro l_ hl_; simp [labs, labss] at hl_ <;> exact hl_) (by assumption) rfl (by simp only [St.drop, mapT, mapH, kill, kills, del, St.put, ins, ren, rens, reduceIte, Nat.reduceLT, Nat.reduceEqDiff, Bool.false_eq_true]; exact rfl) ?_
      iterate 2 refine AOL.s1 (h := ?_)
      refine AOL.nil ?_
      refine AW.kq [4, 5] (h := ?_)
      repeat refine AW.seq ?_
      skip
      refine AW.ret ?_
      refine ⟨_, [(1720, _)], rfl, (fun p_ hp_ => hp_), ?_⟩
      refine .inr (.inr ⟨rfl, Nat.succ_pos _, ?_⟩)
      refine Tells.one 1720 (by decide) ?_
      exact frees_fm (fun _ => rfl) _
end Go.Proofs.Ytdbpjegocmdplaa.E.M

