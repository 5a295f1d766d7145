/- Products of pairings by the program, and PairStays: contracts over E. -/
import Derived.Test.YtdbpjegocmdplaaOpnP
import Derived.Test.YtdbpjegocmdplaaProg
import Derived.KernelRfl
set_option linter.unusedVariables false
set_option linter.unusedSimpArgs false
set_option maxRecDepth 10000
open Go Go.Proofs.Ytdbpjegocmdplaa.E Go.Proofs
namespace Go.Proofs.Ytdbpjegocmdplaa.E.M
def prodF : List P3 → List P3 → Int × Int → Option (Int × Int)
  | a :: al, q :: qs, o => if pairE a q = (0, 0) then none else prodF al qs (mulE o (pairE a q))
  | _, _, o => some o
def prodV (a q : List P3) : (Int × Int) × Bool := if a.length = q.length then (match prodF a q (1, 0) with | some o => (o, true) | none => ((0, 0), false)) else ((0, 0), false)
theorem prodF_lt : ∀ (a q : List P3) (o r : Int × Int), lt o.1 ∧ lt o.2 → prodF a q o = some r → lt r.1 ∧ lt r.2
  | a :: al, q :: qs, o, r, h, e => by
    simp only [prodF] at e
    split at e
    · cases e
    · exact prodF_lt al qs _ r (mulE_lt _ _) e
  | [], _, o, r, h, e => by simp only [prodF, Option.some.injEq] at e; subst e; exact h
  | _ :: _, [], o, r, h, e => by simp only [prodF, Option.some.injEq] at e; subst e; exact h
theorem prodV_lt (a q : List P3) : lt (prodV a q).1.1 ∧ lt (prodV a q).1.2 := by
  unfold prodV
  split
  · split
    · rename_i o h; exact prodF_lt _ _ _ _ one_lt h
    · exact ⟨⟨by decide, by decide⟩, ⟨by decide, by decide⟩⟩
  · exact ⟨⟨by decide, by decide⟩, ⟨by decide, by decide⟩⟩
abbrev er_ (b : Bool) (n : Int) : AV := match b with | true => nil_ | false => er n
abbrev wL (L : List P3) : Prop := ∀ g ∈ L, w64 g.2.1 ∧ w64 g.2.2
theorem dcons {α : Type} {L : List α} {k : Nat} {a : α} {r : List α} (e : L.drop k = a :: r) : k < L.length ∧ L.drop (k + 1) = r ∧ L[k]? = some a := by
  have h : k < L.length := by
    rcases Nat.lt_or_ge k L.length with h | h
    · exact h
    · rw [List.drop_eq_nil_of_le h] at e; cases e
  refine ⟨h, by rw [← List.drop_drop, e]; rfl, ?_⟩
  have := congrArg (·[0]?) e
  simpa using this
theorem dnil {α : Type} {L : List α} {k : Nat} (e : L.drop k = []) (h : k ≤ L.length) : k = L.length := by
  have := List.drop_eq_nil_iff.1 e; omega
theorem inc_ {k : Nat} {n : Nat} (h : k < n) (hn : n < 1000000000) : IntKind.i64.wrap ((k:Int) + 1) = ((k + 1 : Nat) : Int) := by
  rw [wrapI_o (by omega) (by omega)]; rfl
set_option maxHeartbeats 2000000 in
theorem pair_Product_c {a q : List P3} (ha : wL a) (hq : wL q) (la : a.length < 1000000000) (lq : q.length < 1000000000) : Fn Try.prog 39 [slF ptc a, slF ptc q] [] (fun r _ => r = .tup [ee (prodV a q).1, er_ (prodV a q).2 1]) := by
  have eqE := eqE
  have tc : tIface Try.prog 52 = some false := rfl
  refine Fn.enter Try.func39 Try.ntmps39 rfl (h := ?_)
  have tf := tf
  have tfe := tfe
  have tfl := tfl
  repeat refine AW.seq ?_
  refine AW.reg ?_
  iterate 2 refine AOL.s1 (h := ?_)
  refine AOL.nil ?_
  refine AW.kq [0, 1, 4] (h := ?_)
  repeat refine AW.seq ?_
  refine AW.reg ?_
  iterate 5 refine AOL.s1 (h := ?_)
  refine AOL.nil ?_
  refine AW.kq [0, 1, 4, 13] (h := ?_)
  repeat refine AW.seq ?_
  refine AW.cond rfl (fun c_ => ?_) (fun c_ => ?_)
  · have c1 : ¬ a.length = q.length := by
      intro h; rw [h] at c_; simp at c_
    have pv : prodV a q = ((0, 0), false) := by unfold prodV; rw [if_neg c1]
    rw [pv]
    clear pv c1 c_
    repeat refine AW.seq ?_
    refine AW.reg ?_
    iterate 4 refine AOL.s1 (h := ?_)
    refine AOL.nil ?_
    refine AW.kq [4, 5] (h := ?_)
    repeat refine AW.seq ?_
    refine AW.ret ?_
    refine ⟨_, [], rfl, HOk.nil _, ?_⟩
    rfl
  have c1 : a.length = q.length := by
    have t : (a.length : Int) = q.length := by simpa using c_
    omega
  have pv : prodV a q = match prodF a q (1, 0) with | some o => (o, true) | none => ((0, 0), false) := by unfold prodV; rw [if_pos c1]
  rw [pv]
  clear pv c_
  replace c1 : id (a.length = q.length) := c1
  refine AW.skip ?_
  repeat refine AW.seq ?_
  refine AW.reg ?_
  iterate 3 refine AOL.s1 (h := ?_)
  refine AOL.nil ?_
  refine AW.kq [0, 1, 4, 6] (h := ?_)
  repeat refine AW.seq ?_
  refine AW.reg ?_
  iterate 3 refine AOL.s1 (h := ?_)
  refine AOL.nil ?_
  refine AW.kq [0, 1, 4, 6, 18, 19] (h := ?_)
  repeat refine AW.seq ?_
  refine AW.block ?_
  repeat refine AW.seq ?_
  refine AW.loopK [0, 1, 4, 6, 18, 19] (fun n s => ∃ (k : Nat) (ra rq : List P3) (o0 o1 : Int), s = ⟨41, [(0, slF ptc a), (1, slF ptc q), (4, .ptr 1064 0), (6, .ptr 1096 0), (18, i a.length), (19, i k)], [(1064, ⟨80, true, [u 0, u 0]⟩), (1096, ⟨80, true, [u o0, u o1]⟩)]⟩ ∧ a.drop k = ra ∧ q.drop k = rq ∧ k ≤ a.length ∧ n = ra.length ∧ (lt o0 ∧ lt o1) ∧ prodF ra rq (o0, o1) = prodF a q (1, 0)) a.length ?_ ?_
  · exact ⟨0, a, q, 1, 0, rfl, rfl, rfl, Nat.zero_le _, rfl, one_lt, rfl⟩
  rintro n s ⟨k, ra, rq, o0, o1, rfl, hra, hrq, hk, rfl, ho, hp⟩
  repeat refine AW.seq ?_
  refine AW.reg ?_
  iterate 1 refine AOL.s1 (h := ?_)
  refine AOL.nil ?_
  refine AW.kq [0, 1, 4, 6, 18, 19, 20] (h := ?_)
  repeat refine AW.seq ?_
  refine AW.cond rfl (fun c_ => ?_) (fun c_ => ?_)
  · cases ra with
    | nil => have := dnil hra hk; simp at c_; omega
    | cons x ra =>
    obtain ⟨hlt, hra', hx⟩ := dcons hra
    cases rq with
    | nil => have := dnil hrq (by have : a.length = q.length := c1; omega); have : a.length = q.length := c1; omega
    | cons y rq =>
    obtain ⟨hlt2, hrq', hy⟩ := dcons hrq
    have hd : (fm ptc a).drop (k * 3) = bo x.1 :: u x.2.1 :: u x.2.2 :: fm ptc ra := fm_drop ptc_len hra
    have hd2 : (fm ptc q).drop (k * 3) = bo y.1 :: u y.2.1 :: u y.2.2 :: fm ptc rq := fm_drop ptc_len hrq
    have k0 : (0:Int) ≤ k := by omega
    have k1 : (k:Int) < a.length := by omega
    have k2 : (k:Int) < q.length := by have : a.length = q.length := c1; omega
    have hw := inc_ hlt la
    have wx := ha x (List.mem_of_getElem? hx)
    have wy := hq y (List.mem_of_getElem? hy)
    have cp := pair_Pair_c (a0 := x.1) (q0 := y.1) wx.1 wx.2 wy.1 wy.2
    have lp := pairE_lt x y
    have go : (if pairE x y = (0, 0) then none else prodF ra rq (mulE (o0, o1) (pairE x y))) = prodF a q (1, 0) := hp
    rw [show ((x.1, x.2.1, x.2.2) : P3) = x from rfl, show ((y.1, y.2.1, y.2.2) : P3) = y from rfl] at cp
    generalize pairE x y = e at *
    obtain ⟨e0, e1⟩ := e
    clear hra hrq hp hx hy wx wy
    refine AW.skip ?_
    repeat refine AW.seq ?_
    refine AW.block ?_
    repeat refine AW.seq ?_
    refine AW.reg ?_
    iterate 2 refine AOL.s1 (h := ?_)
    refine AOL.nil ?_
    refine AW.kq [0, 1, 4, 6, 7, 18, 19] (h := ?_)
    repeat refine AW.seq ?_
    refine AW.drw 10 [1128] (by kernel_rfl) (h := ?_)
    iterate 8 refine ADL.dm 1 (h := ?_)
    refine ADL.call rfl (cp) (by kernel_rfl) rfl rfl (h := ?_)
    iterate 1 refine ADL.dm 1 (h := ?_)
    refine ADL.done hmix rfl rfl (hT := ?_)
    iterate 1 refine AOL.s1 (h := ?_)
    refine AOL.nil ?_
    refine AW.kq [0, 1, 4, 6, 8, 18, 19] (h := ?_)
    clear cp hd hd2
    repeat refine AW.seq ?_
    refine AW.reg ?_
    iterate 3 refine AOL.s1 (h := ?_)
    refine AOL.nil ?_
    refine AW.kq [0, 1, 4, 6, 8, 18, 19, 33] (h := ?_)
    repeat refine AW.seq ?_
    refine AW.cond rfl (fun d_ => ?_) (fun d_ => ?_)
    · have d1 : ((e0, e1) : Int × Int) = (0, 0) := by
        have : e0 = 0 ∧ e1 = 0 := by simpa using d_
        rw [this.1, this.2]
      rw [if_pos d1] at go
      rw [← go]
      clear go d1 d_
      repeat refine AW.seq ?_
      refine AW.reg ?_
      iterate 4 refine AOL.s1 (h := ?_)
      refine AOL.nil ?_
      refine AW.kq [4, 5] (h := ?_)
      repeat refine AW.seq ?_
      refine AW.ret ?_
      refine ⟨_, [], rfl, HOk.nil _, ?_⟩
      rfl
    have d1 : ¬ ((e0, e1) : Int × Int) = (0, 0) := by
      intro h
      simp only [Prod.mk.injEq] at h
      rw [h.1, h.2] at d_; cases d_
    rw [if_neg d1] at go
    have cm := ext_Mul_c ho.1.w ho.2.w lp.1.w lp.2.w
    have lm := mulE_lt (o0, o1) (e0, e1)
    generalize mulE (o0, o1) (e0, e1) = M at *
    obtain ⟨m0, m1⟩ := M
    clear d1 d_
    refine AW.skip ?_
    repeat refine AW.seq ?_
    refine AW.reg ?_
    iterate 2 refine AOL.s1 (h := ?_)
    refine AOL.callD rfl (cm) (by kernel_rfl) rfl rfl (h := ?_)
    iterate 1 refine AOL.s1 (h := ?_)
    refine AOL.nil ?_
    repeat refine AW.seq ?_
    refine AW.let 1128 (h := ?_)
    refine AW.reg ?_
    iterate 2 refine AOL.s1 (h := ?_)
    refine AOL.nil ?_
    exact ⟨ra.length, by simp, _, _, _, _, _, rfl, hra', hrq', hlt, rfl, lm, go⟩
  have hre : ra = [] := by
    cases ra with
    | nil => rfl
    | cons t r => have := (dcons hra).1; simp at c_; omega
  subst hre
  have go : prodF a q (1, 0) = some (o0, o1) := hp.symm
  rw [go]
  clear hp go hra hrq
  repeat refine AW.seq ?_
  refine AW.exit ?_
  repeat (first | refine Kseq.ex ?_ | refine Kloop.ex ?_ | refine Kblock.miss (by decide) ?_)
  refine Kblock.hit ?_
  refine AW.kq [4, 6] (h := ?_)
  repeat refine AW.seq ?_
  refine AW.reg ?_
  iterate 3 refine AOL.s1 (h := ?_)
  refine AOL.nil ?_
  refine AW.kq [4, 5] (h := ?_)
  repeat refine AW.seq ?_
  refine AW.ret ?_
  refine ⟨_, [], rfl, HOk.nil _, ?_⟩
  rfl
theorem p3_refl (x : P3) : (x.1 == x.1 && (x.2.1 == x.2.1 && x.2.2 == x.2.2)) = true := by simp
end Go.Proofs.Ytdbpjegocmdplaa.E.M

