/- Texts joined: ZMGaf, ZMGag, ZMCpA, ZMCbe, ZMCma, ZMCmb. -/
import Derived.Test.YtngphcdhdllnnaaGreatZN8
import Derived.Test.YtngphcdhdllnnaaGreatProg
import Derived.KernelRfl
import Derived.Test.YtngphcdhdllnnaaGreatZN6
import Derived.Test.YtngphcdhdllnnaaGreatZN5
section
/- gadget: hashes, bits: contracts over E. -/
set_option linter.unusedVariables false
set_option linter.unusedSimpArgs false
set_option maxRecDepth 10000
open Go Go.Proofs.YtngphcdhdllnnaaGreat.E Go.Proofs
namespace Go.Proofs.YtngphcdhdllnnaaGreat.E.M
theorem ipow7_w (k : Nat) (hk : k < 3) : w64 (ipow 288230376287764481 7 (k + 1)) := by
  rw [ipow_eq (by decide) (by decide) (by constructor <;> omega)]; exact w64_r _
abbrev three1 (v : Int) (a ka w kw : Int) : List Tm := [⟨v, 1⟩, ⟨a, ka⟩, ⟨w, kw⟩]
theorem tok_3 {v a ka w kw : Int} (h1 : w64 ka) (h2 : w64 kw) : tok (three1 v a ka w kw) := by
  refine ⟨by simp, fun t ht => ?_⟩
  simp only [List.mem_cons, List.not_mem_nil, or_false] at ht
  rcases ht with rfl | rfl | rfl
  · exact w64_1
  · exact h1
  · exact h2
abbrev twoL (a x : Int) (j : Nat) : List Tm := three1 x a 1 0 (ipow 288230376287764481 7 (j + 1))
def twoS (a : Int) : Nat → Nat → Mk → Int → Mk × Int
  | 0, _, m, x => (m, x)
  | n + 1, j, m, x => twoS a n (j + 1) (prodM (prodM m (twoL a x j) (twoL a x j)) (one1 m.vals.length) (twoL a x j)) (prodM m (twoL a x j) (twoL a x j)).vals.length
abbrev twoE (m : Mk) (a b : Int) : Mk × Int := twoS (isM m.vals a) 3 0 m (isM m.vals b)
def twoM (m : Mk) (a b : Int) : Mk := linM (twoE m a b).1 (three1 (twoE m a b).2 (isM m.vals a) 2 (isM m.vals b) 1)
def twoR (m : Mk) (a b : Int) : Int := ((twoE m a b).1.vals.length : Int)
theorem twoS_ok {k : Nat} (a : Int) : ∀ (n j : Nat) (m : Mk) (x : Int), Mok (4 * n + k) m → Mok k (twoS a n j m x).1
  | 0, _, _, _, h => by simpa [twoS] using h
  | n + 1, j, m, x, h => twoS_ok a n (j + 1) _ _ (Mok.prod (Mok.prod (Mok.mono h (by omega)) _ _) _ _)
theorem twoM_ok {k : Nat} {m : Mk} (h : Mok (14 + k) m) (a b : Int) : Mok k (twoM m a b) := Mok.lin (twoS_ok _ 3 0 m _ (Mok.mono h (by omega))) _
set_option maxHeartbeats 4000000 in
theorem gadget_Maker_Two_c {m : Mk} {a b : Int} (hm : Mok 14 m) : Fn Tryz.prog 36 [.ptr 0 0, i a, i b] [(0, mkB m 1 2), (1, rwB m.rows), (2, vlB m.vals)] (Tells (i (twoR m a b)) (mkOut (twoM m a b))) := by
  refine Fn.enter Tryz.func36 Tryz.ntmps36 rfl (h := ?_)
  have tf := tfm
  have ot_ : (false || true) = true := rfl
  have tfr := tfr
  refine AW.mv 1 1001 (h := ?_)
  refine AW.mv 2 1002 (h := ?_)
  repeat refine AW.seq ?_
  refine AW.reg ?_
  iterate 1 refine AOL.s1 (h := ?_)
  refine AOL.nil ?_
  refine AW.kq [0, 1, 2] (h := ?_)
  repeat refine AW.seq ?_
  refine AW.reg ?_
  iterate 2 refine AOL.s1 (h := ?_)
  refine AOL.callF rfl (isF rfl rfl rfl) (by kernel_rfl) (h := ?_)
  iterate 2 refine AOL.s1 (h := ?_)
  refine AOL.callF rfl (isF rfl rfl rfl) (by kernel_rfl) (h := ?_)
  iterate 2 refine AOL.s1 (h := ?_)
  refine AOL.nil ?_
  refine AW.kq [0, 1, 2] (h := ?_)
  repeat refine AW.seq ?_
  refine AW.reg ?_
  iterate 2 refine AOL.s1 (h := ?_)
  refine AOL.nil ?_
  refine AW.kq [0, 1, 2, 7] (h := ?_)
  repeat refine AW.seq ?_
  refine AW.reg ?_
  iterate 1 refine AOL.s1 (h := ?_)
  refine AOL.nil ?_
  refine AW.kq [0, 1, 2, 7, 18] (h := ?_)
  repeat refine AW.seq ?_
  refine AW.block ?_
  repeat refine AW.seq ?_
  refine AW.loopK [0, 1, 2, 7, 18] (fun n s => ∃ (j : Nat) (q : Mk) (x : Int), s = ⟨50, [(0, .ptr 0 0), (1, i (isM m.vals a)), (2, i (isM m.vals b)), (7, i x), (18, i j)], [(0, mkB q 1001 1002), (1001, rwB q.rows), (1002, vlB q.vals)]⟩ ∧ j + n = 3 ∧ Mok (4 * n + 2) q ∧ id (twoS (isM m.vals a) n j q x = twoE m a b)) (3) ?_ ?_
  · exact ⟨0, m, _, rfl, rfl, hm, rfl⟩
  rintro n s ⟨j, q, x, rfl, hj, hq, ht⟩
  repeat refine AW.seq ?_
  refine AW.reg ?_
  iterate 1 refine AOL.s1 (h := ?_)
  refine AOL.nil ?_
  refine AW.kq [0, 1, 2, 7, 18, 19] (h := ?_)
  repeat refine AW.seq ?_
  refine AW.cond rfl (fun c_ => ?_) (fun c_ => ?_)
  · have j1 : j < 3 := by simp at c_; omega
    obtain ⟨n, rfl⟩ : ∃ m, n = m + 1 := ⟨n - 1, by omega⟩
    have k2 : IntKind.i64.wrap ((j : Int) + 1) = ((j + 1 : Nat) : Int) := by rw [wrapI_o (by omega) (by omega)]; omega
    have k3 : IntKind.u64.wrap (j : Int) = (j : Int) := by rw [wu64]; omega
    have k4 : IntKind.u64.wrap ((j : Int) + 1) = (j : Int) + 1 := by rw [wu64]; omega
    have cP := modular_Pow_c (e := (j : Int) + 1) hR (show w64 7 by decide) (by constructor <;> omega)
    have ti := tok_3 (v := x) (a := isM m.vals a) (w := 0) w64_1 (ipow7_w j j1)
    have c1 := gadget_Maker_product_c (Mok.mono hq (by omega)) ti ti
    have hq1 : Mok (4 * n + 4) (prodM q (twoL (isM m.vals a) x j) (twoL (isM m.vals a) x j)) := Mok.prod (Mok.mono hq (by omega)) _ _
    have c2 := gadget_Maker_product_c (Mok.mono hq1 (by omega)) (tok_1 q.vals.length) ti
    refine AW.skip ?_
    repeat refine AW.seq ?_
    refine AW.block ?_
    repeat refine AW.seq ?_
    refine AW.reg ?_
    iterate 2 refine AOL.s1 (h := ?_)
    refine AOL.nil ?_
    refine AW.kq [0, 1, 2, 7, 8, 18] (h := ?_)
    repeat refine AW.seq ?_
    refine AW.reg ?_
    iterate 1 refine AOL.s1 (h := ?_)
    refine AOL.callD rfl (gadget_one_c) (by kernel_rfl) rfl rfl (h := ?_)
    iterate 1 refine AOL.s1 (h := ?_)
    refine AOL.callD rfl (gadget_one_c) (by kernel_rfl) rfl rfl (h := ?_)
    iterate 3 refine AOL.s1 (h := ?_)
    refine AOL.callD rfl (cP) (by kernel_rfl) rfl rfl (h := ?_)
    refine AOL.callD rfl (gadget_one_c) (by kernel_rfl) rfl rfl (h := ?_)
    iterate 1 refine AOL.s1 (h := ?_)
    refine AOL.fz 1480 rfl (fun h => by cases h) (h := ?_)
    iterate 1 refine AOL.s1 (h := ?_)
    refine AOL.nil ?_
    refine AW.kq [0, 1, 2, 9, 18] (h := ?_)
    repeat refine AW.seq ?_
    refine AW.reg ?_
    iterate 3 refine AOL.s1 (h := ?_)
    refine AOL.callM (l := 0) (b := 1000) (c1) rfl (by kernel_rfl) rfl rfl rfl rfl rfl (hst := by simp only [St.drops, St.drop, mapT, mapH, kill, kills, del, St.put, ins, reduceIte, Nat.reduceAdd, Nat.reduceLT, Nat.reduceEqDiff, Bool.false_eq_true]; exact rfl) ?_
    iterate 1 refine AOL.s1 (h := ?_)
    refine AOL.nil ?_
    refine AW.kq [0, 1, 2, 9, 10, 18] (h := ?_)
    repeat refine AW.seq ?_
    refine AW.reg ?_
    iterate 2 refine AOL.s1 (h := ?_)
    refine AOL.callD rfl (gadget_just_c) (by kernel_rfl) rfl rfl (h := ?_)
    iterate 1 refine AOL.s1 (h := ?_)
    refine AOL.callM (l := 0) (b := 1000) (c2) rfl (by kernel_rfl) rfl rfl rfl rfl rfl (hst := by simp only [St.drops, St.drop, mapT, mapH, kill, kills, del, St.put, ins, reduceIte, Nat.reduceAdd, Nat.reduceLT, Nat.reduceEqDiff, Bool.false_eq_true]; exact rfl) ?_
    iterate 1 refine AOL.s1 (h := ?_)
    refine AOL.nil ?_
    repeat refine AW.seq ?_
    refine AW.reg ?_
    iterate 2 refine AOL.s1 (h := ?_)
    refine AOL.nil ?_
    exact ⟨n, by omega, j + 1, _, _, rfl, by omega, Mok.prod (Mok.mono hq1 (by omega)) _ _, ht⟩
  · have n0 : n = 0 := by simp at c_; omega
    subst n0
    have e1 : twoM m a b = linM q (three1 x (isM m.vals a) 2 (isM m.vals b) 1) := by unfold twoM; rw [← show _ = _ from ht]; rfl
    have e2 : twoR m a b = q.vals.length := by unfold twoR; rw [← show _ = _ from ht]; rfl
    have c3 := gadget_Maker_Linear_c (m := q) (L := three1 x (isM m.vals a) 2 (isM m.vals b) 1) (Mok.mono hq (by omega)) (tok_3 (by decide) w64_1)
    rw [e1, e2]
    clear ht e1 e2
    repeat refine AW.seq ?_
    refine AW.exit ?_
    repeat (first | refine Kseq.ex ?_ | refine Kloop.ex ?_ | refine Kblock.miss (by decide) ?_)
    refine Kblock.hit ?_
    refine AW.kq [0, 1, 2, 7] (h := ?_)
    repeat refine AW.seq ?_
    refine AW.reg ?_
    iterate 2 refine AOL.s1 (h := ?_)
    refine AOL.callD rfl (gadget_one_c) (by kernel_rfl) rfl rfl (h := ?_)
    iterate 1 refine AOL.s1 (h := ?_)
    refine AOL.callD rfl (gadget_one_c) (by kernel_rfl) rfl rfl (h := ?_)
    iterate 1 refine AOL.s1 (h := ?_)
    refine AOL.callD rfl (gadget_one_c) (by kernel_rfl) rfl rfl (h := ?_)
    iterate 1 refine AOL.s1 (h := ?_)
    refine AOL.fz 1768 rfl (fun h => by cases h) (h := ?_)
    refine AOL.callM (l := 0) (b := 1000) (c3) rfl (by kernel_rfl) rfl rfl rfl rfl rfl (hst := by simp only [St.drops, St.drop, mapT, mapH, kill, kills, del, St.put, ins, reduceIte, Nat.reduceAdd, Nat.reduceLT, Nat.reduceEqDiff, Bool.false_eq_true]; exact rfl) ?_
    iterate 1 refine AOL.s1 (h := ?_)
    refine AOL.nil ?_
    refine AW.kq [6] (h := ?_)
    repeat refine AW.seq ?_
    refine AW.ret ?_
    refine ⟨_, mkOut (linM q (three1 x (isM m.vals a) 2 (isM m.vals b) 1)), rfl, ?_, ?_⟩
    · exact fun p hp => hp
    · exact Tells.self
abbrev i1 (n : Int) : List AV := [i n]
theorem i1_len (n : Int) : (i1 n).length = 1 := rfl
abbrev il (V : List Int) : AV := slF i1 V
def manS : List Int → Mk → Int → Mk × Int
  | [], m, h => (m, h)
  | v :: V, m, h => manS V (twoM m h v) (twoR m h v)
abbrev manE (m : Mk) (V : List Int) : Mk × Int := manS V (linM m [⟨0, V.length⟩]) m.vals.length
theorem manS_ok {k : Nat} : ∀ (V : List Int) (m : Mk) (h : Int), Mok (14 * V.length + k) m → Mok k (manS V m h).1
  | [], m, h, hm => by simpa [manS] using hm
  | v :: V, m, h, hm => manS_ok V _ _ (twoM_ok (Mok.mono hm (by simp only [List.length_cons]; omega)) _ _)
theorem manE_ok {k : Nat} {m : Mk} {V : List Int} (h : Mok (14 * V.length + 2 + k) m) : Mok k (manE m V).1 := manS_ok V _ _ (Mok.lin (Mok.mono h (by omega)) _)
set_option maxHeartbeats 4000000 in
theorem gadget_Maker_Many_c {m : Mk} {V : List Int} (hm : Mok (14 * V.length + 2) m) : Fn Tryz.prog 15 [.ptr 0 0, il V] [(0, mkB m 1 2), (1, rwB m.rows), (2, vlB m.vals)] (Tells (i (manE m V).2) (mkOut (manE m V).1)) := by
  refine Fn.enter Tryz.func15 Tryz.ntmps15 rfl (h := ?_)
  have tf := tfm
  have ot_ : (false || true) = true := rfl
  have tfr := tfr
  have lV : V.length < 1000000 := by have := hm.1; omega
  have lu : IntKind.u64.wrap (V.length : Int) = V.length := by rw [wu64]; omega
  have c0 := gadget_Maker_Linear_c (m := m) (L := [⟨0, V.length⟩]) (Mok.mono hm (by omega)) ⟨by simp, fun t ht => by simp only [List.mem_singleton] at ht; subst ht; constructor <;> show _ <;> simp only <;> omega⟩
  refine AW.mv 1 1001 (h := ?_)
  refine AW.mv 2 1002 (h := ?_)
  repeat refine AW.seq ?_
  refine AW.reg ?_
  iterate 1 refine AOL.s1 (h := ?_)
  refine AOL.nil ?_
  refine AW.kq [0, 1] (h := ?_)
  repeat refine AW.seq ?_
  refine AW.reg ?_
  iterate 4 refine AOL.s1 (h := ?_)
  refine AOL.callD rfl (gadget_one_c) (by kernel_rfl) rfl rfl (h := ?_)
  iterate 1 refine AOL.s1 (h := ?_)
  refine AOL.fz 1208 rfl (fun h => by cases h) (h := ?_)
  refine AOL.callM (l := 0) (b := 1000) (c0) rfl (by kernel_rfl) rfl rfl rfl rfl rfl (hst := by simp only [St.drops, St.drop, mapT, mapH, kill, kills, del, St.put, ins, reduceIte, Nat.reduceAdd, Nat.reduceLT, Nat.reduceEqDiff, Bool.false_eq_true]; exact rfl) ?_
  iterate 1 refine AOL.s1 (h := ?_)
  refine AOL.nil ?_
  refine AW.kq [0, 1, 5] (h := ?_)
  repeat refine AW.seq ?_
  refine AW.reg ?_
  iterate 3 refine AOL.s1 (h := ?_)
  refine AOL.nil ?_
  refine AW.kq [0, 5, 15, 16, 17] (h := ?_)
  repeat refine AW.seq ?_
  refine AW.block ?_
  repeat refine AW.seq ?_
  refine AW.loopK [0, 5, 15, 16, 17] (fun n s => ∃ (k : Nat) (q : Mk) (h : Int) (r : List Int), s = ⟨27, [(0, .ptr 0 0), (5, i h), (15, il V), (16, i V.length), (17, i k)], [(0, mkB q 1001 1002), (1001, rwB q.rows), (1002, vlB q.vals)]⟩ ∧ V.drop k = r ∧ k ≤ V.length ∧ n = r.length ∧ Mok (14 * r.length) q ∧ id (manS r q h = manE m V)) (V.length) ?_ ?_
  · exact ⟨0, _, _, V, rfl, rfl, Nat.zero_le _, rfl, Mok.lin (Mok.mono hm (by omega)) _, rfl⟩
  rintro n s ⟨k, q, h, r, rfl, hr, hkl, rfl, hq, ht⟩
  repeat refine AW.seq ?_
  refine AW.reg ?_
  iterate 1 refine AOL.s1 (h := ?_)
  refine AOL.nil ?_
  refine AW.kq [0, 5, 15, 16, 17, 18] (h := ?_)
  repeat refine AW.seq ?_
  refine AW.cond rfl (fun c_ => ?_) (fun c_ => ?_)
  · cases r with
    | nil => have := dnilq hr hkl; simp at c_; omega
    | cons t r =>
    obtain ⟨hlt, hr', ht_⟩ := dconsq hr
    have hd : (fm i1 V).drop k = i t :: fm i1 r := by
      have := fm_drop i1_len hr
      rwa [Nat.mul_one] at this
    have k0 : (0:Int) ≤ k := by omega
    have k1 : (k:Int) < V.length := by omega
    have hw := incq hlt (show V.length < 1000000000 by omega)
    have c1 := gadget_Maker_Two_c (m := q) (a := h) (b := t) (Mok.mono hq (by simp only [List.length_cons]; omega))
    clear hr ht_
    refine AW.skip ?_
    repeat refine AW.seq ?_
    refine AW.block ?_
    repeat refine AW.seq ?_
    refine AW.reg ?_
    iterate 3 refine AOL.s1 (h := ?_)
    refine AOL.nil ?_
    refine AW.kq [0, 5, 7, 15, 16, 17] (h := ?_)
    repeat refine AW.seq ?_
    refine AW.reg ?_
    iterate 3 refine AOL.s1 (h := ?_)
    refine AOL.callM (l := 0) (b := 1000) (c1) rfl (by kernel_rfl) rfl rfl rfl rfl rfl (hst := by simp only [St.drops, St.drop, mapT, mapH, kill, kills, del, St.put, ins, reduceIte, Nat.reduceAdd, Nat.reduceLT, Nat.reduceEqDiff, Bool.false_eq_true]; exact rfl) ?_
    iterate 1 refine AOL.s1 (h := ?_)
    refine AOL.nil ?_
    repeat refine AW.seq ?_
    refine AW.reg ?_
    iterate 2 refine AOL.s1 (h := ?_)
    refine AOL.nil ?_
    exact ⟨r.length, by simp, k + 1, _, _, r, rfl, hr', hlt, rfl, twoM_ok (Mok.mono hq (by simp only [List.length_cons]; omega)) _ _, ht⟩
  · have : r = [] := by
      cases r with
      | nil => rfl
      | cons t r => have := (dconsq hr).1; simp at c_; omega
    subst this
    have e1 : manE m V = (q, h) := by rw [← show _ = _ from ht]; rfl
    rw [e1]
    clear ht hr e1
    repeat refine AW.seq ?_
    refine AW.exit ?_
    repeat (first | refine Kseq.ex ?_ | refine Kloop.ex ?_ | refine Kblock.miss (by decide) ?_)
    refine Kblock.hit ?_
    refine AW.kq [5] (h := ?_)
    repeat refine AW.seq ?_
    refine AW.reg ?_
    iterate 2 refine AOL.s1 (h := ?_)
    refine AOL.nil ?_
    refine AW.kq [4] (h := ?_)
    repeat refine AW.seq ?_
    refine AW.ret ?_
    refine ⟨_, mkOut q, rfl, ?_, ?_⟩
    · exact fun p hp => hp
    · exact Tells.self
def bitV (V : List Int) (a : Int) (j : Nat) : Int := valM V a / 2 ^ j % 2
def bitS (a : Int) : Nat → Nat → Mk → List Int → List Tm → Mk × List Int × List Tm
  | 0, _, m, o, s => (m, o, s)
  | n + 1, j, m, o, s => bitS a n (j + 1) (rowM (freshM m (bitV m.vals a j)) (one1 m.vals.length) (two1 m.vals.length 0 288230376287764480) []) (o ++ [(m.vals.length : Int)]) (s ++ [⟨m.vals.length, 2 ^ j⟩])
def bitN (n : Int) : Nat := if n < 0 ∨ n > 58 then 0 else n.toNat
theorem bitN_le (n : Int) : bitN n ≤ 58 := by unfold bitN; split <;> omega
abbrev bitE (m : Mk) (a n : Int) : Mk × List Int × List Tm := bitS (isM m.vals a) (bitN n) 0 m [] []
def bitM (m : Mk) (a n : Int) : Mk := rowM (bitE m a n).1 (bitE m a n).2.2 (one1 0) (one1 (isM m.vals a))
theorem bitS_ok {k : Nat} (a : Int) : ∀ (n j : Nat) (m : Mk) (o : List Int) (s : List Tm), Mok (2 * n + k) m → Mok k (bitS a n j m o s).1
  | 0, _, _, _, _, h => by simpa [bitS] using h
  | n + 1, j, m, o, s, h => bitS_ok a n (j + 1) _ _ _ ((Mok.fresh (Mok.mono h (by omega)) _).row _ _ _)
theorem bitM_ok {k : Nat} {m : Mk} (h : Mok (117 + k) m) (a n : Int) : Mok k (bitM m a n) := Mok.row (bitS_ok _ _ _ _ _ _ (Mok.mono h (by have := bitN_le n; omega))) _ _ _
theorem shl1 {j : Nat} (h : j < 58) : IntKind.u64.wrap (1 * 2 ^ min j IntKind.u64.bits) = 2 ^ j := by
  have e : min j IntKind.u64.bits = j := Nat.min_eq_left (by show j ≤ 64; omega)
  have h1 : (2:Int) ^ j < 2 ^ 58 := by
    have := Nat.pow_lt_pow_right (a := 2) (by decide) h
    exact_mod_cast this
  have h2 : (0:Int) < 2 ^ j := Int.pow_pos (by decide)
  rw [e, wu64, Int.one_mul, Int.emod_eq_of_lt (by omega) (by omega)]
theorem fmi_snoc (V : List Int) (x : Int) : fm i1 (V ++ [x]) = fm i1 V ++ [i x] := by rw [fm_app]; rfl
theorem fmt_snoc (V : List Tm) (x : Tm) : fm tm (V ++ [x]) = fm tm V ++ [i x.v, u x.k] := by rw [fm_app]; simp only [fm, List.append_nil]
set_option maxHeartbeats 8000000 in
theorem gadget_Maker_Bits_c {m : Mk} {a n : Int} (hm : Mok 117 m) : Fn Tryz.prog 14 [.ptr 0 0, i a, i n] [(0, mkB m 1 2), (1, rwB m.rows), (2, vlB m.vals)] (Tells (il (bitE m a n).2.1) (mkOut (bitM m a n))) := by
  refine Fn.enter Tryz.func14 Tryz.ntmps14 rfl (h := ?_)
  have tf := tfm
  have ot_ : (false || true) = true := rfl
  have tfr := tfr
  have hN := bitN_le n
  obtain ⟨j0, jl⟩ := isM_in hm.2.2.2 a
  obtain ⟨na, hna⟩ : ∃ n : Nat, isM m.vals a = n := ⟨(isM m.vals a).toNat, by omega⟩
  have e0 : bitM m a n = rowM (bitS na (bitN n) 0 m [] []).1 (bitS na (bitN n) 0 m [] []).2.2 (one1 0) (one1 na) := by unfold bitM bitE; rw [hna]
  have e00 : (bitE m a n).2.1 = (bitS na (bitN n) 0 m [] []).2.1 := by rw [bitE, hna]
  rw [e0, e00]
  replace e0 : id (_ = _) := e0
  replace e00 : id (_ = _) := e00
  rw [hna] at jl
  refine AW.mv 1 1001 (h := ?_)
  refine AW.mv 2 1002 (h := ?_)
  repeat refine AW.seq ?_
  refine AW.reg ?_
  iterate 1 refine AOL.s1 (h := ?_)
  refine AOL.nil ?_
  refine AW.kq [0, 1, 2] (h := ?_)
  repeat refine AW.seq ?_
  refine AW.reg ?_
  iterate 2 refine AOL.s1 (h := ?_)
  refine AOL.callF rfl (isF rfl rfl rfl) (by kernel_rfl) (h := ?_)
  iterate 1 refine AOL.s1 (h := ?_)
  refine AOL.nil ?_
  refine AW.kq [0, 1, 2] (h := ?_)
  repeat refine AW.seq ?_
  refine AW.reg ?_
  iterate 3 refine AOL.s1 (h := ?_)
  refine AOL.kq [0, 1, 2, 16] (h := ?_)
  refine AOL.or 16 19 (os' := ?_) (x := ?_) (h1 := ?_) (h0 := ?_) (h := ?_)
  rotate_left 2
  iterate 2
    · intro hb_ K' hK; (iterate 3 refine AOL.s1 (h := ?_)); refine AOL.kq [0, 1, 2, 19] (h := ?_); exact hK
  refine AOL.nil ?_
  refine AW.kq [0, 1, 2, 19] (h := ?_)
  repeat refine AW.seq ?_
  refine AW.midK [0, 1, 2] (fun t => t = ⟨63, [(0, .ptr 0 0), (1, i na), (2, i (bitN n))], [(0, mkB m 1001 1002), (1001, rwB m.rows), (1002, vlB m.vals)]⟩) ?_ ?_
  · refine AW.cond rfl (fun c_ => ?_) (fun c_ => ?_)
    · have hb : bitN n = 0 := if_pos (by simpa using c_)
      rw [hb]
      repeat refine AW.seq ?_
      refine AW.reg ?_
      iterate 1 refine AOL.s1 (h := ?_)
      refine AOL.nil ?_
      exact rfl
    · have hb : (bitN n : Int) = n := by
        have h : bitN n = n.toNat := if_neg (by simp at c_; omega)
        rw [h]; simp at c_; omega
      rw [hb]
      refine AW.skip ?_
      exact rfl
  rintro t rfl
  repeat refine AW.seq ?_
  refine AW.reg ?_
  iterate 1 refine AOL.s1 (h := ?_)
  refine AOL.nil ?_
  refine AW.kq [0, 1, 2, 7] (h := ?_)
  repeat refine AW.seq ?_
  refine AW.reg ?_
  iterate 1 refine AOL.s1 (h := ?_)
  refine AOL.nil ?_
  refine AW.kq [0, 1, 2, 7, 8] (h := ?_)
  repeat refine AW.seq ?_
  refine AW.reg ?_
  iterate 2 refine AOL.s1 (h := ?_)
  refine AOL.nil ?_
  refine AW.kq [0, 1, 7, 8, 20, 21] (h := ?_)
  repeat refine AW.seq ?_
  refine AW.block ?_
  repeat refine AW.seq ?_
  refine AW.born 7 9001 3 1 (.inl rfl) (h := ?_)
  refine AW.born 8 9002 80 2 (.inl rfl) (h := ?_)
  refine AW.loopK [0, 1, 7, 8, 20, 21] (fun n' s => ∃ (j : Nat) (q : Mk) (o : List Int) (l : List Tm), s = ⟨63, [(0, .ptr 0 0), (1, i na), (7, .ref 9001 0 o.length 1), (8, .ref 9002 0 l.length 2), (20, i (bitN n)), (21, i j)], [(0, mkB q 1001 1002), (1001, rwB q.rows), (1002, vlB q.vals), (9001, ⟨3, false, fm i1 o⟩), (9002, ⟨80, false, fm tm l⟩)]⟩ ∧ j + n' = bitN n ∧ Mok (2 * n' + 1) q ∧ m.vals.length ≤ q.vals.length ∧ o.length = j ∧ l.length = j ∧ wT l ∧ id (bitS na n' j q o l = bitS na (bitN n) 0 m [] []) ∧ id (n' = n')) (bitN n) ?_ ?_
  · exact ⟨0, m, [], [], rfl, by omega, Mok.mono hm (by omega), Nat.le_refl _, rfl, rfl, (fun t ht => by cases ht), rfl, rfl⟩
  rintro n' s ⟨j, q, o, l, rfl, hj, hq, hqm, ho, hl, hlw, ht, _⟩
  repeat refine AW.seq ?_
  refine AW.reg ?_
  iterate 1 refine AOL.s1 (h := ?_)
  refine AOL.nil ?_
  refine AW.kq [0, 1, 7, 8, 20, 21, 22] (h := ?_)
  repeat refine AW.seq ?_
  refine AW.cond rfl (fun c_ => ?_) (fun c_ => ?_)
  · have j1 : j < bitN n := by simp at c_; omega
    obtain ⟨n', rfl⟩ : ∃ m, n' = m + 1 := ⟨n' - 1, by omega⟩
    have k2 : IntKind.i64.wrap ((j : Int) + 1) = ((j + 1 : Nat) : Int) := by rw [wrapI_o (by omega) (by omega)]; omega
    have hqa : isM q.vals na = na := if_neg (by omega)
    obtain ⟨nq, hq1, hq2, hq3, hq4⟩ := valM_at hq.2.2.1 hq.2.2.2 na
    obtain rfl : nq = na := by have := hqa.symm.trans hq1; omega
    have q0 : (0:Int) ≤ nq := by omega
    have hsh := shr_b hq4 (show j ≤ 64 by omega)
    have hand := and_one hsh.2.1 hsh.2.2
    have hs1 := hsh.1
    have hs2 := shl1 (show j < 58 by omega)
    have jn : ¬ (j:Int) < 0 := by omega
    have cF := gadget_Maker_fresh_c (m := q) (x := bitV q.vals nq j) (Mok.mono hq (by omega)) (by unfold bitV; constructor <;> omega)
    have cR := row_nil (m := freshM q (bitV q.vals nq j)) (a := one1 q.vals.length) (b := two1 q.vals.length 0 288230376287764480) (Mok.fresh (Mok.mono hq (by omega)) _) (tok_1 _) (tok_2 w64_m1)
    have hbv : valM q.vals nq / 2 ^ j % 2 = bitV q.vals nq j := rfl
    have lo : (fm i1 o).length = j := by rw [fm_len i1_len, Nat.mul_one, ho]
    have ll : (fm tm l).length = j * 2 := by rw [fm_len tm_len, hl]
    have o1 : (j + 1) * 8 ≤ 140737488355328 := by omega
    have o3 : j ≤ 4611686018427387903 := by omega
    have o2 : j + 1 ≤ 4611686018427387904 := by omega
    have l1 : (j + 1) * 16 ≤ 140737488355328 := by omega
    have ht' : id (bitS nq n' (j + 1) (rowM (freshM q (bitV q.vals nq j)) (one1 q.vals.length) (two1 q.vals.length 0 288230376287764480) []) (o ++ [(q.vals.length : Int)]) (l ++ [⟨q.vals.length, 2 ^ j⟩]) = bitS nq (bitN n) 0 m [] []) := ht
    have hq' : Mok (2 * n' + 1) (rowM (freshM q (bitV q.vals nq j)) (one1 q.vals.length) (two1 q.vals.length 0 288230376287764480) []) := (Mok.fresh (Mok.mono hq (by omega)) _).row _ _ _
    clear ht hqa hq1
    refine AW.skip ?_
    repeat refine AW.seq ?_
    refine AW.block ?_
    repeat refine AW.seq ?_
    refine AW.reg ?_
    iterate 2 refine AOL.s1 (h := ?_)
    refine AOL.nil ?_
    refine AW.kq [0, 1, 7, 8, 9, 20, 21] (h := ?_)
    repeat refine AW.seq ?_
    refine AW.reg ?_
    iterate 11 refine AOL.s1 (h := ?_)
    refine AOL.callM (l := 0) (b := 1000) (cF) rfl (by kernel_rfl) rfl rfl rfl rfl rfl (hst := by simp only [St.drops, St.drop, mapT, mapH, kill, kills, del, St.put, ins, reduceIte, Nat.reduceAdd, Nat.reduceLT, Nat.reduceEqDiff, Bool.false_eq_true]; exact rfl) ?_
    iterate 1 refine AOL.s1 (h := ?_)
    refine AOL.nil ?_
    refine AW.kq [0, 1, 7, 8, 9, 10, 20, 21] (h := ?_)
    repeat refine AW.seq ?_
    refine AW.reg ?_
    iterate 2 refine AOL.s1 (h := ?_)
    refine AOL.callD rfl (gadget_just_c) (by kernel_rfl) rfl rfl (h := ?_)
    iterate 1 refine AOL.s1 (h := ?_)
    refine AOL.callD rfl (gadget_one_c) (by kernel_rfl) rfl rfl (h := ?_)
    refine AOL.callD rfl (gadget_one_c) (by kernel_rfl) rfl rfl (h := ?_)
    iterate 1 refine AOL.s1 (h := ?_)
    refine AOL.fz 1672 rfl (fun h => by cases h) (h := ?_)
    refine AOL.callM (l := 0) (b := 1000) (cR) rfl (by kernel_rfl) rfl rfl rfl rfl rfl (hst := by simp only [St.drops, St.drop, mapT, mapH, kill, kills, del, St.put, ins, reduceIte, Nat.reduceAdd, Nat.reduceLT, Nat.reduceEqDiff, Bool.false_eq_true]; exact rfl) ?_
    refine AOL.nil ?_
    refine AW.kq [0, 1, 7, 8, 9, 10, 20, 21] (h := ?_)
    repeat refine AW.seq ?_
    refine AW.da 11 (by kernel_rfl) (h := ?_)
    iterate 3 refine ADP.d1 (h := ?_)
    refine ADP.app 9001 (h := ?_)
    iterate 4 refine ADP.d1 (h := ?_)
    refine ADP.call rfl (gadget_one_c) (by kernel_rfl) rfl rfl (h := ?_)
    iterate 1 refine ADP.d1 (h := ?_)
    refine ADP.app 9002 (h := ?_)
    refine ADP.done2 hmix (by kernel_rfl) (by kernel_rfl) rfl (hT := ?_)
    iterate 2 refine AOL.s1 (h := ?_)
    refine AOL.nil ?_
    repeat refine AW.seq ?_
    skip
    skip
    refine AW.reg ?_
    iterate 2 refine AOL.s1 (h := ?_)
    refine AOL.nil ?_
    refine ⟨n', by omega, j + 1, rowM (freshM q (bitV q.vals nq j)) (one1 q.vals.length) (two1 q.vals.length 0 288230376287764480) [], o ++ [(q.vals.length : Int)], l ++ [⟨q.vals.length, 2 ^ j⟩], ?_, by omega, hq', ?_, ?_, ?_, ?_, ht', rfl⟩
    · rw [fmi_snoc, fmt_snoc, List.length_append, List.length_append, ho, hl]; rfl
    · simp only [rowM, freshM, List.length_append, List.length_singleton]; omega
    · rw [List.length_append, ho]; rfl
    · rw [List.length_append, hl]; rfl
    · intro t ht
      rcases List.mem_append.1 ht with ht | ht
      · exact hlw t ht
      · simp only [List.mem_singleton] at ht; subst ht
        show w64 (2 ^ j)
        have h1 : (2:Int) ^ j < 2 ^ 58 := by
          have := Nat.pow_lt_pow_right (a := 2) (by decide) (show j < 58 by omega)
          exact_mod_cast this
        have h2 : (0:Int) < 2 ^ j := Int.pow_pos (by decide)
        constructor <;> omega
  · have n0 : n' = 0 := by simp at c_; omega
    subst n0
    have e1 : bitS na (bitN n) 0 m [] [] = (q, o, l) := by rw [← show _ = _ from ht]; rfl
    rw [e1]
    have cR := gadget_Maker_row_c (m := q) (Mok.mono hq (by omega)) (⟨by omega, hlw⟩ : tok l) (tok_1 0) (tok_1 na)
    have hfl : AV.sl j (sub 0 (j * 2) (fm tm l)) = slF tm l := by rw [← hl, sub_all (by rw [fm_len tm_len]; exact Nat.le_refl _)]
    have hfo : AV.sl j (sub 0 (j * 1) (fm i1 o)) = il o := by rw [← ho, sub_all (by rw [fm_len i1_len]; exact Nat.le_refl _)]
    refine AW.fz 9001 rfl (fun h => by cases h) (h := ?_)
    refine AW.fz 9002 rfl (fun h => by cases h) (h := ?_)
    rw [hfl, hfo]
    clear hfl hfo e1 ht ho hl
    repeat refine AW.seq ?_
    refine AW.exit ?_
    repeat (first | refine Kseq.ex ?_ | refine Kloop.ex ?_ | refine Kblock.miss (by decide) ?_)
    refine Kblock.hit ?_
    refine AW.kq [0, 1, 7, 8] (h := ?_)
    repeat refine AW.seq ?_
    refine AW.reg ?_
    iterate 2 refine AOL.s1 (h := ?_)
    refine AOL.callD rfl (gadget_just_c) (by kernel_rfl) rfl rfl (h := ?_)
    iterate 1 refine AOL.s1 (h := ?_)
    refine AOL.callD rfl (gadget_just_c) (by kernel_rfl) rfl rfl (h := ?_)
    refine AOL.callM (l := 0) (b := 1000) (cR) rfl (by kernel_rfl) rfl rfl rfl rfl rfl (hst := by simp only [St.drops, St.drop, mapT, mapH, kill, kills, del, St.put, ins, reduceIte, Nat.reduceAdd, Nat.reduceLT, Nat.reduceEqDiff, Bool.false_eq_true]; exact rfl) ?_
    refine AOL.nil ?_
    refine AW.kq [7] (h := ?_)
    repeat refine AW.seq ?_
    refine AW.reg ?_
    iterate 2 refine AOL.s1 (h := ?_)
    refine AOL.nil ?_
    refine AW.kq [6] (h := ?_)
    repeat refine AW.seq ?_
    refine AW.ret ?_
    refine ⟨_, mkOut (rowM q l (one1 0) (one1 na)), rfl, ?_, ?_⟩
    · exact fun p hp => hp
    · exact Tells.self
end Go.Proofs.YtngphcdhdllnnaaGreat.E.M
end
section
/- gadget: a new maker; its system and its values: contracts over E. -/
set_option linter.unusedVariables false
set_option linter.unusedSimpArgs false
set_option maxRecDepth 10000
open Go Go.Proofs.YtngphcdhdllnnaaGreat.E Go.Proofs
namespace Go.Proofs.YtngphcdhdllnnaaGreat.E.M
abbrev mk0 : Mk := ⟨1, 0, [], [1]⟩
abbrev mkNew : List (Nat × Blk) := [(1000, mkB mk0 1001 1002), (1001, rwB []), (1002, vlB [1])]
set_option maxHeartbeats 1000000 in
theorem gadget_New_c : Fn Tryz.prog 9 [] [] (Tells (.ptr 1000 0) mkNew) := by
  refine Fn.enter Tryz.func9 Tryz.ntmps9 rfl (h := ?_)
  have tf := tfm
  have ot_ : (false || true) = true := rfl
  have tfr := tfr
  repeat refine AW.seq ?_
  refine AW.reg ?_
  iterate 1 refine AOL.s1 (h := ?_)
  refine AOL.nil ?_
  refine AW.kq [] (h := ?_)
  repeat refine AW.seq ?_
  refine AW.reg ?_
  iterate 5 refine AOL.s1 (h := ?_)
  refine AOL.nil ?_
  refine AW.kq [0] (h := ?_)
  repeat refine AW.seq ?_
  refine AW.blank 1001 89 (h := ?_)
  refine AW.wkh 1064 (cs' := [i 1, i 0, .ref 1001 0 0 3, .ref 1032 0 1 1]) rfl (Wks.cons (Wk.refl _) (Wks.cons (Wk.refl _) (Wks.cons (Wk.ref0 1001 3) (Wks.refl _)))) (fun h => by cases h) (h := ?_)
  refine AW.mv 1064 1000 (h := ?_)
  refine AW.mv 1032 1002 (h := ?_)
  refine AW.ret ?_
  refine ⟨_, mkNew, rfl, ?_, ?_⟩
  · intro p hp
    simp only [List.mem_cons, List.not_mem_nil, or_false] at hp
    rcases hp with rfl | rfl | rfl <;> simp [fm]
  · exact Tells.self
set_option maxHeartbeats 1000000 in
theorem clone_u {V : List Int} (hV : V ≠ []) (lV : V.length ≤ 1000000) : Fn Tryz.prog 44 [.ref 0 0 V.length 1] [(0, vlB V)] (Tells (.ref 1000 0 V.length 1) [(0, vlB V), (1000, vlB V)]) := by
  refine Fn.enter Tryz.func44 Tryz.ntmps44 rfl (h := ?_)
  have tf := tfm
  have ot_ : (false || true) = true := rfl
  have tfr := tfr
  have lc : (fm u1 V).length = V.length := by rw [fm_len u1_len, Nat.mul_one]
  have lt : (fm u1 V).take V.length = fm u1 V := List.take_of_length_le (Nat.le_of_eq lc)
  have a1 : V.length * 8 ≤ 140737488355328 := by omega
  have a2 : V.length ≤ 4611686018427387904 := by omega
  have ll : V.length ≤ V.length := Nat.le_refl _
  have hn : V.length ≠ 0 := fun h => hV (List.eq_nil_of_length_eq_zero h)
  repeat refine AW.seq ?_
  refine AW.reg ?_
  iterate 1 refine AOL.s1 (h := ?_)
  refine AOL.nil ?_
  refine AW.kq [0] (h := ?_)
  repeat refine AW.seq ?_
  refine AW.reg ?_
  iterate 1 refine AOL.s1 (h := ?_)
  refine AOL.eqNil rfl (h := ?_)
  intro b hb
  refine AOL.nil ?_
  refine AW.kq [0, 4] (h := ?_)
  repeat refine AW.seq ?_
  refine AW.cond rfl (fun c_ => ?_) (fun c_ => ?_)
  · exact absurd (hb (by simpa using c_)) hn
  refine AW.skip ?_
  repeat refine AW.seq ?_
  refine AW.reg ?_
  iterate 4 refine AOL.s1 (h := ?_)
  refine AOL.nil ?_
  refine AW.kq [2] (h := ?_)
  repeat refine AW.seq ?_
  refine AW.mv 1080 1000 (h := ?_)
  refine AW.ret ?_
  refine ⟨_, [(0, vlB V), (1000, vlB V)], rfl, ?_, ?_⟩
  · exact fun p hp => hp
  · exact Tells.self
theorem AOL.cloneU {ops : Array Oper} {o : Oper} {os : List Oper} {K : St → Prop} {st st' : St} {V : List Int} {l L : Nat} (hV : V ≠ []) (lV : V.length ≤ 1000000)
    (hc : callL st ops.toList o = some (44, [.ref l 0 V.length 1])) (h2 : get? l st.h = some (vlB V))
    (hst : ({ (st.drop L) with h := ins L (vlB V) (ins l (vlB V) (st.drop L).h) } : St).put o.dst (.ref L 0 V.length 1) = st' := by simp only [St.drop, mapT, mapH, kill, kills, del, St.put, ins, reduceIte, Nat.reduceLT, Nat.reduceEqDiff, Bool.false_eq_true]; exact rfl)
    (h : AOL Tryz.prog ops os K st') (hL : 1001 ≤ L ∧ L ≠ l := by decide) : AOL Tryz.prog ops (o :: os) K st := by
  have hne : fm u1 V ≠ [] := by intro e; have := fm_len u1_len V; rw [e] at this; cases V <;> simp_all
  obtain ⟨b, rfl⟩ : ∃ b, L = b + 1 := ⟨L - 1, by omega⟩
  refine AOL.callT (las := [.ref 0 0 V.length 1]) (hin := [(0, vlB V)]) [l] b (clone_u hV lV) hc ?_ (by kernel_rfl) ?_ ?_ ?_ ?_ h (by simp) (by simp) (by omega)
  · simp only [rens, ren, nth]
  · intro k hk; simp [labss, labs] at hk; subst hk; simp
  · intro p hp
    simp only [List.mem_singleton] at hp; subst hp
    refine ⟨by simp, ?_, ?_⟩
    · intro k hk; simp only [u1_labs] at hk; cases hk
    · simp only [nth, renB, u1_rens]; exact h2
  · refine ⟨?_, ?_, ?_, ?_, ?_⟩
    · intro p hp
      simp only [List.mem_cons, List.not_mem_nil, or_false] at hp
      rcases hp with rfl | rfl <;> simp
    · intro p hp
      simp only [List.mem_cons, List.not_mem_nil, or_false] at hp
      rcases hp with rfl | rfl <;> simp [hne]
    · intro k hk; simp [labs] at hk; subst hk; simp [hlabs]
    · intro p hp
      simp only [List.mem_cons, List.not_mem_nil, or_false] at hp
      rcases hp with rfl | rfl <;> (intro k hk; simp only [u1_labs] at hk; cases hk)
    · intro x hx y hy
      simp only [hlabs, List.map_cons, List.map_nil, List.mem_cons, List.not_mem_nil, or_false] at hx hy
      rcases hx with rfl | rfl <;> rcases hy with rfl | rfl <;> simp [sig, nth, pos] <;> omega
  · rw [← hst]
    simp only [St.after, consumed, newNames, get?, putH, sig, nth, pos, renB, rens, ren, u1_rens, Nat.reduceLT, Nat.reduceEqDiff, if_true, if_false, reduceIte, Nat.reduceAdd, Nat.zero_add, List.cons_append, List.nil_append, St.drops]
abbrev rok (L : List Rw) : Prop := ∀ r ∈ L, tok r.a ∧ tok r.b ∧ tok r.c
abbrev mkDone (m : Mk) : List (Nat × Blk) := [(0, mkB m 1001 1002), (1001, rwB m.rows), (1002, vlB m.vals), (1003, vlB m.vals)]
set_option maxHeartbeats 8000000 in
theorem gadget_Maker_Done_c {m : Mk} (hm : Mok 0 m) (hr : rok m.rows) : Fn Tryz.prog 18 [.ptr 0 0] [(0, mkB m 1 2), (1, rwB m.rows), (2, vlB m.vals)] (Tells (.tup [.agg [i m.v, i m.p, slF rw_ m.rows], .ref 1003 0 m.vals.length 1]) (mkDone m)) := by
  refine Fn.enter Tryz.func18 Tryz.ntmps18 rfl (h := ?_)
  have tf := tfm
  have ot_ : (false || true) = true := rfl
  have tfr := tfr
  have lR : m.rows.length ≤ 1000000 := by have := hm.2.1; omega
  have lV : m.vals.length ≤ 1000000 := by have := hm.1; omega
  have hV : m.vals ≠ [] := by have := hm.2.2.2; intro e; rw [e] at this; simp at this
  refine AW.mv 1 1001 (h := ?_)
  refine AW.mv 2 1002 (h := ?_)
  repeat refine AW.seq ?_
  refine AW.reg ?_
  iterate 2 refine AOL.s1 (h := ?_)
  refine AOL.nil ?_
  refine AW.kq [0, 2] (h := ?_)
  repeat refine AW.seq ?_
  refine AW.drw 12 [1064] (by kernel_rfl) (h := ?_)
  iterate 12 refine ADL.dm 1 (h := ?_)
  refine ADL.done hmix rfl rfl (hT := ?_)
  iterate 1 refine AOL.s1 (h := ?_)
  refine AOL.nil ?_
  refine AW.kq [0, 2, 4] (h := ?_)
  repeat refine AW.seq ?_
  refine AW.reg ?_
  iterate 7 refine AOL.s1 (h := ?_)
  refine AOL.nil ?_
  refine AW.kq [0, 2, 4, 22, 23, 24] (h := ?_)
  repeat refine AW.seq ?_
  refine AW.block ?_
  repeat refine AW.seq ?_
  refine AW.blank 9001 89 (h := ?_)
  refine AW.wkh 1064 (cs' := [i m.v, i m.p, .ref 9001 0 0 3]) rfl (Wks.cons (Wk.refl _) (Wks.cons (Wk.refl _) (Wks.cons (Wk.ref0 9001 3) Wks.nil))) (fun h => by cases h) (h := ?_)
  refine AW.loopK [0, 2, 4, 22, 23, 24] (fun n s => ∃ (k : Nat) (r : List Rw), s = ⟨50, [(0, .ptr 0 0), (2, .ptr 1032 0), (4, .ptr 1064 0), (22, .ref 1001 0 m.rows.length 3), (23, i m.rows.length), (24, i k)], [(0, mkB m 1001 1002), (1001, rwB m.rows), (1002, vlB m.vals), (1032, ⟨36, true, [i 0, i 0, .val (.slice none 0 0)]⟩), (1064, ⟨36, true, [i m.v, i m.p, .ref 9001 0 r.length 3]⟩), (9001, rwB r)]⟩ ∧ k ≤ m.rows.length ∧ n = m.rows.length - k ∧ id (r = m.rows.take k)) (m.rows.length) ?_ ?_
  · exact ⟨0, [], rfl, Nat.zero_le _, rfl, rfl⟩
  rintro n s ⟨k, r, rfl, hkl, rfl, hM⟩
  repeat refine AW.seq ?_
  refine AW.reg ?_
  iterate 1 refine AOL.s1 (h := ?_)
  refine AOL.nil ?_
  refine AW.kq [0, 2, 4, 22, 23, 24, 25] (h := ?_)
  repeat refine AW.seq ?_
  refine AW.cond rfl (fun c_ => ?_) (fun c_ => ?_)
  · have h1 : k < m.rows.length := by simpa using c_
    have k0 : (0:Int) ≤ k := by omega
    have k1 : (k:Int) < m.rows.length := by omega
    have hw := incq h1 (show m.rows.length < 1000000000 by omega)
    have hd : (fm rw_ m.rows).drop (k * 3) = slF tm m.rows[k].a :: slF tm m.rows[k].b :: slF tm m.rows[k].c :: fm rw_ (m.rows.drop (k + 1)) := fm_at rw_len h1
    obtain ⟨ta, tb, tc⟩ := hr m.rows[k] (List.getElem_mem h1)
    have cA := clone_fro ta
    have cB := clone_fro tb
    have cC := clone_fro tc
    have hrl : r.length = k := by rw [show r = _ from hM, List.length_take]; omega
    have hrn : id (r ++ [m.rows[k]] = m.rows.take (k + 1)) := by show _ = _; rw [show r = _ from hM, List.take_add_one, List.getElem?_eq_getElem h1]; rfl
    have lc : (fm rw_ r).length = k * 3 := by rw [fm_len rw_len, hrl]
    have a1 : (k + 1) * 72 ≤ 140737488355328 := by omega
    have a2 : k + 1 ≤ 4611686018427387904 := by omega
    have a3 : k ≤ 4611686018427387903 := by omega
    have hq : fm rw_ (r ++ [m.rows[k]]) = fm rw_ r ++ [slF tm m.rows[k].a, slF tm m.rows[k].b, slF tm m.rows[k].c] := fmr_snoc _ _
    clear hM c_
    generalize m.rows[k] = x at *
    obtain ⟨xa, xb, xc⟩ := x
    refine AW.skip ?_
    repeat refine AW.seq ?_
    refine AW.block ?_
    repeat refine AW.seq ?_
    refine AW.reg ?_
    iterate 4 refine AOL.s1 (h := ?_)
    refine AOL.nil ?_
    refine AW.kq [0, 2, 4, 6, 22, 23, 24] (h := ?_)
    repeat refine AW.seq ?_
    refine AW.drw 13 [1640] (by kernel_rfl) (h := ?_)
    iterate 4 refine ADL.dm 1 (h := ?_)
    refine ADL.call rfl (cA) (by kernel_rfl) rfl rfl (h := ?_)
    iterate 2 refine ADL.dm 1 (h := ?_)
    refine ADL.call rfl (cB) (by kernel_rfl) rfl rfl (h := ?_)
    iterate 2 refine ADL.dm 1 (h := ?_)
    refine ADL.call rfl (cC) (by kernel_rfl) rfl rfl (h := ?_)
    iterate 2 refine ADL.dm 1 (h := ?_)
    refine ADL.done hmix rfl rfl (hT := ?_)
    iterate 3 refine AOL.s1 (h := ?_)
    refine AOL.nil ?_
    repeat refine AW.seq ?_
    refine AW.let 1096 (h := ?_)
    refine AW.let 1640 (h := ?_)
    refine AW.reg ?_
    iterate 2 refine AOL.s1 (h := ?_)
    refine AOL.nil ?_
    refine ⟨m.rows.length - (k + 1), by omega, k + 1, r ++ [⟨xa, xb, xc⟩], ?_, h1, rfl, hrn⟩
    simp only [rwB, hq, List.length_append, List.length_singleton, hrl]; rfl
  · have hk : k = m.rows.length := by simp at c_; omega
    rw [hk, List.take_of_length_le (Nat.le_refl _)] at hM
    obtain rfl : r = m.rows := hM
    have hfl : AV.sl m.rows.length (sub 0 (m.rows.length * 3) (fm rw_ m.rows)) = slF rw_ m.rows := by rw [sub_all (by rw [fm_len rw_len]; exact Nat.le_refl _)]
    refine AW.fz 9001 rfl (fun h => by cases h) (h := ?_)
    rw [hfl]
    clear hfl hk c_
    repeat refine AW.seq ?_
    refine AW.exit ?_
    repeat (first | refine Kseq.ex ?_ | refine Kloop.ex ?_ | refine Kblock.miss (by decide) ?_)
    refine Kblock.hit ?_
    refine AW.kq [0, 2, 4] (h := ?_)
    repeat refine AW.seq ?_
    refine AW.anyO (st1 := ⟨50, [(2, .ptr 1032 0), (3, .ref 9101 0 m.vals.length 1)], [(0, mkB m 1001 1002), (1001, rwB m.rows), (1002, vlB m.vals), (1032, ⟨36, true, [i m.v, i m.p, slF rw_ m.rows]⟩), (9101, vlB m.vals)]⟩) hmix ?_ ?_
    · refine AAny.stepC [0, 1] (by kernel_rfl) rfl ?_
      refine AAllC.cons rfl rfl ?_ ?_
      · refine AOL.s1 (h := ?_); refine AOL.nil ?_
        refine AAny.stepC [1] (by kernel_rfl) rfl ?_
        refine AAllC.cons rfl rfl ?_ ?_
        · refine AOL.s1 (h := ?_); refine AOL.nil ?_
          refine AAny.stepC [2] (by kernel_rfl) rfl ?_
          refine AAllC.cons rfl rfl ?_ ?_
          · refine AOL.s1 (h := ?_); refine AOL.nil ?_
            refine AAny.stepC [3] (by kernel_rfl) rfl ?_
            refine AAllC.cons rfl rfl ?_ ?_
            · refine AOL.s1 (h := ?_); refine AOL.nil ?_
              refine AAny.stepC [4] (by kernel_rfl) rfl ?_
              refine AAllC.cons rfl rfl ?_ ?_
              · refine AOL.s1 (h := ?_); refine AOL.nil ?_
                refine AAny.stepC [5] (by kernel_rfl) rfl ?_
                refine AAllC.cons rfl rfl ?_ ?_
                · refine AOL.cloneU (l := 1002) (L := 9101) hV lV ?_ ?_ (h := ?_)
                  · rfl
                  · rfl
                  refine AOL.nil ?_
                  refine AAny.stepC [6] (by kernel_rfl) rfl ?_
                  refine AAllC.cons rfl rfl ?_ ?_
                  · refine AOL.s1 (h := ?_); refine AOL.nil ?_
                    refine AAny.stepC [7] (by kernel_rfl) rfl ?_
                    refine AAllC.cons rfl rfl ?_ ?_
                    · iterate 1 refine AOL.s1 (h := ?_)
                      refine AOL.kq [2, 3] (h := ?_)
                      refine AOL.let 1064 (h := ?_)
                      refine AOL.nil ?_
                      exact AAny.done (by kernel_rfl) rfl
                    exact AAllC.nil
                  exact AAllC.nil
                exact AAllC.nil
              exact AAllC.nil
            exact AAllC.nil
          exact AAllC.nil
        exact AAllC.nil
      refine AAllC.cons rfl rfl ?_ ?_
      · refine AOL.s1 (h := ?_); refine AOL.nil ?_
        refine AAny.stepC [0, 2] (by kernel_rfl) rfl ?_
        refine AAllC.cons rfl rfl ?_ ?_
        · refine AOL.s1 (h := ?_); refine AOL.nil ?_
          refine AAny.stepC [2] (by kernel_rfl) rfl ?_
          refine AAllC.cons rfl rfl ?_ ?_
          · refine AOL.s1 (h := ?_); refine AOL.nil ?_
            refine AAny.stepC [3] (by kernel_rfl) rfl ?_
            refine AAllC.cons rfl rfl ?_ ?_
            · refine AOL.s1 (h := ?_); refine AOL.nil ?_
              refine AAny.stepC [4] (by kernel_rfl) rfl ?_
              refine AAllC.cons rfl rfl ?_ ?_
              · refine AOL.s1 (h := ?_); refine AOL.nil ?_
                refine AAny.stepC [5] (by kernel_rfl) rfl ?_
                refine AAllC.cons rfl rfl ?_ ?_
                · refine AOL.cloneU (l := 1002) (L := 9101) hV lV ?_ ?_ (h := ?_)
                  · rfl
                  · rfl
                  refine AOL.nil ?_
                  refine AAny.stepC [6] (by kernel_rfl) rfl ?_
                  refine AAllC.cons rfl rfl ?_ ?_
                  · refine AOL.s1 (h := ?_); refine AOL.nil ?_
                    refine AAny.stepC [7] (by kernel_rfl) rfl ?_
                    refine AAllC.cons rfl rfl ?_ ?_
                    · iterate 1 refine AOL.s1 (h := ?_)
                      refine AOL.kq [2, 3] (h := ?_)
                      refine AOL.let 1064 (h := ?_)
                      refine AOL.nil ?_
                      exact AAny.done (by kernel_rfl) rfl
                    exact AAllC.nil
                  exact AAllC.nil
                exact AAllC.nil
              exact AAllC.nil
            exact AAllC.nil
          exact AAllC.nil
        refine AAllC.cons rfl rfl ?_ ?_
        · refine AOL.s1 (h := ?_); refine AOL.nil ?_
          refine AAny.stepC [0, 3] (by kernel_rfl) rfl ?_
          refine AAllC.cons rfl rfl ?_ ?_
          · refine AOL.s1 (h := ?_); refine AOL.nil ?_
            refine AAny.stepC [3] (by kernel_rfl) rfl ?_
            refine AAllC.cons rfl rfl ?_ ?_
            · refine AOL.s1 (h := ?_); refine AOL.nil ?_
              refine AAny.stepC [4] (by kernel_rfl) rfl ?_
              refine AAllC.cons rfl rfl ?_ ?_
              · refine AOL.s1 (h := ?_); refine AOL.nil ?_
                refine AAny.stepC [5] (by kernel_rfl) rfl ?_
                refine AAllC.cons rfl rfl ?_ ?_
                · refine AOL.cloneU (l := 1002) (L := 9101) hV lV ?_ ?_ (h := ?_)
                  · rfl
                  · rfl
                  refine AOL.nil ?_
                  refine AAny.stepC [6] (by kernel_rfl) rfl ?_
                  refine AAllC.cons rfl rfl ?_ ?_
                  · refine AOL.s1 (h := ?_); refine AOL.nil ?_
                    refine AAny.stepC [7] (by kernel_rfl) rfl ?_
                    refine AAllC.cons rfl rfl ?_ ?_
                    · iterate 1 refine AOL.s1 (h := ?_)
                      refine AOL.kq [2, 3] (h := ?_)
                      refine AOL.let 1064 (h := ?_)
                      refine AOL.nil ?_
                      exact AAny.done (by kernel_rfl) rfl
                    exact AAllC.nil
                  exact AAllC.nil
                exact AAllC.nil
              exact AAllC.nil
            exact AAllC.nil
          refine AAllC.cons rfl rfl ?_ ?_
          · refine AOL.s1 (h := ?_); refine AOL.nil ?_
            refine AAny.stepC [0, 4] (by kernel_rfl) rfl ?_
            refine AAllC.cons rfl rfl ?_ ?_
            · refine AOL.s1 (h := ?_); refine AOL.nil ?_
              refine AAny.stepC [4] (by kernel_rfl) rfl ?_
              refine AAllC.cons rfl rfl ?_ ?_
              · refine AOL.s1 (h := ?_); refine AOL.nil ?_
                refine AAny.stepC [5] (by kernel_rfl) rfl ?_
                refine AAllC.cons rfl rfl ?_ ?_
                · refine AOL.cloneU (l := 1002) (L := 9101) hV lV ?_ ?_ (h := ?_)
                  · rfl
                  · rfl
                  refine AOL.nil ?_
                  refine AAny.stepC [6] (by kernel_rfl) rfl ?_
                  refine AAllC.cons rfl rfl ?_ ?_
                  · refine AOL.s1 (h := ?_); refine AOL.nil ?_
                    refine AAny.stepC [7] (by kernel_rfl) rfl ?_
                    refine AAllC.cons rfl rfl ?_ ?_
                    · iterate 1 refine AOL.s1 (h := ?_)
                      refine AOL.kq [2, 3] (h := ?_)
                      refine AOL.let 1064 (h := ?_)
                      refine AOL.nil ?_
                      exact AAny.done (by kernel_rfl) rfl
                    exact AAllC.nil
                  exact AAllC.nil
                exact AAllC.nil
              exact AAllC.nil
            refine AAllC.cons rfl rfl ?_ ?_
            · refine AOL.s1 (h := ?_); refine AOL.nil ?_
              refine AAny.stepC [0, 5] (by kernel_rfl) rfl ?_
              refine AAllC.cons rfl rfl ?_ ?_
              · refine AOL.s1 (h := ?_); refine AOL.nil ?_
                refine AAny.stepC [5] (by kernel_rfl) rfl ?_
                refine AAllC.cons rfl rfl ?_ ?_
                · refine AOL.cloneU (l := 1002) (L := 9101) hV lV ?_ ?_ (h := ?_)
                  · rfl
                  · rfl
                  refine AOL.nil ?_
                  refine AAny.stepC [6] (by kernel_rfl) rfl ?_
                  refine AAllC.cons rfl rfl ?_ ?_
                  · refine AOL.s1 (h := ?_); refine AOL.nil ?_
                    refine AAny.stepC [7] (by kernel_rfl) rfl ?_
                    refine AAllC.cons rfl rfl ?_ ?_
                    · iterate 1 refine AOL.s1 (h := ?_)
                      refine AOL.kq [2, 3] (h := ?_)
                      refine AOL.let 1064 (h := ?_)
                      refine AOL.nil ?_
                      exact AAny.done (by kernel_rfl) rfl
                    exact AAllC.nil
                  exact AAllC.nil
                exact AAllC.nil
              refine AAllC.cons rfl rfl ?_ ?_
              · refine AOL.cloneU (l := 1002) (L := 9101) hV lV ?_ ?_ (h := ?_)
                · rfl
                · rfl
                refine AOL.nil ?_
                refine AAny.stepC [0] (by kernel_rfl) rfl ?_
                refine AAllC.cons rfl rfl ?_ ?_
                · refine AOL.s1 (h := ?_); refine AOL.nil ?_
                  refine AAny.stepC [6] (by kernel_rfl) rfl ?_
                  refine AAllC.cons rfl rfl ?_ ?_
                  · refine AOL.s1 (h := ?_); refine AOL.nil ?_
                    refine AAny.stepC [7] (by kernel_rfl) rfl ?_
                    refine AAllC.cons rfl rfl ?_ ?_
                    · iterate 1 refine AOL.s1 (h := ?_)
                      refine AOL.kq [2, 3] (h := ?_)
                      refine AOL.let 1064 (h := ?_)
                      refine AOL.nil ?_
                      exact AAny.done (by kernel_rfl) rfl
                    exact AAllC.nil
                  exact AAllC.nil
                exact AAllC.nil
              exact AAllC.nil
            exact AAllC.nil
          exact AAllC.nil
        exact AAllC.nil
      exact AAllC.nil
    skip
    skip
    skip
    skip
    skip
    refine AW.kq [2, 3] (h := ?_)
    repeat refine AW.seq ?_
    refine AW.mv 9101 1003 (h := ?_)
    refine AW.ret ?_
    refine ⟨_, mkDone m, rfl, ?_, ?_⟩
    · intro p hp
      simp only [List.mem_cons, List.not_mem_nil, or_false] at hp
      rcases hp with rfl | rfl | rfl | rfl <;> simp
    · exact Tells.self
end Go.Proofs.YtngphcdhdllnnaaGreat.E.M
end
section
/- obolref16, 17, 18 over gadget's texts: climbing, marks, whether a move fits and is right (printed by s/mk_cport.py out of Tre, Clm, Rgt, Fit). -/
set_option linter.unusedVariables false
set_option linter.unusedSimpArgs false
set_option maxRecDepth 10000
open Go Go.Proofs.YtngphcdhdllnnaaGreat.E Go.Proofs
namespace Go.Proofs.YtngphcdhdllnnaaGreat.E.M
abbrev TFn : Prop := tSz Tryz.prog 24 = some 3 ∧
    tAgg Tryz.prog 24 = some true ∧
    tBytes Tryz.prog 24 = some 24 ∧
    tZero Tryz.prog 24 = some [(.int .u64 0), (.int .u64 0), (.int .u64 0)] ∧
    tSlice Tryz.prog 24 = none ∧
    tIface Tryz.prog 24 = some false ∧
    tCls Tryz.prog 24 = .other ∧
    tField Tryz.prog 24 0 = some (0, 22) ∧
    tField Tryz.prog 24 1 = some (1, 22) ∧
    tField Tryz.prog 24 2 = some (2, 22) ∧
    (∀ ps, aBuild Tryz.prog 24 ps = (aFill ([(0, 1), (1, 1), (2, 1)][·]?) [.val (.int .u64 0), .val (.int .u64 0), .val (.int .u64 0)] ps).map .agg) ∧
    tSz Tryz.prog 27 = some 6 ∧
    tAgg Tryz.prog 27 = some true ∧
    tBytes Tryz.prog 27 = some 64 ∧
    tZero Tryz.prog 27 = some [(.int .u64 0), (.int .u64 0), (.int .u64 0), (.int .u64 0), (.int .i64 0), (.slice none 0 0)] ∧
    tSlice Tryz.prog 27 = none ∧
    tIface Tryz.prog 27 = some false ∧
    tCls Tryz.prog 27 = .other ∧
    tField Tryz.prog 27 0 = some (0, 22) ∧
    tField Tryz.prog 27 1 = some (1, 24) ∧
    tField Tryz.prog 27 2 = some (4, 3) ∧
    tField Tryz.prog 27 3 = some (5, 25) ∧
    (∀ ps, aBuild Tryz.prog 27 ps = (aFill ([(0, 1), (1, 3), (4, 1), (5, 1)][·]?) [.val (.int .u64 0), .val (.int .u64 0), .val (.int .u64 0), .val (.int .u64 0), .val (.int .i64 0), .val (.slice none 0 0)] ps).map .agg) ∧
    tSz Tryz.prog 25 = some 1 ∧
    tAgg Tryz.prog 25 = some false ∧
    tBytes Tryz.prog 25 = some 24 ∧
    tZero Tryz.prog 25 = some [(.slice none 0 0)] ∧
    tSlice Tryz.prog 25 = some 22 ∧
    Tryz.prog.underlying 25 = some (.slice 22) ∧
    tIface Tryz.prog 25 = some false ∧
    tCls Tryz.prog 25 = .slice ∧
    tSz Tryz.prog 22 = some 1 ∧
    tAgg Tryz.prog 22 = some false ∧
    tBytes Tryz.prog 22 = some 8 ∧
    tZero Tryz.prog 22 = some [(.int .u64 0)] ∧
    tSlice Tryz.prog 22 = none ∧
    tInt Tryz.prog 22 = some .u64 ∧
    Tryz.prog.underlying 22 = some (.int .u64) ∧
    tIface Tryz.prog 22 = some false ∧
    tCls Tryz.prog 22 = .other ∧
    tSz Tryz.prog 3 = some 1 ∧
    tAgg Tryz.prog 3 = some false ∧
    tBytes Tryz.prog 3 = some 8 ∧
    tZero Tryz.prog 3 = some [(.int .i64 0)] ∧
    tSlice Tryz.prog 3 = none ∧
    tInt Tryz.prog 3 = some .i64 ∧
    Tryz.prog.underlying 3 = some (.int .i64) ∧
    tIface Tryz.prog 3 = some false ∧
    tCls Tryz.prog 3 = .other
theorem tfn : TFn :=
  ⟨rfl, rfl, rfl, rfl, rfl, rfl, rfl, rfl, rfl, rfl, fun _ => rfl, rfl, rfl, rfl, rfl, rfl, rfl, rfl, rfl, rfl, rfl, rfl, fun _ => rfl, rfl, rfl, rfl, rfl, rfl, rfl, rfl, rfl, rfl, rfl, rfl, rfl, rfl, rfl, rfl, rfl, rfl, rfl, rfl, rfl, rfl, rfl, rfl, rfl, rfl, rfl⟩

/-- a note: value, owner, rho -/
abbrev nt (n : Int × Int × Int) : AV := .agg [u n.1, u n.2.1, u n.2.2]
abbrev wN (n : Int × Int × Int) : Prop := w64 n.1 ∧ w64 n.2.1 ∧ w64 n.2.2
def mrkH (n : Int × Int × Int) : Int := manyH [n.1, n.2.1, n.2.2]
/-- an input: key, note, place, path -/
structure Ip where
  k : Int
  n : Int × Int × Int
  a : Int
  p : List Int
abbrev ip (x : Ip) : AV := .agg [u x.k, u x.n.1, u x.n.2.1, u x.n.2.2, i x.a, ul x.p]
def endH (x : Ip) : Int := manyH [twoH x.k 1, x.n.2.2, x.a]
def climbH : List Int → Int → Int → Int
  | [], _, h => h
  | x :: r, n, h => climbH r (n / 2) (if n % 2 = 1 then twoH x h else twoH h x)
def nonneg (n : Int) : Int := if n < 0 then 0 else n
theorem i64_o {n : Int} (h0 : 0 ≤ n) (h1 : n < 9223372036854775808) : IntKind.u64.wrap n = n := wrapU_o h0 (by omega)
set_option maxHeartbeats 1000000 in
theorem obolref17_Mark_c {n : Int × Int × Int} (hn : wN n) : Fn Tryz.prog 32 [nt n] [] (fun r h_ => r = u (mrkH n)) := by
  refine Fn.enter Tryz.func32 Tryz.ntmps32 rfl (h := ?_)
  have tf := tfn
  have ot_ : (false || true) = true := rfl
  obtain ⟨v, o, r⟩ := n
  obtain ⟨h1, h2, h3⟩ := hn
  simp only at h1 h2 h3
  repeat refine AW.seq ?_
  refine AW.reg ?_
  iterate 2 refine AOL.s1 (h := ?_)
  refine AOL.nil ?_
  refine AW.kq [1] (h := ?_)
  repeat refine AW.seq ?_
  refine AW.reg ?_
  iterate 7 refine AOL.s1 (h := ?_)
  refine AOL.fz 1144 rfl (fun h => by cases h) (h := ?_)
  refine AOL.callD rfl (obolref10_Many_c (V := [v, o, r]) (by intro x hx; simp only [List.mem_cons, List.not_mem_nil, or_false] at hx; rcases hx with rfl | rfl | rfl <;> assumption) (by simp)) (by kernel_rfl) rfl rfl (h := ?_)
  iterate 1 refine AOL.s1 (h := ?_)
  refine AOL.nil ?_
  refine AW.kq [2] (h := ?_)
  repeat refine AW.seq ?_
  refine AW.ret ?_
  refine ⟨_, [], rfl, HOk.nil _, ?_⟩
  rfl
set_option maxHeartbeats 1000000 in
theorem obolref18_below_c {n : Int} (hn : w64 n) : Fn Tryz.prog 30 [u n] [] (fun r h_ => r = bo (decide (n < 288230376287764481))) := by
  refine Fn.enter Tryz.func30 Tryz.ntmps30 rfl (h := ?_)
  have tf := tfn
  have ot_ : (false || true) = true := rfl
  repeat refine AW.seq ?_
  refine AW.reg ?_
  iterate 1 refine AOL.s1 (h := ?_)
  refine AOL.nil ?_
  refine AW.kq [0] (h := ?_)
  repeat refine AW.seq ?_
  refine AW.reg ?_
  iterate 3 refine AOL.s1 (h := ?_)
  refine AOL.nil ?_
  refine AW.kq [2] (h := ?_)
  repeat refine AW.seq ?_
  refine AW.ret ?_
  refine ⟨_, [], rfl, HOk.nil _, ?_⟩
  rfl
set_option maxHeartbeats 1000000 in
theorem obolref18_End_c {x : Ip} (hk : w64 x.k) (hr : w64 x.n.2.2) (ha : 0 ≤ x.a ∧ x.a < 9223372036854775808) : Fn Tryz.prog 31 [ip x] [] (fun r h_ => r = u (endH x)) := by
  refine Fn.enter Tryz.func31 Tryz.ntmps31 rfl (h := ?_)
  have tf := tfn
  have ot_ : (false || true) = true := rfl
  obtain ⟨k, ⟨v, o, r⟩, a, p⟩ := x
  simp only at hk hr ha
  have e1 := i64_o ha.1 ha.2
  repeat refine AW.seq ?_
  refine AW.reg ?_
  iterate 2 refine AOL.s1 (h := ?_)
  refine AOL.nil ?_
  refine AW.kq [1] (h := ?_)
  repeat refine AW.seq ?_
  refine AW.drw 9 [] (by kernel_rfl) (h := ?_)
  iterate 2 refine ADL.dm 1 (h := ?_)
  refine ADL.call rfl (obolref10_Two_c hk (by decide)) (by kernel_rfl) rfl rfl (h := ?_)
  iterate 6 refine ADL.dm 1 (h := ?_)
  refine ADL.done hmix rfl rfl (hT := ?_)
  iterate 1 refine AOL.s1 (h := ?_)
  refine AOL.fz 1192 rfl (fun h => by cases h) (h := ?_)
  refine AOL.callD rfl (obolref10_Many_c (V := [twoH k 1, r, a]) (by intro x hx; simp only [List.mem_cons, List.not_mem_nil, or_false] at hx; rcases hx with rfl | rfl | rfl; exact (twoH_l _ _).w; exact hr; exact ⟨ha.1, by omega⟩) (by simp)) (by kernel_rfl) rfl rfl (h := ?_)
  iterate 1 refine AOL.s1 (h := ?_)
  refine AOL.nil ?_
  refine AW.kq [2] (h := ?_)
  repeat refine AW.seq ?_
  refine AW.ret ?_
  refine ⟨_, [], rfl, HOk.nil _, ?_⟩
  rfl
theorem climbH_l {h : Int} (hh : lR h) : ∀ (p : List Int) (n : Int), lR (climbH p n h)
  | [], _ => hh
  | x :: r, n => by
    unfold climbH
    refine climbH_l ?_ r (n / 2)
    split <;> exact twoH_l _ _
abbrev TFv : Prop := tSz Tryz.prog 31 = some 22 ∧
    tAgg Tryz.prog 31 = some true ∧
    tBytes Tryz.prog 31 = some 208 ∧
    tZero Tryz.prog 31 = some [(.int .u64 0), (.int .u64 0), (.int .u64 0), (.int .u64 0), (.int .u64 0), (.int .u64 0), (.int .u64 0), (.int .u64 0), (.int .i64 0), (.slice none 0 0), (.int .u64 0), (.int .u64 0), (.int .u64 0), (.int .u64 0), (.int .i64 0), (.slice none 0 0), (.int .u64 0), (.int .u64 0), (.int .u64 0), (.int .u64 0), (.int .u64 0), (.int .u64 0)] ∧
    tSlice Tryz.prog 31 = none ∧
    tIface Tryz.prog 31 = some false ∧
    tCls Tryz.prog 31 = .other ∧
    tField Tryz.prog 31 0 = some (0, 22) ∧
    tField Tryz.prog 31 1 = some (1, 22) ∧
    tField Tryz.prog 31 2 = some (2, 22) ∧
    tField Tryz.prog 31 3 = some (3, 22) ∧
    tField Tryz.prog 31 4 = some (4, 28) ∧
    tField Tryz.prog 31 5 = some (16, 29) ∧
    (∀ ps, aBuild Tryz.prog 31 ps = (aFill ([(0, 1), (1, 1), (2, 1), (3, 1), (4, 12), (16, 6)][·]?) [.val (.int .u64 0), .val (.int .u64 0), .val (.int .u64 0), .val (.int .u64 0), .val (.int .u64 0), .val (.int .u64 0), .val (.int .u64 0), .val (.int .u64 0), .val (.int .i64 0), .val (.slice none 0 0), .val (.int .u64 0), .val (.int .u64 0), .val (.int .u64 0), .val (.int .u64 0), .val (.int .i64 0), .val (.slice none 0 0), .val (.int .u64 0), .val (.int .u64 0), .val (.int .u64 0), .val (.int .u64 0), .val (.int .u64 0), .val (.int .u64 0)] ps).map .agg) ∧
    tSz Tryz.prog 28 = some 12 ∧
    tAgg Tryz.prog 28 = some true ∧
    tBytes Tryz.prog 28 = some 128 ∧
    tZero Tryz.prog 28 = some [(.int .u64 0), (.int .u64 0), (.int .u64 0), (.int .u64 0), (.int .i64 0), (.slice none 0 0), (.int .u64 0), (.int .u64 0), (.int .u64 0), (.int .u64 0), (.int .i64 0), (.slice none 0 0)] ∧
    tSlice Tryz.prog 28 = none ∧
    tArray Tryz.prog 28 = some (2, 27) ∧
    Tryz.prog.underlying 28 = some (.array 2 27) ∧
    tIface Tryz.prog 28 = some false ∧
    tCls Tryz.prog 28 = .other ∧
    (∀ ps, aBuild Tryz.prog 28 ps = (aFill (fun i => some (i * 6, 6)) [.val (.int .u64 0), .val (.int .u64 0), .val (.int .u64 0), .val (.int .u64 0), .val (.int .i64 0), .val (.slice none 0 0), .val (.int .u64 0), .val (.int .u64 0), .val (.int .u64 0), .val (.int .u64 0), .val (.int .i64 0), .val (.slice none 0 0)] ps).map .agg) ∧
    tSz Tryz.prog 29 = some 6 ∧
    tAgg Tryz.prog 29 = some true ∧
    tBytes Tryz.prog 29 = some 48 ∧
    tZero Tryz.prog 29 = some [(.int .u64 0), (.int .u64 0), (.int .u64 0), (.int .u64 0), (.int .u64 0), (.int .u64 0)] ∧
    tSlice Tryz.prog 29 = none ∧
    tArray Tryz.prog 29 = some (2, 24) ∧
    Tryz.prog.underlying 29 = some (.array 2 24) ∧
    tIface Tryz.prog 29 = some false ∧
    tCls Tryz.prog 29 = .other ∧
    (∀ ps, aBuild Tryz.prog 29 ps = (aFill (fun i => some (i * 3, 3)) [.val (.int .u64 0), .val (.int .u64 0), .val (.int .u64 0), .val (.int .u64 0), .val (.int .u64 0), .val (.int .u64 0)] ps).map .agg) ∧
    tSz Tryz.prog 24 = some 3 ∧
    tAgg Tryz.prog 24 = some true ∧
    tBytes Tryz.prog 24 = some 24 ∧
    tZero Tryz.prog 24 = some [(.int .u64 0), (.int .u64 0), (.int .u64 0)] ∧
    tSlice Tryz.prog 24 = none ∧
    tIface Tryz.prog 24 = some false ∧
    tCls Tryz.prog 24 = .other ∧
    tField Tryz.prog 24 0 = some (0, 22) ∧
    tField Tryz.prog 24 1 = some (1, 22) ∧
    tField Tryz.prog 24 2 = some (2, 22) ∧
    (∀ ps, aBuild Tryz.prog 24 ps = (aFill ([(0, 1), (1, 1), (2, 1)][·]?) [.val (.int .u64 0), .val (.int .u64 0), .val (.int .u64 0)] ps).map .agg) ∧
    tSz Tryz.prog 27 = some 6 ∧
    tAgg Tryz.prog 27 = some true ∧
    tBytes Tryz.prog 27 = some 64 ∧
    tZero Tryz.prog 27 = some [(.int .u64 0), (.int .u64 0), (.int .u64 0), (.int .u64 0), (.int .i64 0), (.slice none 0 0)] ∧
    tSlice Tryz.prog 27 = none ∧
    tIface Tryz.prog 27 = some false ∧
    tCls Tryz.prog 27 = .other ∧
    tField Tryz.prog 27 0 = some (0, 22) ∧
    tField Tryz.prog 27 1 = some (1, 24) ∧
    tField Tryz.prog 27 2 = some (4, 3) ∧
    tField Tryz.prog 27 3 = some (5, 25) ∧
    (∀ ps, aBuild Tryz.prog 27 ps = (aFill ([(0, 1), (1, 3), (4, 1), (5, 1)][·]?) [.val (.int .u64 0), .val (.int .u64 0), .val (.int .u64 0), .val (.int .u64 0), .val (.int .i64 0), .val (.slice none 0 0)] ps).map .agg) ∧
    tSz Tryz.prog 25 = some 1 ∧
    tAgg Tryz.prog 25 = some false ∧
    tBytes Tryz.prog 25 = some 24 ∧
    tZero Tryz.prog 25 = some [(.slice none 0 0)] ∧
    tSlice Tryz.prog 25 = some 22 ∧
    Tryz.prog.underlying 25 = some (.slice 22) ∧
    tIface Tryz.prog 25 = some false ∧
    tCls Tryz.prog 25 = .slice ∧
    tSz Tryz.prog 22 = some 1 ∧
    tAgg Tryz.prog 22 = some false ∧
    tBytes Tryz.prog 22 = some 8 ∧
    tZero Tryz.prog 22 = some [(.int .u64 0)] ∧
    tSlice Tryz.prog 22 = none ∧
    tInt Tryz.prog 22 = some .u64 ∧
    Tryz.prog.underlying 22 = some (.int .u64) ∧
    tIface Tryz.prog 22 = some false ∧
    tCls Tryz.prog 22 = .other ∧
    tSz Tryz.prog 3 = some 1 ∧
    tAgg Tryz.prog 3 = some false ∧
    tBytes Tryz.prog 3 = some 8 ∧
    tZero Tryz.prog 3 = some [(.int .i64 0)] ∧
    tSlice Tryz.prog 3 = none ∧
    tInt Tryz.prog 3 = some .i64 ∧
    Tryz.prog.underlying 3 = some (.int .i64) ∧
    tIface Tryz.prog 3 = some false ∧
    tCls Tryz.prog 3 = .other
theorem tfv : TFv :=
  ⟨rfl, rfl, rfl, rfl, rfl, rfl, rfl, rfl, rfl, rfl, rfl, rfl, rfl, fun _ => rfl, rfl, rfl, rfl, rfl, rfl, rfl, rfl, rfl, rfl, fun _ => rfl, rfl, rfl, rfl, rfl, rfl, rfl, rfl, rfl, rfl, fun _ => rfl, rfl, rfl, rfl, rfl, rfl, rfl, rfl, rfl, rfl, rfl, fun _ => rfl, rfl, rfl, rfl, rfl, rfl, rfl, rfl, rfl, rfl, rfl, rfl, fun _ => rfl, rfl, rfl, rfl, rfl, rfl, rfl, rfl, rfl, rfl, rfl, rfl, rfl, rfl, rfl, rfl, rfl, rfl, rfl, rfl, rfl, rfl, rfl, rfl, rfl, rfl, rfl⟩
/-- a move -/
structure Mv where
  r : Int
  i : Int
  o : Int
  s : Int
  x : Ip
  y : Ip
  p : Int × Int × Int
  q : Int × Int × Int
abbrev ipc (x : Ip) : List AV := [u x.k, u x.n.1, u x.n.2.1, u x.n.2.2, E.M.i x.a, ul x.p]
abbrev ntc (n : Int × Int × Int) : List AV := [u n.1, u n.2.1, u n.2.2]
abbrev mvc (m : Mv) : List AV := [u m.r, u m.i, u m.o, u m.s] ++ ipc m.x ++ ipc m.y ++ ntc m.p ++ ntc m.q
abbrev wI (x : Ip) : Prop := w64 x.k ∧ wN x.n ∧ (x.a < 9223372036854775808) ∧ wV x.p ∧ x.p.length ≤ 9223372036854775807
abbrev wM (m : Mv) : Prop := w64 m.r ∧ w64 m.i ∧ w64 m.o ∧ w64 m.s ∧ wI m.x ∧ wI m.y ∧ wN m.p ∧ wN m.q
def okI (r : Int) (x : Ip) (v : Int) : Bool := decide (x.n.2.1 = twoH x.k 2) && (decide (x.n.1 = 0) || decide (climbH x.p (nonneg x.a) (mrkH x.n) = r)) && decide (v < 4294967296)
def rightH (m : Mv) : Bool := okI m.r m.x m.p.1 && okI m.r m.y m.q.1 && decide (rAdd (rAdd m.i m.x.n.1) m.y.n.1 = rAdd (rAdd m.o m.p.1) m.q.1)
theorem shl_k {k l : Nat} (hl : l ≤ 16) (h : (k + 1) * 2 ^ l ≤ 1099511627776) : IntKind.i64.wrap ((k:Int) * 2 ^ min l IntKind.i64.bits) = ((k * 2 ^ l : Nat) : Int) := by
  have eb : IntKind.i64.bits = 64 := rfl
  have e : min l IntKind.i64.bits = l := by rw [eb]; omega
  rw [e]
  have h2 : (k + 1) * 2 ^ l = k * 2 ^ l + 2 ^ l := by rw [Nat.add_mul, Nat.one_mul]
  have h3 : (k:Int) * 2 ^ l = ((k * 2 ^ l : Nat) : Int) := by simp
  have p0 : 0 < 2 ^ l := Nat.pow_pos (by decide)
  rw [h3, wrapI_o (Int.natCast_nonneg _) (by omega)]
def bw (n : Int) : Bool := decide (n < 288230376287764481)
def hdF (d r i o s : Int) : Bool := decide (1 ≤ d ∧ d ≤ 16) && bw r && bw i && bw o && bw s
def inF (x : Ip) (d : Int) : Bool := decide ((x.p.length : Int) = d) && decide (0 ≤ x.a) && decide (x.a < 2 ^ d.toNat) && bw x.k && bw x.n.1 && bw x.n.2.1 && bw x.n.2.2
def outF (n : Int × Int × Int) : Bool := bw n.1 && bw n.2.1 && bw n.2.2
def fitsH (m : Mv) (d : Int) : Bool := hdF d m.r m.i m.o m.s && (inF m.x d && m.x.p.all bw && outF m.p) && (inF m.y d && m.y.p.all bw && outF m.q)
set_option maxHeartbeats 16000000 in
theorem obolref18_Fits_c {m : Mv} {d : Int} (hm : wM m) : Fn Tryz.prog 8 [.agg (mvc m), i d] [] (fun r _ => r = bo (fitsH m d)) := by
  obtain ⟨mr, mi, mo, ms, ⟨xk, ⟨xv, xo, xr⟩, xa, xp⟩, ⟨yk, ⟨yv, yo, yr⟩, ya, yp⟩, ⟨pv, po, pr⟩, ⟨qv, qo, qr⟩⟩ := m
  obtain ⟨w1, w2, w3, w4, ⟨x1, ⟨x2, x3, x4⟩, x5, x6, x7⟩, ⟨y1, ⟨y2, y3, y4⟩, y5, y6, y7⟩, ⟨p1, p2, p3⟩, ⟨q1, q2, q3⟩⟩ := hm
  simp only at w1 w2 w3 w4 x1 x2 x3 x4 x5 x6 x7 y1 y2 y3 y4 y5 y6 y7 p1 p2 p3 q1 q2 q3
  unfold fitsH
  simp only
  have n0 : Int.toNat 0 = 0 := rfl
  have n1 : Int.toNat 1 = 1 := rfl
  have q0 : (0:Int) ≤ 0 := by decide
  have q1' : (0:Int) ≤ 1 := by decide
  have x02 : (0:Int) < ((2:Nat):Int) := by decide
  have x12 : (1:Int) < ((2:Nat):Int) := by decide
  have a1 : IntKind.i64.wrap (0 + 1) = 1 := by decide
  have a2 : IntKind.i64.wrap (1 + 1) = 2 := by decide
  have i02 : decide ((0:Int) < 2) = true := rfl
  have i12 : decide ((1:Int) < 2) = true := rfl
  have i22 : decide ((2:Int) < 2) = false := rfl
  show Fn Tryz.prog 8 [.agg [u mr, u mi, u mo, u ms, u xk, u xv, u xo, u xr, i xa, ul xp, u yk, u yv, u yo, u yr, i ya, ul yp, u pv, u po, u pr, u qv, u qo, u qr], i d] [] _
  refine Fn.enter Tryz.func8 Tryz.ntmps8 rfl (h := ?_)
  have tf := tfv
  have ot_ : (false || true) = true := rfl
  repeat refine AW.seq ?_
  refine AW.reg ?_
  iterate 2 refine AOL.s1 (h := ?_)
  refine AOL.nil ?_
  refine AW.kq [1, 2] (h := ?_)
  repeat refine AW.seq ?_
  refine AW.reg ?_
  iterate 3 refine AOL.s1 (h := ?_)
  refine AOL.kq [1, 2, 12] (h := ?_)
  refine AOL.or 12 15 (os' := ?_) (x := ?_) (h1 := ?_) (h0 := ?_) (h := ?_)
  rotate_left 2
  iterate 2
    · intro hb_ K' hK; (iterate 3 refine AOL.s1 (h := ?_)); refine AOL.kq [1, 2, 15] (h := ?_); exact hK
  iterate 1 refine AOL.s1 (h := ?_)
  refine AOL.kq [1, 2, 16] (h := ?_)
  refine AOL.or 16 21 (os' := ?_) (x := ?_) (h1 := ?_) (h0 := ?_) (h := ?_)
  rotate_left 2
  iterate 2
    · intro hb_ K' hK; (first | (iterate 5 refine AOL.s1 (h := ?_)) | ((iterate 2 refine AOL.s1 (h := ?_)); refine AOL.callD rfl (obolref18_below_c w1) (by kernel_rfl) rfl rfl (h := ?_); (iterate 2 refine AOL.s1 (h := ?_)))); refine AOL.kq [1, 2, 21] (h := ?_); exact hK
  iterate 1 refine AOL.s1 (h := ?_)
  refine AOL.kq [1, 2, 22] (h := ?_)
  refine AOL.or 22 27 (os' := ?_) (x := ?_) (h1 := ?_) (h0 := ?_) (h := ?_)
  rotate_left 2
  iterate 2
    · intro hb_ K' hK; (first | (iterate 5 refine AOL.s1 (h := ?_)) | ((iterate 2 refine AOL.s1 (h := ?_)); refine AOL.callD rfl (obolref18_below_c w2) (by kernel_rfl) rfl rfl (h := ?_); (iterate 2 refine AOL.s1 (h := ?_)))); refine AOL.kq [1, 2, 27] (h := ?_); exact hK
  iterate 1 refine AOL.s1 (h := ?_)
  refine AOL.kq [1, 2, 28] (h := ?_)
  refine AOL.or 28 33 (os' := ?_) (x := ?_) (h1 := ?_) (h0 := ?_) (h := ?_)
  rotate_left 2
  iterate 2
    · intro hb_ K' hK; (first | (iterate 5 refine AOL.s1 (h := ?_)) | ((iterate 2 refine AOL.s1 (h := ?_)); refine AOL.callD rfl (obolref18_below_c w3) (by kernel_rfl) rfl rfl (h := ?_); (iterate 2 refine AOL.s1 (h := ?_)))); refine AOL.kq [1, 2, 33] (h := ?_); exact hK
  iterate 1 refine AOL.s1 (h := ?_)
  refine AOL.kq [1, 2, 34] (h := ?_)
  refine AOL.or 34 39 (os' := ?_) (x := ?_) (h1 := ?_) (h0 := ?_) (h := ?_)
  rotate_left 2
  iterate 2
    · intro hb_ K' hK; (first | (iterate 5 refine AOL.s1 (h := ?_)) | ((iterate 2 refine AOL.s1 (h := ?_)); refine AOL.callD rfl (obolref18_below_c w4) (by kernel_rfl) rfl rfl (h := ?_); (iterate 2 refine AOL.s1 (h := ?_)))); refine AOL.kq [1, 2, 39] (h := ?_); exact hK
  refine AOL.nil ?_
  refine AW.kq [1, 2, 39] (h := ?_)
  repeat refine AW.seq ?_
  refine AW.cond rfl (fun c0 => ?_) (fun c0 => ?_)
  · have e : hdF d mr mi mo ms = false := Bool.eq_false_iff.2 (by intro h; simp [hdF, bw] at h; simp at c0; omega)
    rw [e]
    repeat refine AW.seq ?_
    refine AW.reg ?_
    iterate 1 refine AOL.s1 (h := ?_)
    refine AOL.nil ?_
    refine AW.kq [4] (h := ?_)
    repeat refine AW.seq ?_
    refine AW.ret ?_
    refine ⟨_, [], rfl, HOk.nil _, ?_⟩
    rfl
  have e0 : hdF d mr mi mo ms = true := by simp [hdF, bw]; simp at c0; omega
  rw [e0]
  obtain ⟨dn, rfl⟩ : ∃ n : Nat, d = n := ⟨d.toNat, by simp at c0; omega⟩
  have hd1 : 1 ≤ dn ∧ dn ≤ 16 := by simp at c0; omega
  clear c0 e0
  have s1 := shl_k (k := 1) (l := dn) (by omega) (by
    have : 2 ^ dn ≤ 2 ^ 16 := Nat.pow_le_pow_right (by decide) (by omega)
    omega)
  have s2 : ((1:Nat):Int) = 1 := rfl
  rw [s2] at s1
  have s0 : ¬ (dn:Int) < 0 := by omega
  have s3 : ((1 * 2 ^ dn : Nat) : Int) = 2 ^ dn := by rw [Nat.one_mul]; simp
  rw [s3] at s1
  clear s2 s3
  refine AW.skip ?_
  repeat refine AW.seq ?_
  refine AW.reg ?_
  iterate 1 refine AOL.s1 (h := ?_)
  refine AOL.nil ?_
  refine AW.kq [1, 2, 5] (h := ?_)
  repeat refine AW.seq ?_
  refine AW.block ?_
  repeat refine AW.seq ?_
  refine AW.rounds ?_
  refine AWin.next [1, 2, 5] (h := ?_)
  repeat refine AW.seq ?_
  refine AW.reg ?_
  iterate 2 refine AOL.s1 (h := ?_)
  refine AOL.nil ?_
  refine AW.kq [1, 2, 5, 41] (h := ?_)
  repeat refine AW.seq ?_
  refine AW.cond rfl (fun c_ => ?_) (fun c_ => ?_)
  rotate_left
  · cases c_
  refine AW.skip ?_
  repeat refine AW.seq ?_
  refine AW.block ?_
  repeat refine AW.seq ?_
  refine AW.reg ?_
  iterate 6 refine AOL.s1 (h := ?_)
  refine AOL.nil ?_
  refine AW.kq [1, 2, 5, 6] (h := ?_)
  repeat refine AW.seq ?_
  refine AW.midK [1, 2, 5, 6, 91] (fun t => ∃ b : Bool, t = ⟨125, [(1, i dn), (2, .ptr 1032 0), (5, i 0), (6, .ptr 1096 0), (91, bo b)], [(1032, ⟨31, true, [u mr, u mi, u mo, u ms, u xk, u xv, u xo, u xr, i xa, ul xp, u yk, u yv, u yo, u yr, i ya, ul yp, u pv, u po, u pr, u qv, u qo, u qr]⟩), (1096, ⟨27, true, [u xk, u xv, u xo, u xr, i xa, ul xp]⟩)]⟩ ∧ b = !inF ⟨xk, (xv, xo, xr), xa, xp⟩ dn) ?_ ?_
  · cases g1 : ((xp.length : Int) != dn) with
    | true =>
      refine AW.drw 15 [] (by kernel_rfl) (h := ?_)
      iterate 15 refine ADL.dm 1 (h := ?_)
      refine ADL.done hmix rfl rfl (hT := ?_)
      iterate 29 refine AOL.s1 (h := ?_)
      refine AOL.nil ?_
      exact ⟨_, rfl, by rw [show inF ⟨xk, (xv, xo, xr), xa, xp⟩ dn = false from Bool.eq_false_iff.2 (by intro h; simp only [inF, Bool.and_eq_true, decide_eq_true_eq] at h; simp at g1; omega)]; rfl⟩
    | false =>
      cases g2 : decide (xa < 0) with
      | true =>
        refine AW.drw 15 [] (by kernel_rfl) (h := ?_)
        iterate 15 refine ADL.dm 1 (h := ?_)
        refine ADL.done hmix rfl rfl (hT := ?_)
        iterate 29 refine AOL.s1 (h := ?_)
        refine AOL.nil ?_
        exact ⟨_, rfl, by rw [show inF ⟨xk, (xv, xo, xr), xa, xp⟩ dn = false from Bool.eq_false_iff.2 (by intro h; simp only [inF, Bool.and_eq_true, decide_eq_true_eq] at h; simp at g2; omega)]; rfl⟩
      | false =>
        refine AW.drw 15 [] (by kernel_rfl) (h := ?_)
        iterate 15 refine ADL.dm 1 (h := ?_)
        refine ADL.done hmix rfl rfl (hT := ?_)
        refine AOL.kq [1, 2, 5, 6, 58, 60, 62] (h := ?_)
        iterate 2 refine AOL.s1 (h := ?_)
        iterate 1 refine AOL.s1 (h := ?_)
        refine AOL.kq [1, 2, 5, 6, 65] (h := ?_)
        refine AOL.or 65 70 (os' := ?_) (x := ?_) (h1 := ?_) (h0 := ?_) (h := ?_)
        rotate_left 2
        iterate 2
          · intro hb_ K' hK; (first | (iterate 5 refine AOL.s1 (h := ?_)) | ((iterate 2 refine AOL.s1 (h := ?_)); refine AOL.callD rfl (obolref18_below_c x1) (by kernel_rfl) rfl rfl (h := ?_); (iterate 2 refine AOL.s1 (h := ?_)))); refine AOL.kq [1, 2, 5, 6, 70] (h := ?_); exact hK
        iterate 1 refine AOL.s1 (h := ?_)
        refine AOL.kq [1, 2, 5, 6, 71] (h := ?_)
        refine AOL.or 71 77 (os' := ?_) (x := ?_) (h1 := ?_) (h0 := ?_) (h := ?_)
        rotate_left 2
        iterate 2
          · intro hb_ K' hK; (first | (iterate 6 refine AOL.s1 (h := ?_)) | ((iterate 3 refine AOL.s1 (h := ?_)); refine AOL.callD rfl (obolref18_below_c x2) (by kernel_rfl) rfl rfl (h := ?_); (iterate 2 refine AOL.s1 (h := ?_)))); refine AOL.kq [1, 2, 5, 6, 77] (h := ?_); exact hK
        iterate 1 refine AOL.s1 (h := ?_)
        refine AOL.kq [1, 2, 5, 6, 78] (h := ?_)
        refine AOL.or 78 84 (os' := ?_) (x := ?_) (h1 := ?_) (h0 := ?_) (h := ?_)
        rotate_left 2
        iterate 2
          · intro hb_ K' hK; (first | (iterate 6 refine AOL.s1 (h := ?_)) | ((iterate 3 refine AOL.s1 (h := ?_)); refine AOL.callD rfl (obolref18_below_c x3) (by kernel_rfl) rfl rfl (h := ?_); (iterate 2 refine AOL.s1 (h := ?_)))); refine AOL.kq [1, 2, 5, 6, 84] (h := ?_); exact hK
        iterate 1 refine AOL.s1 (h := ?_)
        refine AOL.kq [1, 2, 5, 6, 85] (h := ?_)
        refine AOL.or 85 91 (os' := ?_) (x := ?_) (h1 := ?_) (h0 := ?_) (h := ?_)
        rotate_left 2
        iterate 2
          · intro hb_ K' hK; (first | (iterate 6 refine AOL.s1 (h := ?_)) | ((iterate 3 refine AOL.s1 (h := ?_)); refine AOL.callD rfl (obolref18_below_c x4) (by kernel_rfl) rfl rfl (h := ?_); (iterate 2 refine AOL.s1 (h := ?_)))); refine AOL.kq [1, 2, 5, 6, 91] (h := ?_); exact hK
        refine AOL.nil ?_
        have h1 : decide ((xp.length : Int) = dn) = true := by simpa using g1
        have h2 : decide (0 ≤ xa) = true := by simpa using g2
        have h3 : decide (xa ≥ 2 ^ dn) = !decide (xa < 2 ^ dn) := by rw [← decide_not]; exact decide_eq_decide.2 (by omega)
        exact ⟨_, rfl, by simp only [inF, h1, h2, h3, Int.toNat_natCast, bw, Bool.true_and, Bool.not_and]⟩
  rintro t ⟨b_, rfl, hb⟩
  repeat refine AW.seq ?_
  refine AW.cond rfl (fun d0 => ?_) (fun d0 => ?_)
  · have e : inF ⟨xk, (xv, xo, xr), xa, xp⟩ dn = false := by rw [d0] at hb; simpa using hb.symm
    rw [e]
    repeat refine AW.seq ?_
    refine AW.reg ?_
    iterate 1 refine AOL.s1 (h := ?_)
    refine AOL.nil ?_
    refine AW.kq [4] (h := ?_)
    repeat refine AW.seq ?_
    refine AW.ret ?_
    refine ⟨_, [], rfl, HOk.nil _, ?_⟩
    simp only [one?, Bool.false_and, Bool.and_false]
  have e0 : inF ⟨xk, (xv, xo, xr), xa, xp⟩ dn = true := by rw [d0] at hb; simpa using hb.symm
  have l0 : xp.length ≤ dn ∧ dn ≤ xp.length := by simp [inF] at e0; omega
  rw [e0]
  clear d0 hb e0
  refine AW.skip ?_
  repeat refine AW.seq ?_
  refine AW.reg ?_
  iterate 1 refine AOL.s1 (h := ?_)
  refine AOL.nil ?_
  refine AW.kq [1, 2, 5, 6, 7] (h := ?_)
  repeat refine AW.seq ?_
  refine AW.block ?_
  repeat refine AW.seq ?_
  refine AW.loopK [1, 2, 5, 6, 7] (fun n s => ∃ (k : Nat) (r : List Int), s = ⟨125, [(1, i dn), (2, .ptr 1032 0), (5, i 0), (6, .ptr 1096 0), (7, i k)], [(1032, ⟨31, true, [u mr, u mi, u mo, u ms, u xk, u xv, u xo, u xr, i xa, ul xp, u yk, u yv, u yo, u yr, i ya, ul yp, u pv, u po, u pr, u qv, u qo, u qr]⟩), (1096, ⟨27, true, [u xk, u xv, u xo, u xr, i xa, ul xp]⟩)]⟩ ∧ xp.drop k = r ∧ k ≤ xp.length ∧ n = r.length ∧ r.all bw = xp.all bw) xp.length ?_ ?_
  · exact ⟨0, xp, rfl, rfl, Nat.zero_le _, rfl, rfl⟩
  rintro n s ⟨k, r, rfl, hr, hkl, rfl, hi⟩
  repeat refine AW.seq ?_
  refine AW.reg ?_
  iterate 3 refine AOL.s1 (h := ?_)
  refine AOL.nil ?_
  refine AW.kq [1, 2, 5, 6, 7, 94] (h := ?_)
  repeat refine AW.seq ?_
  refine AW.cond rfl (fun e_ => ?_) (fun e_ => ?_)
  · obtain ⟨t, r, rfl⟩ := ends_cons hr hkl (by simp at e_; omega)
    obtain ⟨hlt, hr', ht⟩ := dconsq hr
    have hw : IntKind.i64.wrap ((k:Int) + 1) = ((k + 1 : Nat) : Int) := by rw [wrapI_o (by omega) (by omega)]; rfl
    have k0 : (0:Int) ≤ k := by omega
    have k1 : (k:Int) < dn := by omega
    have k1' : (k:Int) < xp.length := by omega
    have hz1 : (fm u1 xp).drop (k * 1) = u t :: fm u1 r := fm_drop u1_len hr
    have hz : (fm u1 xp).drop k = u t :: fm u1 r := by simpa using hz1
    have wt : w64 t := x6 t (List.mem_of_getElem? ht)
    clear hz1
    refine AW.skip ?_
    repeat refine AW.seq ?_
    refine AW.block ?_
    repeat refine AW.seq ?_
    refine AW.reg ?_
    iterate 5 refine AOL.s1 (h := ?_)
    refine AOL.callD rfl (obolref18_below_c wt) (by kernel_rfl) rfl rfl (h := ?_)
    iterate 1 refine AOL.s1 (h := ?_)
    refine AOL.nil ?_
    refine AW.kq [1, 2, 5, 6, 7, 8] (h := ?_)
    repeat refine AW.seq ?_
    refine AW.reg ?_
    iterate 2 refine AOL.s1 (h := ?_)
    refine AOL.nil ?_
    refine AW.kq [1, 2, 5, 6, 7, 104] (h := ?_)
    repeat refine AW.seq ?_
    refine AW.cond rfl (fun f_ => ?_) (fun f_ => ?_)
    · have g_ : bw t = false := by simpa [bw] using f_
      have h_ : xp.all bw = false := by rw [← hi, List.all_cons, g_, Bool.false_and]
      rw [h_]
      repeat refine AW.seq ?_
      refine AW.reg ?_
      iterate 1 refine AOL.s1 (h := ?_)
      refine AOL.nil ?_
      refine AW.kq [4] (h := ?_)
      repeat refine AW.seq ?_
      refine AW.ret ?_
      refine ⟨_, [], rfl, HOk.nil _, ?_⟩
      simp only [one?, Bool.false_and, Bool.and_false]
    have g_ : bw t = true := by simpa [bw] using f_
    have hi : r.all bw = xp.all bw := by rw [← hi, List.all_cons, g_, Bool.true_and]
    clear f_
    refine AW.skip ?_
    repeat refine AW.seq ?_
    refine AW.reg ?_
    iterate 3 refine AOL.s1 (h := ?_)
    refine AOL.nil ?_
    exact ⟨r.length, by simp, k + 1, r, rfl, hr', hlt, rfl, hi⟩
  obtain rfl := ends_nil hr (by simp at e_; omega)
  have hi : xp.all bw = true := hi.symm
  rw [hi]
  clear hi hr hkl e_
  repeat refine AW.seq ?_
  refine AW.exit ?_
  repeat (first | refine Kseq.ex ?_ | refine Kloop.ex ?_ | refine Kblock.miss (by decide) ?_)
  refine Kblock.hit ?_
  refine AW.kq [1, 2, 5] (h := ?_)
  repeat refine AW.seq ?_
  refine AW.reg ?_
  iterate 6 refine AOL.s1 (h := ?_)
  refine AOL.nil ?_
  refine AW.kq [1, 2, 5, 9] (h := ?_)
  repeat refine AW.seq ?_
  refine AW.reg ?_
  iterate 2 refine AOL.s1 (h := ?_)
  refine AOL.callD rfl (obolref18_below_c p1) (by kernel_rfl) rfl rfl (h := ?_)
  iterate 2 refine AOL.s1 (h := ?_)
  refine AOL.kq [1, 2, 5, 9, 113] (h := ?_)
  refine AOL.or 113 118 (os' := ?_) (x := ?_) (h1 := ?_) (h0 := ?_) (h := ?_)
  rotate_left 2
  iterate 2
    · intro hb_ K' hK; (first | (iterate 5 refine AOL.s1 (h := ?_)) | ((iterate 2 refine AOL.s1 (h := ?_)); refine AOL.callD rfl (obolref18_below_c p2) (by kernel_rfl) rfl rfl (h := ?_); (iterate 2 refine AOL.s1 (h := ?_)))); refine AOL.kq [1, 2, 5, 9, 118] (h := ?_); exact hK
  iterate 1 refine AOL.s1 (h := ?_)
  refine AOL.kq [1, 2, 5, 9, 119] (h := ?_)
  refine AOL.or 119 124 (os' := ?_) (x := ?_) (h1 := ?_) (h0 := ?_) (h := ?_)
  rotate_left 2
  iterate 2
    · intro hb_ K' hK; (first | (iterate 5 refine AOL.s1 (h := ?_)) | ((iterate 2 refine AOL.s1 (h := ?_)); refine AOL.callD rfl (obolref18_below_c p3) (by kernel_rfl) rfl rfl (h := ?_); (iterate 2 refine AOL.s1 (h := ?_)))); refine AOL.kq [1, 2, 5, 9, 124] (h := ?_); exact hK
  refine AOL.nil ?_
  refine AW.kq [1, 2, 5, 124] (h := ?_)
  repeat refine AW.seq ?_
  refine AW.cond rfl (fun m0 => ?_) (fun m0 => ?_)
  · have e : outF (pv, po, pr) = false := Bool.eq_false_iff.2 (by intro h; simp only [outF, bw, Bool.and_eq_true, decide_eq_true_eq] at h; simp at m0; omega)
    rw [e]
    repeat refine AW.seq ?_
    refine AW.reg ?_
    iterate 1 refine AOL.s1 (h := ?_)
    refine AOL.nil ?_
    refine AW.kq [4] (h := ?_)
    repeat refine AW.seq ?_
    refine AW.ret ?_
    refine ⟨_, [], rfl, HOk.nil _, ?_⟩
    simp only [one?, Bool.false_and, Bool.and_false]
  have e : outF (pv, po, pr) = true := by simp only [outF, bw, Bool.and_eq_true, decide_eq_true_eq]; simp at m0; omega
  rw [e]
  clear m0 e
  refine AW.skip ?_
  repeat refine AW.seq ?_
  refine AW.let 1096 (h := ?_)
  refine AW.let 1144 (h := ?_)
  refine AW.reg ?_
  iterate 3 refine AOL.s1 (h := ?_)
  refine AOL.nil ?_
  refine AWin.next [1, 2, 5] (h := ?_)
  repeat refine AW.seq ?_
  refine AW.reg ?_
  iterate 2 refine AOL.s1 (h := ?_)
  refine AOL.nil ?_
  refine AW.kq [1, 2, 5, 41] (h := ?_)
  repeat refine AW.seq ?_
  refine AW.cond rfl (fun c_ => ?_) (fun c_ => ?_)
  rotate_left
  · cases c_
  refine AW.skip ?_
  repeat refine AW.seq ?_
  refine AW.block ?_
  repeat refine AW.seq ?_
  refine AW.reg ?_
  iterate 6 refine AOL.s1 (h := ?_)
  refine AOL.nil ?_
  refine AW.kq [1, 2, 5, 6] (h := ?_)
  repeat refine AW.seq ?_
  refine AW.midK [1, 2, 5, 6, 91] (fun t => ∃ b : Bool, t = ⟨125, [(1, i dn), (2, .ptr 1032 0), (5, i 1), (6, .ptr 1096 0), (91, bo b)], [(1032, ⟨31, true, [u mr, u mi, u mo, u ms, u xk, u xv, u xo, u xr, i xa, ul xp, u yk, u yv, u yo, u yr, i ya, ul yp, u pv, u po, u pr, u qv, u qo, u qr]⟩), (1096, ⟨27, true, [u yk, u yv, u yo, u yr, i ya, ul yp]⟩)]⟩ ∧ b = !inF ⟨yk, (yv, yo, yr), ya, yp⟩ dn) ?_ ?_
  · cases g1 : ((yp.length : Int) != dn) with
    | true =>
      refine AW.drw 15 [] (by kernel_rfl) (h := ?_)
      iterate 15 refine ADL.dm 1 (h := ?_)
      refine ADL.done hmix rfl rfl (hT := ?_)
      iterate 29 refine AOL.s1 (h := ?_)
      refine AOL.nil ?_
      exact ⟨_, rfl, by rw [show inF ⟨yk, (yv, yo, yr), ya, yp⟩ dn = false from Bool.eq_false_iff.2 (by intro h; simp only [inF, Bool.and_eq_true, decide_eq_true_eq] at h; simp at g1; omega)]; rfl⟩
    | false =>
      cases g2 : decide (ya < 0) with
      | true =>
        refine AW.drw 15 [] (by kernel_rfl) (h := ?_)
        iterate 15 refine ADL.dm 1 (h := ?_)
        refine ADL.done hmix rfl rfl (hT := ?_)
        iterate 29 refine AOL.s1 (h := ?_)
        refine AOL.nil ?_
        exact ⟨_, rfl, by rw [show inF ⟨yk, (yv, yo, yr), ya, yp⟩ dn = false from Bool.eq_false_iff.2 (by intro h; simp only [inF, Bool.and_eq_true, decide_eq_true_eq] at h; simp at g2; omega)]; rfl⟩
      | false =>
        refine AW.drw 15 [] (by kernel_rfl) (h := ?_)
        iterate 15 refine ADL.dm 1 (h := ?_)
        refine ADL.done hmix rfl rfl (hT := ?_)
        refine AOL.kq [1, 2, 5, 6, 58, 60, 62] (h := ?_)
        iterate 2 refine AOL.s1 (h := ?_)
        iterate 1 refine AOL.s1 (h := ?_)
        refine AOL.kq [1, 2, 5, 6, 65] (h := ?_)
        refine AOL.or 65 70 (os' := ?_) (x := ?_) (h1 := ?_) (h0 := ?_) (h := ?_)
        rotate_left 2
        iterate 2
          · intro hb_ K' hK; (first | (iterate 5 refine AOL.s1 (h := ?_)) | ((iterate 2 refine AOL.s1 (h := ?_)); refine AOL.callD rfl (obolref18_below_c y1) (by kernel_rfl) rfl rfl (h := ?_); (iterate 2 refine AOL.s1 (h := ?_)))); refine AOL.kq [1, 2, 5, 6, 70] (h := ?_); exact hK
        iterate 1 refine AOL.s1 (h := ?_)
        refine AOL.kq [1, 2, 5, 6, 71] (h := ?_)
        refine AOL.or 71 77 (os' := ?_) (x := ?_) (h1 := ?_) (h0 := ?_) (h := ?_)
        rotate_left 2
        iterate 2
          · intro hb_ K' hK; (first | (iterate 6 refine AOL.s1 (h := ?_)) | ((iterate 3 refine AOL.s1 (h := ?_)); refine AOL.callD rfl (obolref18_below_c y2) (by kernel_rfl) rfl rfl (h := ?_); (iterate 2 refine AOL.s1 (h := ?_)))); refine AOL.kq [1, 2, 5, 6, 77] (h := ?_); exact hK
        iterate 1 refine AOL.s1 (h := ?_)
        refine AOL.kq [1, 2, 5, 6, 78] (h := ?_)
        refine AOL.or 78 84 (os' := ?_) (x := ?_) (h1 := ?_) (h0 := ?_) (h := ?_)
        rotate_left 2
        iterate 2
          · intro hb_ K' hK; (first | (iterate 6 refine AOL.s1 (h := ?_)) | ((iterate 3 refine AOL.s1 (h := ?_)); refine AOL.callD rfl (obolref18_below_c y3) (by kernel_rfl) rfl rfl (h := ?_); (iterate 2 refine AOL.s1 (h := ?_)))); refine AOL.kq [1, 2, 5, 6, 84] (h := ?_); exact hK
        iterate 1 refine AOL.s1 (h := ?_)
        refine AOL.kq [1, 2, 5, 6, 85] (h := ?_)
        refine AOL.or 85 91 (os' := ?_) (x := ?_) (h1 := ?_) (h0 := ?_) (h := ?_)
        rotate_left 2
        iterate 2
          · intro hb_ K' hK; (first | (iterate 6 refine AOL.s1 (h := ?_)) | ((iterate 3 refine AOL.s1 (h := ?_)); refine AOL.callD rfl (obolref18_below_c y4) (by kernel_rfl) rfl rfl (h := ?_); (iterate 2 refine AOL.s1 (h := ?_)))); refine AOL.kq [1, 2, 5, 6, 91] (h := ?_); exact hK
        refine AOL.nil ?_
        have h1 : decide ((yp.length : Int) = dn) = true := by simpa using g1
        have h2 : decide (0 ≤ ya) = true := by simpa using g2
        have h3 : decide (ya ≥ 2 ^ dn) = !decide (ya < 2 ^ dn) := by rw [← decide_not]; exact decide_eq_decide.2 (by omega)
        exact ⟨_, rfl, by simp only [inF, h1, h2, h3, Int.toNat_natCast, bw, Bool.true_and, Bool.not_and]⟩
  rintro t ⟨b_, rfl, hb⟩
  repeat refine AW.seq ?_
  refine AW.cond rfl (fun d1 => ?_) (fun d1 => ?_)
  · have e : inF ⟨yk, (yv, yo, yr), ya, yp⟩ dn = false := by rw [d1] at hb; simpa using hb.symm
    rw [e]
    repeat refine AW.seq ?_
    refine AW.reg ?_
    iterate 1 refine AOL.s1 (h := ?_)
    refine AOL.nil ?_
    refine AW.kq [4] (h := ?_)
    repeat refine AW.seq ?_
    refine AW.ret ?_
    refine ⟨_, [], rfl, HOk.nil _, ?_⟩
    simp only [one?, Bool.false_and, Bool.and_false]
  have e1 : inF ⟨yk, (yv, yo, yr), ya, yp⟩ dn = true := by rw [d1] at hb; simpa using hb.symm
  have l1 : yp.length ≤ dn ∧ dn ≤ yp.length := by simp [inF] at e1; omega
  rw [e1]
  clear d1 hb e1
  refine AW.skip ?_
  repeat refine AW.seq ?_
  refine AW.reg ?_
  iterate 1 refine AOL.s1 (h := ?_)
  refine AOL.nil ?_
  refine AW.kq [1, 2, 5, 6, 7] (h := ?_)
  repeat refine AW.seq ?_
  refine AW.block ?_
  repeat refine AW.seq ?_
  refine AW.loopK [1, 2, 5, 6, 7] (fun n s => ∃ (k : Nat) (r : List Int), s = ⟨125, [(1, i dn), (2, .ptr 1032 0), (5, i 1), (6, .ptr 1096 0), (7, i k)], [(1032, ⟨31, true, [u mr, u mi, u mo, u ms, u xk, u xv, u xo, u xr, i xa, ul xp, u yk, u yv, u yo, u yr, i ya, ul yp, u pv, u po, u pr, u qv, u qo, u qr]⟩), (1096, ⟨27, true, [u yk, u yv, u yo, u yr, i ya, ul yp]⟩)]⟩ ∧ yp.drop k = r ∧ k ≤ yp.length ∧ n = r.length ∧ r.all bw = yp.all bw) yp.length ?_ ?_
  · exact ⟨0, yp, rfl, rfl, Nat.zero_le _, rfl, rfl⟩
  rintro n s ⟨k, r, rfl, hr, hkl, rfl, hi⟩
  repeat refine AW.seq ?_
  refine AW.reg ?_
  iterate 3 refine AOL.s1 (h := ?_)
  refine AOL.nil ?_
  refine AW.kq [1, 2, 5, 6, 7, 94] (h := ?_)
  repeat refine AW.seq ?_
  refine AW.cond rfl (fun e_ => ?_) (fun e_ => ?_)
  · obtain ⟨t, r, rfl⟩ := ends_cons hr hkl (by simp at e_; omega)
    obtain ⟨hlt, hr', ht⟩ := dconsq hr
    have hw : IntKind.i64.wrap ((k:Int) + 1) = ((k + 1 : Nat) : Int) := by rw [wrapI_o (by omega) (by omega)]; rfl
    have k0 : (0:Int) ≤ k := by omega
    have k1 : (k:Int) < dn := by omega
    have k1' : (k:Int) < yp.length := by omega
    have hz1 : (fm u1 yp).drop (k * 1) = u t :: fm u1 r := fm_drop u1_len hr
    have hz : (fm u1 yp).drop k = u t :: fm u1 r := by simpa using hz1
    have wt : w64 t := y6 t (List.mem_of_getElem? ht)
    clear hz1
    refine AW.skip ?_
    repeat refine AW.seq ?_
    refine AW.block ?_
    repeat refine AW.seq ?_
    refine AW.reg ?_
    iterate 5 refine AOL.s1 (h := ?_)
    refine AOL.callD rfl (obolref18_below_c wt) (by kernel_rfl) rfl rfl (h := ?_)
    iterate 1 refine AOL.s1 (h := ?_)
    refine AOL.nil ?_
    refine AW.kq [1, 2, 5, 6, 7, 8] (h := ?_)
    repeat refine AW.seq ?_
    refine AW.reg ?_
    iterate 2 refine AOL.s1 (h := ?_)
    refine AOL.nil ?_
    refine AW.kq [1, 2, 5, 6, 7, 104] (h := ?_)
    repeat refine AW.seq ?_
    refine AW.cond rfl (fun f_ => ?_) (fun f_ => ?_)
    · have g_ : bw t = false := by simpa [bw] using f_
      have h_ : yp.all bw = false := by rw [← hi, List.all_cons, g_, Bool.false_and]
      rw [h_]
      repeat refine AW.seq ?_
      refine AW.reg ?_
      iterate 1 refine AOL.s1 (h := ?_)
      refine AOL.nil ?_
      refine AW.kq [4] (h := ?_)
      repeat refine AW.seq ?_
      refine AW.ret ?_
      refine ⟨_, [], rfl, HOk.nil _, ?_⟩
      simp only [one?, Bool.false_and, Bool.and_false]
    have g_ : bw t = true := by simpa [bw] using f_
    have hi : r.all bw = yp.all bw := by rw [← hi, List.all_cons, g_, Bool.true_and]
    clear f_
    refine AW.skip ?_
    repeat refine AW.seq ?_
    refine AW.reg ?_
    iterate 3 refine AOL.s1 (h := ?_)
    refine AOL.nil ?_
    exact ⟨r.length, by simp, k + 1, r, rfl, hr', hlt, rfl, hi⟩
  obtain rfl := ends_nil hr (by simp at e_; omega)
  have hi : yp.all bw = true := hi.symm
  rw [hi]
  clear hi hr hkl e_
  repeat refine AW.seq ?_
  refine AW.exit ?_
  repeat (first | refine Kseq.ex ?_ | refine Kloop.ex ?_ | refine Kblock.miss (by decide) ?_)
  refine Kblock.hit ?_
  refine AW.kq [1, 2, 5] (h := ?_)
  repeat refine AW.seq ?_
  refine AW.reg ?_
  iterate 6 refine AOL.s1 (h := ?_)
  refine AOL.nil ?_
  refine AW.kq [1, 2, 5, 9] (h := ?_)
  repeat refine AW.seq ?_
  refine AW.reg ?_
  iterate 2 refine AOL.s1 (h := ?_)
  refine AOL.callD rfl (obolref18_below_c q1) (by kernel_rfl) rfl rfl (h := ?_)
  iterate 2 refine AOL.s1 (h := ?_)
  refine AOL.kq [1, 2, 5, 9, 113] (h := ?_)
  refine AOL.or 113 118 (os' := ?_) (x := ?_) (h1 := ?_) (h0 := ?_) (h := ?_)
  rotate_left 2
  iterate 2
    · intro hb_ K' hK; (first | (iterate 5 refine AOL.s1 (h := ?_)) | ((iterate 2 refine AOL.s1 (h := ?_)); refine AOL.callD rfl (obolref18_below_c q2) (by kernel_rfl) rfl rfl (h := ?_); (iterate 2 refine AOL.s1 (h := ?_)))); refine AOL.kq [1, 2, 5, 9, 118] (h := ?_); exact hK
  iterate 1 refine AOL.s1 (h := ?_)
  refine AOL.kq [1, 2, 5, 9, 119] (h := ?_)
  refine AOL.or 119 124 (os' := ?_) (x := ?_) (h1 := ?_) (h0 := ?_) (h := ?_)
  rotate_left 2
  iterate 2
    · intro hb_ K' hK; (first | (iterate 5 refine AOL.s1 (h := ?_)) | ((iterate 2 refine AOL.s1 (h := ?_)); refine AOL.callD rfl (obolref18_below_c q3) (by kernel_rfl) rfl rfl (h := ?_); (iterate 2 refine AOL.s1 (h := ?_)))); refine AOL.kq [1, 2, 5, 9, 124] (h := ?_); exact hK
  refine AOL.nil ?_
  refine AW.kq [1, 2, 5, 124] (h := ?_)
  repeat refine AW.seq ?_
  refine AW.cond rfl (fun m1 => ?_) (fun m1 => ?_)
  · have e : outF (qv, qo, qr) = false := Bool.eq_false_iff.2 (by intro h; simp only [outF, bw, Bool.and_eq_true, decide_eq_true_eq] at h; simp at m1; omega)
    rw [e]
    repeat refine AW.seq ?_
    refine AW.reg ?_
    iterate 1 refine AOL.s1 (h := ?_)
    refine AOL.nil ?_
    refine AW.kq [4] (h := ?_)
    repeat refine AW.seq ?_
    refine AW.ret ?_
    refine ⟨_, [], rfl, HOk.nil _, ?_⟩
    simp only [one?, Bool.false_and, Bool.and_false]
  have e : outF (qv, qo, qr) = true := by simp only [outF, bw, Bool.and_eq_true, decide_eq_true_eq]; simp at m1; omega
  rw [e]
  clear m1 e
  refine AW.skip ?_
  repeat refine AW.seq ?_
  refine AW.let 1096 (h := ?_)
  refine AW.let 1144 (h := ?_)
  refine AW.reg ?_
  iterate 3 refine AOL.s1 (h := ?_)
  refine AOL.nil ?_
  refine AWin.next [1, 2, 5] (h := ?_)
  repeat refine AW.seq ?_
  refine AW.reg ?_
  iterate 2 refine AOL.s1 (h := ?_)
  refine AOL.nil ?_
  refine AW.kq [1, 2, 5, 41] (h := ?_)
  repeat refine AW.seq ?_
  refine AW.cond rfl (fun c_ => ?_) (fun c_ => ?_)
  · cases c_
  repeat refine AW.seq ?_
  refine AW.exit ?_
  repeat (first | refine Kseq.ex ?_ | refine Kloop.ex ?_ | refine Kblock.miss (by decide) ?_)
  refine Kblock.hit ?_
  refine AW.kq [] (h := ?_)
  repeat refine AW.seq ?_
  refine AW.reg ?_
  iterate 1 refine AOL.s1 (h := ?_)
  refine AOL.nil ?_
  refine AW.kq [4] (h := ?_)
  repeat refine AW.seq ?_
  refine AW.ret ?_
  refine ⟨_, [], rfl, HOk.nil _, ?_⟩
  rfl
end Go.Proofs.YtngphcdhdllnnaaGreat.E.M
end
section
/- cube, tree.Climb: hashes of numbers, paths: contracts over E. -/
set_option linter.unusedVariables false
set_option linter.unusedSimpArgs false
set_option maxRecDepth 10000
open Go Go.Proofs.YtngphcdhdllnnaaGreat.E Go.Proofs
namespace Go.Proofs.YtngphcdhdllnnaaGreat.E.M
set_option maxHeartbeats 1000000 in
theorem cube_constant_c {j : Nat} (hj : j < 3) : Fn Tryz.prog 82 [i j] [] (fun r h_ => r = u (ipow 288230376287764481 7 (j + 1))) := by
  refine Fn.enter Tryz.func82 Tryz.ntmps82 rfl (h := ?_)
  have tf := tfr
  have ot_ : (false || true) = true := rfl
  have tfr := tfr
  have k3 : IntKind.u64.wrap (j : Int) = (j : Int) := by rw [wu64]; omega
  have k4 : IntKind.u64.wrap ((j : Int) + 1) = (j : Int) + 1 := by rw [wu64]; omega
  have cP := modular_Pow_c (e := (j : Int) + 1) hR (show w64 7 by decide) (by constructor <;> omega)
  repeat refine AW.seq ?_
  refine AW.reg ?_
  iterate 1 refine AOL.s1 (h := ?_)
  refine AOL.nil ?_
  refine AW.kq [0] (h := ?_)
  repeat refine AW.seq ?_
  refine AW.reg ?_
  iterate 3 refine AOL.s1 (h := ?_)
  refine AOL.callD rfl (cP) (by kernel_rfl) rfl rfl (h := ?_)
  iterate 1 refine AOL.s1 (h := ?_)
  refine AOL.nil ?_
  refine AW.kq [2] (h := ?_)
  repeat refine AW.seq ?_
  refine AW.ret ?_
  refine ⟨_, [], rfl, HOk.nil _, ?_⟩
  rfl
theorem pow3_r (S : Int) (h : 0 ≤ S) : ipow 288230376287764481 S 3 = rMul S (rMul S S) := by
  rw [ipow_eq (by decide) h (by decide)]
  rw [show Int.toNat 3 = 3 from rfl]
  have e : S ^ 3 = S * S * S := by rw [Int.pow_succ, Int.pow_succ, Int.pow_succ, Int.pow_zero, Int.one_mul]
  rw [e]
  unfold rMul
  simp only [Int.mul_emod, Int.emod_emod, Int.mul_assoc]
theorem c7_w (j : Nat) (hj : j < 3) : w64 (ipow 288230376287764481 7 (j + 1)) := by
  rw [ipow_eq (by decide) (by decide) (by constructor <;> omega)]; exact w64_r _
theorem c7_eq (j : Nat) (hj : j < 3) : ipow 288230376287764481 7 (j + 1) = 7 ^ (j + 1) % 288230376287764481 := by
  rw [ipow_eq (by decide) (by decide) (by constructor <;> omega)]
  rw [show ((j : Int) + 1).toNat = j + 1 by omega]
set_option maxHeartbeats 1000000 in
theorem cube_Turn_c {k x : Int} (hk : w64 k) (hx : w64 x) : Fn Tryz.prog 72 [u k, u x] [] (fun r h_ => r = u (turnH k x)) := by
  refine Fn.enter Tryz.func72 Tryz.ntmps72 rfl (h := ?_)
  have tf := tfr
  have ot_ : (false || true) = true := rfl
  have tfr := tfr
  repeat refine AW.seq ?_
  refine AW.reg ?_
  iterate 1 refine AOL.s1 (h := ?_)
  refine AOL.nil ?_
  refine AW.kq [0, 1] (h := ?_)
  repeat refine AW.seq ?_
  refine AW.reg ?_
  iterate 1 refine AOL.s1 (h := ?_)
  refine AOL.nil ?_
  refine AW.kq [0, 1, 6] (h := ?_)
  repeat refine AW.seq ?_
  refine AW.block ?_
  repeat refine AW.seq ?_
  refine AW.loopK [0, 1, 6] (fun n s => ∃ (j : Nat) (y c : Int), s = ⟨20, [(0, u k), (1, u y), (6, i j)], []⟩ ∧ j + n = 3 ∧ w64 y ∧ id (c = 7 ^ j % 288230376287764481) ∧ id (trn k n c y = trn k 3 1 x)) (3) ?_ ?_
  · exact ⟨0, x, 1, rfl, rfl, hx, by show (1:Int) = _; decide, rfl⟩
  rintro n s ⟨j, y, c, rfl, hj, hy, hc, ht⟩
  repeat refine AW.seq ?_
  refine AW.reg ?_
  iterate 1 refine AOL.s1 (h := ?_)
  refine AOL.nil ?_
  refine AW.kq [0, 1, 6, 7] (h := ?_)
  repeat refine AW.seq ?_
  refine AW.cond rfl (fun c_ => ?_) (fun c_ => ?_)
  · have j1 : j < 3 := by simp at c_; omega
    obtain ⟨n, rfl⟩ : ∃ m, n = m + 1 := ⟨n - 1, by omega⟩
    have k2 : IntKind.i64.wrap ((j : Int) + 1) = ((j + 1 : Nat) : Int) := by rw [wrapI_o (by omega) (by omega)]; omega
    have hc' : id (rMul c 7 = 7 ^ (j + 1) % 288230376287764481) := by
      show _ = _
      unfold rMul; rw [show c = _ from hc, Int.pow_succ, Int.mul_emod (7 ^ j % 288230376287764481), Int.emod_emod, ← Int.mul_emod]
    have e7 := c7_eq j j1
    have cC := cube_constant_c j1
    have cA := modular_Add_c hR hk (c7_w j j1)
    have cB := modular_Add_c hR hy (w64_r (k + ipow 288230376287764481 7 (j + 1)))
    have cP := modular_Pow_c (e := 3) hR (w64_r (y + (k + ipow 288230376287764481 7 (j + 1)) % 288230376287764481)) (by decide)
    have hS : id (ipow 288230376287764481 ((y + (k + ipow 288230376287764481 7 (j + 1)) % 288230376287764481) % 288230376287764481) 3 = rMul (rAdd y (rAdd k (rMul c 7))) (rMul (rAdd y (rAdd k (rMul c 7))) (rAdd y (rAdd k (rMul c 7))))) := by
      show _ = _
      rw [pow3_r _ (Int.emod_nonneg _ (by decide)), show rMul c 7 = _ from hc', e7]; rfl
    replace e7 : id (_ = _) := e7
    refine AW.skip ?_
    repeat refine AW.seq ?_
    refine AW.block ?_
    repeat refine AW.seq ?_
    refine AW.reg ?_
    iterate 2 refine AOL.s1 (h := ?_)
    refine AOL.nil ?_
    refine AW.kq [0, 1, 5, 6] (h := ?_)
    repeat refine AW.seq ?_
    refine AW.reg ?_
    iterate 3 refine AOL.s1 (h := ?_)
    refine AOL.callD rfl (cC) (by kernel_rfl) rfl rfl (h := ?_)
    refine AOL.callD rfl (cA) (by kernel_rfl) rfl rfl (h := ?_)
    refine AOL.callD rfl (cB) (by kernel_rfl) rfl rfl (h := ?_)
    refine AOL.callD rfl (cP) (by kernel_rfl) rfl rfl (h := ?_)
    iterate 1 refine AOL.s1 (h := ?_)
    refine AOL.nil ?_
    repeat refine AW.seq ?_
    refine AW.reg ?_
    iterate 2 refine AOL.s1 (h := ?_)
    refine AOL.nil ?_
    refine ⟨n, by omega, j + 1, _, rMul c 7, rfl, by omega, ?_, hc', ?_⟩
    · rw [show _ = _ from hS]; exact (rMul_l _ _).w
    · show _ = _
      rw [show ipow _ _ _ = _ from hS]; exact ht
  · have n0 : n = 0 := by simp at c_; omega
    subst n0
    have hy2 : y = trn k 3 1 x := ht
    subst hy2
    clear ht
    have cT := modular_Add_c hR hy hk
    repeat refine AW.seq ?_
    refine AW.exit ?_
    repeat (first | refine Kseq.ex ?_ | refine Kloop.ex ?_ | refine Kblock.miss (by decide) ?_)
    refine Kblock.hit ?_
    refine AW.kq [0, 1] (h := ?_)
    repeat refine AW.seq ?_
    refine AW.reg ?_
    iterate 2 refine AOL.s1 (h := ?_)
    refine AOL.callD rfl (cT) (by kernel_rfl) rfl rfl (h := ?_)
    iterate 1 refine AOL.s1 (h := ?_)
    refine AOL.nil ?_
    refine AW.kq [4] (h := ?_)
    repeat refine AW.seq ?_
    refine AW.ret ?_
    refine ⟨_, [], rfl, HOk.nil _, ?_⟩
    rfl
set_option maxHeartbeats 1000000 in
theorem cube_Two_c {a b : Int} (ha : w64 a) (hb : w64 b) : Fn Tryz.prog 55 [u a, u b] [] (fun r h_ => r = u (twoH a b)) := by
  refine Fn.enter Tryz.func55 Tryz.ntmps55 rfl (h := ?_)
  have tf := tfr
  have ot_ : (false || true) = true := rfl
  have tfr := tfr
  have c1 := cube_Turn_c ha hb
  have c2 := modular_Add_c hR ha hb
  have c3 := modular_Add_c hR (turnH_l a b).w (w64_r (a + b))
  repeat refine AW.seq ?_
  refine AW.reg ?_
  iterate 1 refine AOL.s1 (h := ?_)
  refine AOL.nil ?_
  refine AW.kq [0, 1] (h := ?_)
  repeat refine AW.seq ?_
  refine AW.reg ?_
  iterate 2 refine AOL.s1 (h := ?_)
  refine AOL.callD rfl (c1) (by kernel_rfl) rfl rfl (h := ?_)
  iterate 2 refine AOL.s1 (h := ?_)
  refine AOL.callD rfl (c2) (by kernel_rfl) rfl rfl (h := ?_)
  refine AOL.callD rfl (c3) (by kernel_rfl) rfl rfl (h := ?_)
  iterate 1 refine AOL.s1 (h := ?_)
  refine AOL.nil ?_
  refine AW.kq [4] (h := ?_)
  repeat refine AW.seq ?_
  refine AW.ret ?_
  refine ⟨_, [], rfl, HOk.nil _, ?_⟩
  rfl
set_option maxHeartbeats 4000000 in
theorem cube_heads_c {V : List Int} (hV : wV V) (lV : V.length < 1000000) : Fn Tryz.prog 73 [ul V] [] (fun r h_ => ∃ H : List Int, r = ul H ∧ H.length = V.length + 1 ∧ H[V.length]? = some (manyH V) ∧ wV H) := by
  refine Fn.enter Tryz.func73 Tryz.ntmps73 rfl (h := ?_)
  have tf := tfr
  have ot_ : (false || true) = true := rfl
  have tfr := tfr
  have lu : IntKind.u64.wrap (V.length : Int) = V.length := by rw [wu64]; omega
  have tm : (V.length : Int).tmod 288230376287764481 = (V.length : Int) % 288230376287764481 := Int.tmod_eq_emod_of_nonneg (by omega)
  repeat refine AW.seq ?_
  refine AW.reg ?_
  iterate 1 refine AOL.s1 (h := ?_)
  refine AOL.nil ?_
  refine AW.kq [0] (h := ?_)
  repeat refine AW.seq ?_
  refine AW.reg ?_
  iterate 6 refine AOL.s1 (h := ?_)
  refine AOL.nil ?_
  refine AW.kq [0, 3] (h := ?_)
  repeat refine AW.seq ?_
  refine AW.reg ?_
  iterate 3 refine AOL.s1 (h := ?_)
  refine AOL.nil ?_
  refine AW.kq [3, 11, 12, 13] (h := ?_)
  repeat refine AW.seq ?_
  refine AW.block ?_
  repeat refine AW.seq ?_
  refine AW.loopK [3, 11, 12, 13] (fun n s => ∃ (k : Nat) (o r : List Int) (g : Int), s = ⟨29, [(3, .ref 1160 0 o.length 1), (11, ul V), (12, i V.length), (13, i k)], [(1160, ⟨22, false, fm u1 o⟩)]⟩ ∧ V.drop k = r ∧ k ≤ V.length ∧ n = r.length ∧ id (o.length = k + 1) ∧ o[k]? = some g ∧ wV o ∧ id (r.foldl twoH g = manyH V)) (V.length) ?_ ?_
  · exact ⟨0, [(V.length : Int) % 288230376287764481], V, _, rfl, rfl, Nat.zero_le _, rfl, rfl, rfl, (fun v hv => by simp only [List.mem_singleton] at hv; subst hv; exact w64_r _), rfl⟩
  rintro n s ⟨k, o, r, g, rfl, hr, hkl, rfl, ho, hg, hw, hi⟩
  repeat refine AW.seq ?_
  refine AW.reg ?_
  iterate 1 refine AOL.s1 (h := ?_)
  refine AOL.nil ?_
  refine AW.kq [3, 11, 12, 13, 14] (h := ?_)
  repeat refine AW.seq ?_
  refine AW.cond rfl (fun c_ => ?_) (fun c_ => ?_)
  · cases r with
    | nil => have := dnilq hr hkl; simp at c_; omega
    | cons t r =>
    obtain ⟨hlt, hr', ht_⟩ := dconsq hr
    have hd : (fm u1 V).drop k = u t :: fm u1 r := by
      have := fm_drop u1_len hr
      rwa [Nat.mul_one] at this
    have k0 : (0:Int) ≤ k := by omega
    have k1 : (k:Int) < V.length := by omega
    have hwr := incq hlt (show V.length < 1000000000 by omega)
    have ol : o.length = k + 1 := ho
    have hgw := hw g (List.mem_of_getElem? hg)
    have hlo : k < o.length := by omega
    have hdo : (fm u1 o).drop k = u g :: fm u1 (o.drop (k + 1)) := by
      have := fm_at u1_len hlo
      rw [Nat.mul_one] at this
      rw [this]
      rw [List.getElem?_eq_getElem hlo] at hg
      rw [Option.some.inj hg]; rfl
    have lo : (fm u1 o).length = o.length := by rw [fm_len u1_len, Nat.mul_one]
    have kl : (k:Int) < o.length := by omega
    have p1 : (o.length + 1) * 8 ≤ 140737488355328 := by omega
    have p2 : o.length + 1 ≤ 4611686018427387904 := by omega
    have p3 : o.length ≤ 4611686018427387903 := by omega
    have c2 := cube_Two_c hgw (hV t (List.mem_of_getElem? ht_))
    replace ol : id (_ = _) := ol
    clear hr hg
    refine AW.skip ?_
    repeat refine AW.seq ?_
    refine AW.block ?_
    repeat refine AW.seq ?_
    refine AW.reg ?_
    iterate 5 refine AOL.s1 (h := ?_)
    refine AOL.nil ?_
    refine AW.kq [3, 4, 5, 11, 12, 13] (h := ?_)
    repeat refine AW.seq ?_
    refine AW.reg ?_
    iterate 6 refine AOL.s1 (h := ?_)
    refine AOL.callD rfl (c2) (by kernel_rfl) rfl rfl (h := ?_)
    iterate 3 refine AOL.s1 (h := ?_)
    refine AOL.nil ?_
    repeat refine AW.seq ?_
    refine AW.let 1400 (h := ?_)
    refine AW.reg ?_
    iterate 2 refine AOL.s1 (h := ?_)
    refine AOL.nil ?_
    refine ⟨r.length, by simp, k + 1, o ++ [twoH g t], r, _, ?_, hr', hlt, rfl, ?_, ?_, ?_, hi⟩
    · rw [fm_app, List.length_append]; rfl
    · show _ = _; rw [List.length_append, show o.length = _ from ol]; rfl
    · rw [List.getElem?_append_right (by rw [show o.length = _ from ol]; exact Nat.le_refl _), show o.length = _ from ol]; simp
    · intro v hv
      rcases List.mem_append.1 hv with hv | hv
      · exact hw v hv
      · simp only [List.mem_singleton] at hv; subst hv; exact (twoH_l _ _).w
  · have : r = [] := by
      cases r with
      | nil => rfl
      | cons t r => have := (dconsq hr).1; simp at c_; omega
    subst this
    have hk : k = V.length := dnilq hr hkl
    have hg2 : g = manyH V := hi
    subst hk hg2
    repeat refine AW.seq ?_
    refine AW.exit ?_
    repeat (first | refine Kseq.ex ?_ | refine Kloop.ex ?_ | refine Kblock.miss (by decide) ?_)
    refine Kblock.hit ?_
    refine AW.kq [3] (h := ?_)
    repeat refine AW.seq ?_
    refine AW.reg ?_
    iterate 2 refine AOL.s1 (h := ?_)
    refine AOL.nil ?_
    refine AW.kq [2] (h := ?_)
    repeat refine AW.seq ?_
    refine AW.fz 1160 rfl (fun h => by cases h) (h := ?_)
    refine AW.ret ?_
    refine ⟨_, [], rfl, HOk.nil _, ?_⟩
    refine ⟨o, ?_, ho, hg, hw⟩
    simp only [one?]
    rw [sub_all (by rw [fm_len u1_len]; exact Nat.le_refl _)]
set_option maxHeartbeats 1000000 in
theorem cube_Many_c {V : List Int} (hV : wV V) (lV : V.length < 1000000) : Fn Tryz.prog 59 [ul V] [] (fun r h_ => r = u (manyH V)) := by
  refine Fn.enter Tryz.func59 Tryz.ntmps59 rfl (h := ?_)
  have tf := tfr
  have ot_ : (false || true) = true := rfl
  have tfr := tfr
  have lv : (0:Int) ≤ (V.length : Int) := by omega
  have cH := cube_heads_c hV lV
  repeat refine AW.seq ?_
  refine AW.reg ?_
  iterate 1 refine AOL.s1 (h := ?_)
  refine AOL.nil ?_
  refine AW.kq [0] (h := ?_)
  repeat refine AW.seq ?_
  refine AW.reg ?_
  iterate 1 refine AOL.s1 (h := ?_)
  refine AOL.call rfl cH (by kernel_rfl) rfl ?_
  rintro q h_ ⟨H, rfl, hl, hg, hw⟩
  refine ⟨rfl, ?_⟩
  have hlo : V.length < H.length := by omega
  have hdo : (fm u1 H).drop V.length = u (manyH V) :: fm u1 (H.drop (V.length + 1)) := by
    have := fm_at u1_len hlo
    rw [Nat.mul_one] at this
    rw [this]
    rw [List.getElem?_eq_getElem hlo] at hg
    rw [Option.some.inj hg]; rfl
  have kl : (V.length : Int) < (H.length : Int) := by omega
  clear hg hl
  iterate 5 refine AOL.s1 (h := ?_)
  refine AOL.nil ?_
  refine AW.kq [2] (h := ?_)
  repeat refine AW.seq ?_
  refine AW.ret ?_
  refine ⟨_, [], rfl, HOk.nil _, ?_⟩
  rfl
end Go.Proofs.YtngphcdhdllnnaaGreat.E.M
end
section
/- circuit: a maker's methods in a region that is drawn. -/
set_option linter.unusedVariables false
set_option linter.unusedSimpArgs false
set_option maxRecDepth 10000
open Go Go.Proofs.YtngphcdhdllnnaaGreat.E Go.Proofs
namespace Go.Proofs.YtngphcdhdllnnaaGreat.E.M
theorem ADM.callM {G : Prop} {ops : Array Oper} {st : St} {Hc : List (Nat × Blk)} {Ls : List Nat} {pre : List Oper} {base : List (Nat × AV)} {o : Oper} {os : List Oper} {vs vs' : List (AV × Option Blk)} {hcur hnew : List (Nat × Blk)} {cuts cuts' : List Cut} {n l b : Nat} {g : FuncId} {xs : List AV} {r0 : AV} {m m' : Mk}
    (hF : Fn Tryz.prog g (.ptr 0 0 :: xs) (mkIn m) (Tells r0 (mkOut m')))
    (hc : callOf (dVw st pre base vs o) o = some (g, .ptr l 0 :: xs)) (hcl : callable Tryz.prog g = true) (hfr : frees xs = true) (hr : r0.free = true)
    (hd : dOk st.n o.dst = true) (hg : o.guard = none)
    (h0 : get? l hcur = some (mkB m (b + 1) (b + 2))) (h1 : get? (b + 1) hcur = some (rwB m.rows)) (h2 : get? (b + 2) hcur = some (vlB m.vals))
    (hLs : Ls = [b + 1, b + 2, b + 1, b + 2])
    (hnew' : ins (b + 2) (vlB m'.vals) (ins (b + 1) (rwB m'.rows) (ins l (mkB m' (b + 1) (b + 2)) (St.drops ⟨0, [], hcur⟩ [b + 1, b + 2, b + 1, b + 2]).h)) = hnew)
    (hvs : vs ++ [(r0, none)] = vs') (hcs : cuts ++ [(vs.length, r0, hcur, hnew)] = cuts')
    (h : ADM G Tryz.prog ops n st Hc Ls pre base os vs' hnew cuts')
    (hl : l ≠ b + 1 ∧ l ≠ b + 2 := by decide) (hb : 1000 ≤ b := by decide) : ADM G Tryz.prog ops n st Hc Ls pre base (o :: os) vs hcur cuts := by
  refine ADM.cut (v := r0) (hnew := hnew) ?_ hvs hcs h
  rintro vw rfl
  refine .inr ⟨hd, hg, fun T K' hK => ?_⟩
  refine AOL.callM (l := l) (b := b) hF (callL_front hd hg hc) hcl hfr hr h0 h1 h2 rfl ?_ hl hb
  refine AOL.nil ?_
  rw [← hnew', hLs, drops_heap _ (n' := st.n) (t' := (dVw st pre base vs o).t ++ T)] at hK
  exact hK
end Go.Proofs.YtngphcdhdllnnaaGreat.E.M
end
section
/- circuit: a note's mark, climbing, a new variable of others: contracts over E. -/
set_option linter.unusedVariables false
set_option linter.unusedSimpArgs false
set_option maxRecDepth 10000
open Go Go.Proofs.YtngphcdhdllnnaaGreat.E Go.Proofs
namespace Go.Proofs.YtngphcdhdllnnaaGreat.E.M
theorem and_onei {x : Int} (h0 : 0 ≤ x) (h1 : x < 9223372036854775808) : IntKind.i64.wrap ((BitVec.ofInt IntKind.i64.bits x &&& BitVec.ofInt IntKind.i64.bits 1).toNat : Int) = x % 2 := by
  obtain ⟨n, rfl⟩ := Int.eq_ofNat_of_zero_le h0
  have h2 : (BitVec.ofInt IntKind.i64.bits (n:Int) &&& BitVec.ofInt IntKind.i64.bits 1).toNat = n % 2 := by
    rw [BitVec.toNat_and, BitVec.toNat_ofInt, BitVec.toNat_ofInt]
    have e1 : ((n:Int) % ((2 ^ IntKind.i64.bits : Nat) : Int)).toNat = n := by simp only [IntKind.bits]; omega
    have e2 : ((1:Int) % ((2 ^ IntKind.i64.bits : Nat) : Int)).toNat = 1 := by decide
    rw [e1, e2, Nat.and_one_is_mod]
  rw [h2, wrapI_o (by omega) (by omega)]; omega
theorem shr_i {y : Int} (h : 0 ≤ y) : y.fdiv (2 ^ min 1 IntKind.i64.bits) = y / 2 := by
  rw [Nat.min_eq_left (by decide), Int.fdiv_eq_ediv_of_nonneg _ (by decide)]; rfl
set_option maxHeartbeats 1000000 in
theorem circuit_mark_c {n : Int × Int × Int} (hn : wN n) : Fn Tryz.prog 57 [nt n] [] (fun r h_ => r = u (mrkH n)) := by
  refine Fn.enter Tryz.func57 Tryz.ntmps57 rfl (h := ?_)
  have tf := tfm
  have ot_ : (false || true) = true := rfl
  have tf1 := tfn
  have tfr := tfr
  obtain ⟨n1, n2, n3⟩ := n
  have hw : wV [n1, n2, n3] := by
    intro v hv
    simp only [List.mem_cons, List.not_mem_nil, or_false] at hv
    rcases hv with rfl | rfl | rfl
    · exact hn.1
    · exact hn.2.1
    · exact hn.2.2
  repeat refine AW.seq ?_
  refine AW.reg ?_
  iterate 2 refine AOL.s1 (h := ?_)
  refine AOL.nil ?_
  refine AW.kq [1] (h := ?_)
  repeat refine AW.seq ?_
  refine AW.reg ?_
  iterate 7 refine AOL.s1 (h := ?_)
  refine AOL.fz 1144 rfl (fun h => by cases h) (h := ?_)
  refine AOL.callD rfl (cube_Many_c (V := [n1, n2, n3]) hw (by simp)) (by kernel_rfl) rfl rfl (h := ?_)
  iterate 1 refine AOL.s1 (h := ?_)
  refine AOL.nil ?_
  refine AW.kq [2] (h := ?_)
  repeat refine AW.seq ?_
  refine AW.ret ?_
  refine ⟨_, [], rfl, HOk.nil _, ?_⟩
  rfl
set_option maxHeartbeats 1000000 in
theorem tree_Climb_c {h n : Int} {V : List Int} (hh : w64 h) (hn : -9223372036854775808 ≤ n ∧ n < 9223372036854775808) (hV : wV V) (lV : V.length < 1000000000) : Fn Tryz.prog 56 [u h, i n, ul V] [] (fun r h_ => r = u (climbH V (nonneg n) h)) := by
  refine Fn.enter Tryz.func56 Tryz.ntmps56 rfl (h := ?_)
  have tf := tfm
  have ot_ : (false || true) = true := rfl
  have tfr := tfr
  have hmx : (if 0 > n then 0 else n) = nonneg n := by unfold nonneg; rfl
  repeat refine AW.seq ?_
  refine AW.reg ?_
  iterate 1 refine AOL.s1 (h := ?_)
  refine AOL.nil ?_
  refine AW.kq [0, 1, 2] (h := ?_)
  repeat refine AW.seq ?_
  refine AW.reg ?_
  iterate 5 refine AOL.s1 (h := ?_)
  refine AOL.nil ?_
  refine AW.kq [2, 7, 8] (h := ?_)
  have m0 : 0 ≤ nonneg n ∧ nonneg n < 9223372036854775808 := by unfold nonneg; split <;> omega
  clear hmx
  generalize nonneg n = m at *
  repeat refine AW.seq ?_
  refine AW.reg ?_
  iterate 3 refine AOL.s1 (h := ?_)
  refine AOL.nil ?_
  refine AW.kq [7, 8, 14, 15, 16] (h := ?_)
  repeat refine AW.seq ?_
  refine AW.block ?_
  repeat refine AW.seq ?_
  refine AW.loopK [7, 8, 14, 15, 16] (fun n' s => ∃ (k : Nat) (a : Int) (g : Int) (r : List Int), s = ⟨33, [(7, u g), (8, i a), (14, ul V), (15, i V.length), (16, i k)], []⟩ ∧ V.drop k = r ∧ k ≤ V.length ∧ n' = r.length ∧ w64 g ∧ (0 ≤ a ∧ a < 9223372036854775808) ∧ climbH r a g = climbH V m h) (V.length) ?_ ?_
  · exact ⟨0, m, h, V, rfl, rfl, Nat.zero_le _, rfl, hh, m0, rfl⟩
  rintro n' s ⟨k, a, g, r, rfl, hr, hkl, rfl, hg, ha, hi⟩
  repeat refine AW.seq ?_
  refine AW.reg ?_
  iterate 1 refine AOL.s1 (h := ?_)
  refine AOL.nil ?_
  refine AW.kq [7, 8, 14, 15, 16, 17] (h := ?_)
  repeat refine AW.seq ?_
  refine AW.cond rfl (fun d_ => ?_) (fun d_ => ?_)
  · obtain ⟨t, r, rfl⟩ := ends_cons hr hkl (by simpa using d_)
    obtain ⟨hlt, hr', ht⟩ := dconsq hr
    have hw := incq hlt lV
    have k0 : (0:Int) ≤ k := by omega
    have k1 : (k:Int) < V.length := by omega
    have hd1 : (fm u1 V).drop (k * 1) = u t :: fm u1 r := fm_drop u1_len hr
    have hd' : (fm u1 V).drop k = u t :: fm u1 r := by simpa using hd1
    have wt : w64 t := hV t (List.mem_of_getElem? ht)
    have hand := and_onei ha.1 ha.2
    have kt1 : Int.toNat 1 = 1 := rfl
    have hsh := shr_i ha.1
    have hsw : IntKind.i64.wrap (a / 2) = a / 2 := wrapI_o (by omega) (by omega)
    have hi : climbH r (a / 2) (if a % 2 = 1 then twoH t g else twoH g t) = climbH V m h := hi
    clear hd1
    refine AW.skip ?_
    repeat refine AW.seq ?_
    refine AW.block ?_
    repeat refine AW.seq ?_
    refine AW.reg ?_
    iterate 3 refine AOL.s1 (h := ?_)
    refine AOL.nil ?_
    refine AW.kq [7, 8, 10, 14, 15, 16] (h := ?_)
    repeat refine AW.seq ?_
    refine AW.reg ?_
    iterate 3 refine AOL.s1 (h := ?_)
    refine AOL.nil ?_
    refine AW.kq [7, 8, 10, 14, 15, 16, 22] (h := ?_)
    repeat refine AW.seq ?_
    refine AW.midK [7, 8, 14, 15, 16] (fun t => ∃ (g' : Int), t = ⟨33, [(7, u g'), (8, i a), (14, ul V), (15, i V.length), (16, i k)], []⟩ ∧ w64 g' ∧ climbH r (a / 2) g' = climbH V m h) ?_ ?_
    · refine AW.cond rfl (fun e_ => ?_) (fun e_ => ?_)
      · rw [if_pos (by simpa using e_)] at hi
        repeat refine AW.seq ?_
        refine AW.reg ?_
        iterate 2 refine AOL.s1 (h := ?_)
        refine AOL.callD rfl (cube_Two_c wt hg) (by kernel_rfl) rfl rfl (h := ?_)
        iterate 1 refine AOL.s1 (h := ?_)
        refine AOL.nil ?_
        exact ⟨_, rfl, (twoH_l _ _).w, hi⟩
      · rw [if_neg (by simpa using e_)] at hi
        repeat refine AW.seq ?_
        refine AW.reg ?_
        iterate 2 refine AOL.s1 (h := ?_)
        refine AOL.callD rfl (cube_Two_c hg wt) (by kernel_rfl) rfl rfl (h := ?_)
        iterate 1 refine AOL.s1 (h := ?_)
        refine AOL.nil ?_
        exact ⟨_, rfl, (twoH_l _ _).w, hi⟩
    rintro t ⟨g', rfl, hg', hi'⟩
    clear hi
    repeat refine AW.seq ?_
    refine AW.reg ?_
    iterate 3 refine AOL.s1 (h := ?_)
    refine AOL.nil ?_
    repeat refine AW.seq ?_
    refine AW.reg ?_
    iterate 2 refine AOL.s1 (h := ?_)
    refine AOL.nil ?_
    exact ⟨r.length, by simp, k + 1, a / 2, g', r, rfl, hr', hlt, rfl, hg', by omega, hi'⟩
  · obtain rfl := ends_nil hr (by simpa using d_)
    have hi : g = climbH V m h := hi
    subst hi
    repeat refine AW.seq ?_
    refine AW.exit ?_
    repeat (first | refine Kseq.ex ?_ | refine Kloop.ex ?_ | refine Kblock.miss (by decide) ?_)
    refine Kblock.hit ?_
    refine AW.kq [7] (h := ?_)
    repeat refine AW.seq ?_
    refine AW.reg ?_
    iterate 2 refine AOL.s1 (h := ?_)
    refine AOL.nil ?_
    refine AW.kq [6] (h := ?_)
    repeat refine AW.seq ?_
    refine AW.ret ?_
    refine ⟨_, [], rfl, HOk.nil _, ?_⟩
    rfl
def sumS : Nat → Int → List Int → List Tm
  | _, _, [] => []
  | j, k, v :: r => ⟨v, if j = 0 then 1 else k⟩ :: sumS (j + 1) k r
set_option maxHeartbeats 4000000 in
theorem circuit_sum_c {m : Mk} {k : Int} {V : List Int} (hm : Mok 2 m) (hk : w64 k) (lV : V.length < 1000) : Fn Tryz.prog 29 [.ptr 0 0, u k, il V] [(0, mkB m 1 2), (1, rwB m.rows), (2, vlB m.vals)] (Tells (i m.vals.length) (mkOut (linM m (sumS 0 k V)))) := by
  refine Fn.enter Tryz.func29 Tryz.ntmps29 rfl (h := ?_)
  have tf := tfm
  have ot_ : (false || true) = true := rfl
  have tfr := tfr
  refine AW.mv 1 1001 (h := ?_)
  refine AW.mv 2 1002 (h := ?_)
  repeat refine AW.seq ?_
  refine AW.reg ?_
  iterate 1 refine AOL.s1 (h := ?_)
  refine AOL.nil ?_
  refine AW.kq [0, 1, 2] (h := ?_)
  repeat refine AW.seq ?_
  refine AW.reg ?_
  iterate 1 refine AOL.s1 (h := ?_)
  refine AOL.nil ?_
  refine AW.kq [0, 1, 2, 7] (h := ?_)
  repeat refine AW.seq ?_
  refine AW.reg ?_
  iterate 3 refine AOL.s1 (h := ?_)
  refine AOL.nil ?_
  refine AW.kq [0, 1, 7, 11, 12, 13] (h := ?_)
  repeat refine AW.seq ?_
  refine AW.block ?_
  repeat refine AW.seq ?_
  refine AW.born 7 9001 80 2 (.inl rfl) (h := ?_)
  refine AW.loopK [0, 1, 7, 11, 12, 13] (fun n s => ∃ (j : Nat) (l : List Tm) (r : List Int), s = ⟨31, [(0, .ptr 0 0), (1, u k), (7, .ref 9001 0 j 2), (11, il V), (12, i V.length), (13, i j)], [(0, mkB m 1001 1002), (1001, rwB m.rows), (1002, vlB m.vals), (9001, ⟨80, false, fm tm l⟩)]⟩ ∧ V.drop j = r ∧ j ≤ V.length ∧ n = r.length ∧ l.length = j ∧ wT l ∧ l ++ sumS j k r = sumS 0 k V) (V.length) ?_ ?_
  · exact ⟨0, [], V, rfl, rfl, Nat.zero_le _, rfl, rfl, (fun t ht => by cases ht), rfl⟩
  rintro n s ⟨j, l, r, rfl, hr, hjl, rfl, hl, hlw, hs⟩
  repeat refine AW.seq ?_
  refine AW.reg ?_
  iterate 1 refine AOL.s1 (h := ?_)
  refine AOL.nil ?_
  refine AW.kq [0, 1, 7, 11, 12, 13, 14] (h := ?_)
  repeat refine AW.seq ?_
  refine AW.cond rfl (fun c_ => ?_) (fun c_ => ?_)
  · obtain ⟨z, r, rfl⟩ := ends_cons hr hjl (by simpa using c_)
    obtain ⟨hlt, hr', ht⟩ := dconsq hr
    have hw := incq hlt (by omega)
    have k0 : (0:Int) ≤ j := by omega
    have k1 : (j:Int) < V.length := by omega
    have hd1 : (fm i1 V).drop (j * 1) = i z :: fm i1 r := fm_drop i1_len hr
    have hd' : (fm i1 V).drop j = i z :: fm i1 r := by simpa using hd1
    clear hd1
    refine AW.skip ?_
    repeat refine AW.seq ?_
    refine AW.block ?_
    repeat refine AW.seq ?_
    refine AW.reg ?_
    iterate 5 refine AOL.s1 (h := ?_)
    refine AOL.nil ?_
    refine AW.kq [0, 1, 7, 8, 9, 11, 12, 13] (h := ?_)
    repeat refine AW.seq ?_
    refine AW.reg ?_
    iterate 1 refine AOL.s1 (h := ?_)
    refine AOL.nil ?_
    refine AW.kq [0, 1, 7, 8, 9, 10, 11, 12, 13] (h := ?_)
    repeat refine AW.seq ?_
    refine AW.reg ?_
    iterate 2 refine AOL.s1 (h := ?_)
    refine AOL.nil ?_
    refine AW.kq [0, 1, 7, 9, 10, 11, 12, 13, 19] (h := ?_)
    repeat refine AW.seq ?_
    refine AW.midK [0, 1, 7, 9, 10, 11, 12, 13] (fun t => ∃ (b : Int), t = ⟨31, [(0, .ptr 0 0), (1, u k), (7, .ref 9001 0 j 2), (9, i z), (10, u b), (11, il V), (12, i V.length), (13, i j)], [(0, mkB m 1001 1002), (1001, rwB m.rows), (1002, vlB m.vals), (9001, ⟨80, false, fm tm l⟩)]⟩ ∧ b = (if j = 0 then 1 else k)) ?_ ?_
    · refine AW.cond rfl (fun e_ => ?_) (fun e_ => ?_)
      · skip
        repeat refine AW.seq ?_
        refine AW.reg ?_
        iterate 2 refine AOL.s1 (h := ?_)
        refine AOL.nil ?_
        exact ⟨_, rfl, (if_neg (by simp at e_; omega)).symm⟩
      · skip
        refine AW.skip ?_
        exact ⟨_, rfl, (if_pos (by simp at e_; omega)).symm⟩
    rintro t ⟨b, rfl, hb⟩
    have w1 : w64 b := by
      rw [hb]; split
      · exact ⟨by decide, by decide⟩
      · exact hk
    have ll : (fm tm l).length = j * 2 := by rw [fm_len tm_len, hl]
    have o1 : (j + 1) * 16 ≤ 140737488355328 := by omega
    have o3 : j ≤ 4611686018427387903 := by omega
    have o2 : j + 1 ≤ 4611686018427387904 := by omega
    have hb' : id (b = if j = 0 then 1 else k) := hb
    have hs' : id (l ++ sumS j k (z :: r) = sumS 0 k V) := hs
    clear hs hb hr
    repeat refine AW.seq ?_
    refine AW.reg ?_
    iterate 7 refine AOL.s1 (h := ?_)
    refine AOL.nil ?_
    repeat refine AW.seq ?_
    refine AW.let 1400 (h := ?_)
    refine AW.reg ?_
    iterate 2 refine AOL.s1 (h := ?_)
    refine AOL.nil ?_
    refine ⟨r.length, by simp, j + 1, l ++ [⟨z, b⟩], r, ?_, hr', hlt, rfl, by rw [List.length_append, hl]; rfl, ?_, ?_⟩
    · rw [fmt_snoc]; rfl
    · intro x hx
      rcases List.mem_append.1 hx with hx | hx
      · exact hlw x hx
      · simp only [List.mem_singleton] at hx; subst hx; exact w1
    · have e : b = if j = 0 then 1 else k := hb'
      rw [List.append_assoc, e]; exact hs'
  · obtain rfl := ends_nil hr (by simpa using c_)
    have hs' : l = sumS 0 k V := by simpa [sumS] using hs
    rw [← hs']
    clear hs hs'
    have hfl : AV.sl j (sub 0 (j * 2) (fm tm l)) = slF tm l := by rw [← hl, sub_all (by rw [fm_len tm_len]; exact Nat.le_refl _)]
    refine AW.fz 9001 rfl (fun h => by cases h) (h := ?_)
    rw [hfl]
    clear hfl
    have tl : tok l := ⟨by omega, hlw⟩
    clear hl
    repeat refine AW.seq ?_
    refine AW.exit ?_
    repeat (first | refine Kseq.ex ?_ | refine Kloop.ex ?_ | refine Kblock.miss (by decide) ?_)
    refine Kblock.hit ?_
    refine AW.kq [0, 7] (h := ?_)
    repeat refine AW.seq ?_
    refine AW.reg ?_
    iterate 2 refine AOL.s1 (h := ?_)
    refine AOL.callM (l := 0) (b := 1000) (gadget_Maker_Linear_c hm tl) rfl (by kernel_rfl) rfl rfl rfl rfl rfl (hst := by simp only [St.drops, St.drop, mapT, mapH, kill, kills, del, St.put, ins, reduceIte, Nat.reduceAdd, Nat.reduceLT, Nat.reduceEqDiff, Bool.false_eq_true]; exact rfl) ?_
    iterate 1 refine AOL.s1 (h := ?_)
    refine AOL.nil ?_
    refine AW.kq [6] (h := ?_)
    repeat refine AW.seq ?_
    refine AW.ret ?_
    refine ⟨_, mkOut (linM m l), rfl, ?_, ?_⟩
    · exact fun p hp => hp
    · exact Tells.self
end Go.Proofs.YtngphcdhdllnnaaGreat.E.M
end
