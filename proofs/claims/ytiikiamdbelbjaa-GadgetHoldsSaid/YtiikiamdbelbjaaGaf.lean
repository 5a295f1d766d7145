/- gadget: hashes, bits: contracts over E. -/
import Derived.Test.YtiikiamdbelbjaaGae
import Derived.Test.YtiikiamdbelbjaaProg
import Derived.KernelRfl
set_option linter.unusedVariables false
set_option linter.unusedSimpArgs false
set_option maxRecDepth 10000
open Go Go.Proofs.Ytiikiamdbelbjaa.E Go.Proofs
namespace Go.Proofs.Ytiikiamdbelbjaa.E.M
theorem ipow7_w (k : Nat) (hk : k < 3) : w64 (ipow 288230376287764481 7 (k + 1)) := by
  rw [ipow_eq (by decide) (by decide) (by constructor <;> omega)]; exact w64_r _
abbrev three1 (v : Int) (a ka w kw : Int) : List Tm := [⟨v, 1⟩, ⟨a, ka⟩, ⟨w, kw⟩]
theorem tok_3 {v a ka w kw : Int} (h1 : w64 ka) (h2 : w64 kw) : tok (three1 v a ka w kw) := by
  refine ⟨by simp, fun t ht => ?_⟩
  simp only [List.mem_cons, List.not_mem_nil, or_false] at ht
  rcases ht with rfl | rfl | rfl
  · exact w64_1
  · exact h1
  · exact h2
abbrev twoL (a x : Int) (j : Nat) : List Tm := three1 x a 1 0 (ipow 288230376287764481 7 (j + 1))
def twoS (a : Int) : Nat → Nat → Mk → Int → Mk × Int
  | 0, _, m, x => (m, x)
  | n + 1, j, m, x => twoS a n (j + 1) (prodM (prodM m (twoL a x j) (twoL a x j)) (one1 m.vals.length) (twoL a x j)) (prodM m (twoL a x j) (twoL a x j)).vals.length
abbrev twoE (m : Mk) (a b : Int) : Mk × Int := twoS (isM m.vals a) 3 0 m (isM m.vals b)
def twoM (m : Mk) (a b : Int) : Mk := linM (twoE m a b).1 (three1 (twoE m a b).2 (isM m.vals a) 2 (isM m.vals b) 1)
def twoR (m : Mk) (a b : Int) : Int := ((twoE m a b).1.vals.length : Int)
theorem twoS_ok {k : Nat} (a : Int) : ∀ (n j : Nat) (m : Mk) (x : Int), Mok (4 * n + k) m → Mok k (twoS a n j m x).1
  | 0, _, _, _, h => by simpa [twoS] using h
  | n + 1, j, m, x, h => twoS_ok a n (j + 1) _ _ (Mok.prod (Mok.prod (Mok.mono h (by omega)) _ _) _ _)
theorem twoM_ok {k : Nat} {m : Mk} (h : Mok (14 + k) m) (a b : Int) : Mok k (twoM m a b) := Mok.lin (twoS_ok _ 3 0 m _ (Mok.mono h (by omega))) _
set_option maxHeartbeats 4000000 in
theorem gadget_Maker_Two_c {m : Mk} {a b : Int} (hm : Mok 14 m) : Fn Try.prog 11 [.ptr 0 0, i a, i b] [(0, mkB m 1 2), (1, rwB m.rows), (2, vlB m.vals)] (Tells (i (twoR m a b)) (mkOut (twoM m a b))) := by
  refine Fn.enter Try.func11 Try.ntmps11 rfl (h := ?_)
  have tf := tfm
  have ot_ : (false || true) = true := rfl
  have tfr := tfr
  refine AW.mv 1 1001 (h := ?_)
  refine AW.mv 2 1002 (h := ?_)
  repeat refine AW.seq ?_
  refine AW.reg ?_
  iterate 1 refine AOL.s1 (h := ?_)
  refine AOL.nil ?_
  refine AW.kq [0, 1, 2] (h := ?_)
  repeat refine AW.seq ?_
  refine AW.reg ?_
  iterate 2 refine AOL.s1 (h := ?_)
  refine AOL.callF rfl (isF rfl rfl rfl) (by kernel_rfl) (h := ?_)
  iterate 2 refine AOL.s1 (h := ?_)
  refine AOL.callF rfl (isF rfl rfl rfl) (by kernel_rfl) (h := ?_)
  iterate 2 refine AOL.s1 (h := ?_)
  refine AOL.nil ?_
  refine AW.kq [0, 1, 2] (h := ?_)
  repeat refine AW.seq ?_
  refine AW.reg ?_
  iterate 2 refine AOL.s1 (h := ?_)
  refine AOL.nil ?_
  refine AW.kq [0, 1, 2, 7] (h := ?_)
  repeat refine AW.seq ?_
  refine AW.reg ?_
  iterate 1 refine AOL.s1 (h := ?_)
  refine AOL.nil ?_
  refine AW.kq [0, 1, 2, 7, 18] (h := ?_)
  repeat refine AW.seq ?_
  refine AW.block ?_
  repeat refine AW.seq ?_
  refine AW.loopK [0, 1, 2, 7, 18] (fun n s => ∃ (j : Nat) (q : Mk) (x : Int), s = ⟨50, [(0, .ptr 0 0), (1, i (isM m.vals a)), (2, i (isM m.vals b)), (7, i x), (18, i j)], [(0, mkB q 1001 1002), (1001, rwB q.rows), (1002, vlB q.vals)]⟩ ∧ j + n = 3 ∧ Mok (4 * n + 2) q ∧ id (twoS (isM m.vals a) n j q x = twoE m a b)) (3) ?_ ?_
  · exact ⟨0, m, _, rfl, rfl, hm, rfl⟩
  rintro n s ⟨j, q, x, rfl, hj, hq, ht⟩
  repeat refine AW.seq ?_
  refine AW.reg ?_
  iterate 1 refine AOL.s1 (h := ?_)
  refine AOL.nil ?_
  refine AW.kq [0, 1, 2, 7, 18, 19] (h := ?_)
  repeat refine AW.seq ?_
  refine AW.cond rfl (fun c_ => ?_) (fun c_ => ?_)
  · have j1 : j < 3 := by simp at c_; omega
    obtain ⟨n, rfl⟩ : ∃ m, n = m + 1 := ⟨n - 1, by omega⟩
    have k2 : IntKind.i64.wrap ((j : Int) + 1) = ((j + 1 : Nat) : Int) := by rw [wrapI_o (by omega) (by omega)]; omega
    have k3 : IntKind.u64.wrap (j : Int) = (j : Int) := by rw [wu64]; omega
    have k4 : IntKind.u64.wrap ((j : Int) + 1) = (j : Int) + 1 := by rw [wu64]; omega
    have cP := modular_Pow_c (e := (j : Int) + 1) hR (show w64 7 by decide) (by constructor <;> omega)
    have ti := tok_3 (v := x) (a := isM m.vals a) (w := 0) w64_1 (ipow7_w j j1)
    have c1 := gadget_Maker_product_c (Mok.mono hq (by omega)) ti ti
    have hq1 : Mok (4 * n + 4) (prodM q (twoL (isM m.vals a) x j) (twoL (isM m.vals a) x j)) := Mok.prod (Mok.mono hq (by omega)) _ _
    have c2 := gadget_Maker_product_c (Mok.mono hq1 (by omega)) (tok_1 q.vals.length) ti
    refine AW.skip ?_
    repeat refine AW.seq ?_
    refine AW.block ?_
    repeat refine AW.seq ?_
    refine AW.reg ?_
    iterate 2 refine AOL.s1 (h := ?_)
    refine AOL.nil ?_
    refine AW.kq [0, 1, 2, 7, 8, 18] (h := ?_)
    repeat refine AW.seq ?_
    refine AW.reg ?_
    iterate 1 refine AOL.s1 (h := ?_)
    refine AOL.callD rfl (gadget_one_c) (by kernel_rfl) rfl rfl (h := ?_)
    iterate 1 refine AOL.s1 (h := ?_)
    refine AOL.callD rfl (gadget_one_c) (by kernel_rfl) rfl rfl (h := ?_)
    iterate 3 refine AOL.s1 (h := ?_)
    refine AOL.callD rfl (cP) (by kernel_rfl) rfl rfl (h := ?_)
    refine AOL.callD rfl (gadget_one_c) (by kernel_rfl) rfl rfl (h := ?_)
    iterate 1 refine AOL.s1 (h := ?_)
    refine AOL.fz 1480 rfl (fun h => by cases h) (h := ?_)
    iterate 1 refine AOL.s1 (h := ?_)
    refine AOL.nil ?_
    refine AW.kq [0, 1, 2, 9, 18] (h := ?_)
    repeat refine AW.seq ?_
    refine AW.reg ?_
    iterate 3 refine AOL.s1 (h := ?_)
    refine AOL.callM (l := 0) (b := 1000) (c1) rfl (by kernel_rfl) rfl rfl rfl rfl rfl (hst := by simp only [St.drops, St.drop, mapT, mapH, kill, kills, del, St.put, ins, reduceIte, Nat.reduceAdd, Nat.reduceLT, Nat.reduceEqDiff, Bool.false_eq_true]; exact rfl) ?_
    iterate 1 refine AOL.s1 (h := ?_)
    refine AOL.nil ?_
    refine AW.kq [0, 1, 2, 9, 10, 18] (h := ?_)
    repeat refine AW.seq ?_
    refine AW.reg ?_
    iterate 2 refine AOL.s1 (h := ?_)
    refine AOL.callD rfl (gadget_just_c) (by kernel_rfl) rfl rfl (h := ?_)
    iterate 1 refine AOL.s1 (h := ?_)
    refine AOL.callM (l := 0) (b := 1000) (c2) rfl (by kernel_rfl) rfl rfl rfl rfl rfl (hst := by simp only [St.drops, St.drop, mapT, mapH, kill, kills, del, St.put, ins, reduceIte, Nat.reduceAdd, Nat.reduceLT, Nat.reduceEqDiff, Bool.false_eq_true]; exact rfl) ?_
    iterate 1 refine AOL.s1 (h := ?_)
    refine AOL.nil ?_
    repeat refine AW.seq ?_
    refine AW.reg ?_
    iterate 2 refine AOL.s1 (h := ?_)
    refine AOL.nil ?_
    exact ⟨n, by omega, j + 1, _, _, rfl, by omega, Mok.prod (Mok.mono hq1 (by omega)) _ _, ht⟩
  · have n0 : n = 0 := by simp at c_; omega
    subst n0
    have e1 : twoM m a b = linM q (three1 x (isM m.vals a) 2 (isM m.vals b) 1) := by unfold twoM; rw [← show _ = _ from ht]; rfl
    have e2 : twoR m a b = q.vals.length := by unfold twoR; rw [← show _ = _ from ht]; rfl
    have c3 := gadget_Maker_Linear_c (m := q) (L := three1 x (isM m.vals a) 2 (isM m.vals b) 1) (Mok.mono hq (by omega)) (tok_3 (by decide) w64_1)
    rw [e1, e2]
    clear ht e1 e2
    repeat refine AW.seq ?_
    refine AW.exit ?_
    repeat (first | refine Kseq.ex ?_ | refine Kloop.ex ?_ | refine Kblock.miss (by decide) ?_)
    refine Kblock.hit ?_
    refine AW.kq [0, 1, 2, 7] (h := ?_)
    repeat refine AW.seq ?_
    refine AW.reg ?_
    iterate 2 refine AOL.s1 (h := ?_)
    refine AOL.callD rfl (gadget_one_c) (by kernel_rfl) rfl rfl (h := ?_)
    iterate 1 refine AOL.s1 (h := ?_)
    refine AOL.callD rfl (gadget_one_c) (by kernel_rfl) rfl rfl (h := ?_)
    iterate 1 refine AOL.s1 (h := ?_)
    refine AOL.callD rfl (gadget_one_c) (by kernel_rfl) rfl rfl (h := ?_)
    iterate 1 refine AOL.s1 (h := ?_)
    refine AOL.fz 1768 rfl (fun h => by cases h) (h := ?_)
    refine AOL.callM (l := 0) (b := 1000) (c3) rfl (by kernel_rfl) rfl rfl rfl rfl rfl (hst := by simp only [St.drops, St.drop, mapT, mapH, kill, kills, del, St.put, ins, reduceIte, Nat.reduceAdd, Nat.reduceLT, Nat.reduceEqDiff, Bool.false_eq_true]; exact rfl) ?_
    iterate 1 refine AOL.s1 (h := ?_)
    refine AOL.nil ?_
    refine AW.kq [6] (h := ?_)
    repeat refine AW.seq ?_
    refine AW.ret ?_
    refine ⟨_, mkOut (linM q (three1 x (isM m.vals a) 2 (isM m.vals b) 1)), rfl, ?_, ?_⟩
    · exact fun p hp => hp
    · exact Tells.self
abbrev i1 (n : Int) : List AV := [i n]
theorem i1_len (n : Int) : (i1 n).length = 1 := rfl
abbrev il (V : List Int) : AV := slF i1 V
def manS : List Int → Mk → Int → Mk × Int
  | [], m, h => (m, h)
  | v :: V, m, h => manS V (twoM m h v) (twoR m h v)
abbrev manE (m : Mk) (V : List Int) : Mk × Int := manS V (linM m [⟨0, V.length⟩]) m.vals.length
theorem manS_ok {k : Nat} : ∀ (V : List Int) (m : Mk) (h : Int), Mok (14 * V.length + k) m → Mok k (manS V m h).1
  | [], m, h, hm => by simpa [manS] using hm
  | v :: V, m, h, hm => manS_ok V _ _ (twoM_ok (Mok.mono hm (by simp only [List.length_cons]; omega)) _ _)
theorem manE_ok {k : Nat} {m : Mk} {V : List Int} (h : Mok (14 * V.length + 2 + k) m) : Mok k (manE m V).1 := manS_ok V _ _ (Mok.lin (Mok.mono h (by omega)) _)
set_option maxHeartbeats 4000000 in
theorem gadget_Maker_Many_c {m : Mk} {V : List Int} (hm : Mok (14 * V.length + 2) m) : Fn Try.prog 16 [.ptr 0 0, il V] [(0, mkB m 1 2), (1, rwB m.rows), (2, vlB m.vals)] (Tells (i (manE m V).2) (mkOut (manE m V).1)) := by
  refine Fn.enter Try.func16 Try.ntmps16 rfl (h := ?_)
  have tf := tfm
  have ot_ : (false || true) = true := rfl
  have tfr := tfr
  have lV : V.length < 1000000 := by have := hm.1; omega
  have lu : IntKind.u64.wrap (V.length : Int) = V.length := by rw [wu64]; omega
  have c0 := gadget_Maker_Linear_c (m := m) (L := [⟨0, V.length⟩]) (Mok.mono hm (by omega)) ⟨by simp, fun t ht => by simp only [List.mem_singleton] at ht; subst ht; constructor <;> show _ <;> simp only <;> omega⟩
  refine AW.mv 1 1001 (h := ?_)
  refine AW.mv 2 1002 (h := ?_)
  repeat refine AW.seq ?_
  refine AW.reg ?_
  iterate 1 refine AOL.s1 (h := ?_)
  refine AOL.nil ?_
  refine AW.kq [0, 1] (h := ?_)
  repeat refine AW.seq ?_
  refine AW.reg ?_
  iterate 4 refine AOL.s1 (h := ?_)
  refine AOL.callD rfl (gadget_one_c) (by kernel_rfl) rfl rfl (h := ?_)
  iterate 1 refine AOL.s1 (h := ?_)
  refine AOL.fz 1208 rfl (fun h => by cases h) (h := ?_)
  refine AOL.callM (l := 0) (b := 1000) (c0) rfl (by kernel_rfl) rfl rfl rfl rfl rfl (hst := by simp only [St.drops, St.drop, mapT, mapH, kill, kills, del, St.put, ins, reduceIte, Nat.reduceAdd, Nat.reduceLT, Nat.reduceEqDiff, Bool.false_eq_true]; exact rfl) ?_
  iterate 1 refine AOL.s1 (h := ?_)
  refine AOL.nil ?_
  refine AW.kq [0, 1, 5] (h := ?_)
  repeat refine AW.seq ?_
  refine AW.reg ?_
  iterate 3 refine AOL.s1 (h := ?_)
  refine AOL.nil ?_
  refine AW.kq [0, 5, 15, 16, 17] (h := ?_)
  repeat refine AW.seq ?_
  refine AW.block ?_
  repeat refine AW.seq ?_
  refine AW.loopK [0, 5, 15, 16, 17] (fun n s => ∃ (k : Nat) (q : Mk) (h : Int) (r : List Int), s = ⟨27, [(0, .ptr 0 0), (5, i h), (15, il V), (16, i V.length), (17, i k)], [(0, mkB q 1001 1002), (1001, rwB q.rows), (1002, vlB q.vals)]⟩ ∧ V.drop k = r ∧ k ≤ V.length ∧ n = r.length ∧ Mok (14 * r.length) q ∧ id (manS r q h = manE m V)) (V.length) ?_ ?_
  · exact ⟨0, _, _, V, rfl, rfl, Nat.zero_le _, rfl, Mok.lin (Mok.mono hm (by omega)) _, rfl⟩
  rintro n s ⟨k, q, h, r, rfl, hr, hkl, rfl, hq, ht⟩
  repeat refine AW.seq ?_
  refine AW.reg ?_
  iterate 1 refine AOL.s1 (h := ?_)
  refine AOL.nil ?_
  refine AW.kq [0, 5, 15, 16, 17, 18] (h := ?_)
  repeat refine AW.seq ?_
  refine AW.cond rfl (fun c_ => ?_) (fun c_ => ?_)
  · cases r with
    | nil => have := dnilq hr hkl; simp at c_; omega
    | cons t r =>
    obtain ⟨hlt, hr', ht_⟩ := dconsq hr
    have hd : (fm i1 V).drop k = i t :: fm i1 r := by
      have := fm_drop i1_len hr
      rwa [Nat.mul_one] at this
    have k0 : (0:Int) ≤ k := by omega
    have k1 : (k:Int) < V.length := by omega
    have hw := incq hlt (show V.length < 1000000000 by omega)
    have c1 := gadget_Maker_Two_c (m := q) (a := h) (b := t) (Mok.mono hq (by simp only [List.length_cons]; omega))
    clear hr ht_
    refine AW.skip ?_
    repeat refine AW.seq ?_
    refine AW.block ?_
    repeat refine AW.seq ?_
    refine AW.reg ?_
    iterate 3 refine AOL.s1 (h := ?_)
    refine AOL.nil ?_
    refine AW.kq [0, 5, 7, 15, 16, 17] (h := ?_)
    repeat refine AW.seq ?_
    refine AW.reg ?_
    iterate 3 refine AOL.s1 (h := ?_)
    refine AOL.callM (l := 0) (b := 1000) (c1) rfl (by kernel_rfl) rfl rfl rfl rfl rfl (hst := by simp only [St.drops, St.drop, mapT, mapH, kill, kills, del, St.put, ins, reduceIte, Nat.reduceAdd, Nat.reduceLT, Nat.reduceEqDiff, Bool.false_eq_true]; exact rfl) ?_
    iterate 1 refine AOL.s1 (h := ?_)
    refine AOL.nil ?_
    repeat refine AW.seq ?_
    refine AW.reg ?_
    iterate 2 refine AOL.s1 (h := ?_)
    refine AOL.nil ?_
    exact ⟨r.length, by simp, k + 1, _, _, r, rfl, hr', hlt, rfl, twoM_ok (Mok.mono hq (by simp only [List.length_cons]; omega)) _ _, ht⟩
  · have : r = [] := by
      cases r with
      | nil => rfl
      | cons t r => have := (dconsq hr).1; simp at c_; omega
    subst this
    have e1 : manE m V = (q, h) := by rw [← show _ = _ from ht]; rfl
    rw [e1]
    clear ht hr e1
    repeat refine AW.seq ?_
    refine AW.exit ?_
    repeat (first | refine Kseq.ex ?_ | refine Kloop.ex ?_ | refine Kblock.miss (by decide) ?_)
    refine Kblock.hit ?_
    refine AW.kq [5] (h := ?_)
    repeat refine AW.seq ?_
    refine AW.reg ?_
    iterate 2 refine AOL.s1 (h := ?_)
    refine AOL.nil ?_
    refine AW.kq [4] (h := ?_)
    repeat refine AW.seq ?_
    refine AW.ret ?_
    refine ⟨_, mkOut q, rfl, ?_, ?_⟩
    · exact fun p hp => hp
    · exact Tells.self
def bitV (V : List Int) (a : Int) (j : Nat) : Int := valM V a / 2 ^ j % 2
def bitS (a : Int) : Nat → Nat → Mk → List Int → List Tm → Mk × List Int × List Tm
  | 0, _, m, o, s => (m, o, s)
  | n + 1, j, m, o, s => bitS a n (j + 1) (rowM (freshM m (bitV m.vals a j)) (one1 m.vals.length) (two1 m.vals.length 0 288230376287764480) []) (o ++ [(m.vals.length : Int)]) (s ++ [⟨m.vals.length, 2 ^ j⟩])
def bitN (n : Int) : Nat := if n < 0 ∨ n > 58 then 0 else n.toNat
theorem bitN_le (n : Int) : bitN n ≤ 58 := by unfold bitN; split <;> omega
abbrev bitE (m : Mk) (a n : Int) : Mk × List Int × List Tm := bitS (isM m.vals a) (bitN n) 0 m [] []
def bitM (m : Mk) (a n : Int) : Mk := rowM (bitE m a n).1 (bitE m a n).2.2 (one1 0) (one1 (isM m.vals a))
theorem bitS_ok {k : Nat} (a : Int) : ∀ (n j : Nat) (m : Mk) (o : List Int) (s : List Tm), Mok (2 * n + k) m → Mok k (bitS a n j m o s).1
  | 0, _, _, _, _, h => by simpa [bitS] using h
  | n + 1, j, m, o, s, h => bitS_ok a n (j + 1) _ _ _ ((Mok.fresh (Mok.mono h (by omega)) _).row _ _ _)
theorem bitM_ok {k : Nat} {m : Mk} (h : Mok (117 + k) m) (a n : Int) : Mok k (bitM m a n) := Mok.row (bitS_ok _ _ _ _ _ _ (Mok.mono h (by have := bitN_le n; omega))) _ _ _
theorem shl1 {j : Nat} (h : j < 58) : IntKind.u64.wrap (1 * 2 ^ min j IntKind.u64.bits) = 2 ^ j := by
  have e : min j IntKind.u64.bits = j := Nat.min_eq_left (by show j ≤ 64; omega)
  have h1 : (2:Int) ^ j < 2 ^ 58 := by
    have := Nat.pow_lt_pow_right (a := 2) (by decide) h
    exact_mod_cast this
  have h2 : (0:Int) < 2 ^ j := Int.pow_pos (by decide)
  rw [e, wu64, Int.one_mul, Int.emod_eq_of_lt (by omega) (by omega)]
theorem fmi_snoc (V : List Int) (x : Int) : fm i1 (V ++ [x]) = fm i1 V ++ [i x] := by rw [fm_app]; rfl
theorem fmt_snoc (V : List Tm) (x : Tm) : fm tm (V ++ [x]) = fm tm V ++ [i x.v, u x.k] := by rw [fm_app]; simp only [fm, List.append_nil]
theorem isM_idem {V W : List Int} (h0 : 0 < V.length) (h : V.length ≤ W.length) (a : Int) : isM W (isM V a) = isM V a := by
  have := isM_in h0 a
  exact if_neg (by omega)
set_option maxHeartbeats 8000000 in
theorem gadget_Maker_Bits_c {m : Mk} {a n : Int} (hm : Mok 117 m) : Fn Try.prog 41 [.ptr 0 0, i a, i n] [(0, mkB m 1 2), (1, rwB m.rows), (2, vlB m.vals)] (Tells (il (bitE m a n).2.1) (mkOut (bitM m a n))) := by
  refine Fn.enter Try.func41 Try.ntmps41 rfl (h := ?_)
  have tf := tfm
  have ot_ : (false || true) = true := rfl
  have tfr := tfr
  have hN := bitN_le n
  obtain ⟨j0, jl⟩ := isM_in hm.2.2.2 a
  obtain ⟨na, hna⟩ : ∃ n : Nat, isM m.vals a = n := ⟨(isM m.vals a).toNat, by omega⟩
  have e0 : bitM m a n = rowM (bitS na (bitN n) 0 m [] []).1 (bitS na (bitN n) 0 m [] []).2.2 (one1 0) (one1 na) := by unfold bitM bitE; rw [hna]
  have e00 : (bitE m a n).2.1 = (bitS na (bitN n) 0 m [] []).2.1 := by rw [bitE, hna]
  rw [e0, e00]
  replace e0 : id (_ = _) := e0
  replace e00 : id (_ = _) := e00
  rw [hna] at jl
  refine AW.mv 1 1001 (h := ?_)
  refine AW.mv 2 1002 (h := ?_)
  repeat refine AW.seq ?_
  refine AW.reg ?_
  iterate 1 refine AOL.s1 (h := ?_)
  refine AOL.nil ?_
  refine AW.kq [0, 1, 2] (h := ?_)
  repeat refine AW.seq ?_
  refine AW.reg ?_
  iterate 2 refine AOL.s1 (h := ?_)
  refine AOL.callF rfl (isF rfl rfl rfl) (by kernel_rfl) (h := ?_)
  iterate 1 refine AOL.s1 (h := ?_)
  refine AOL.nil ?_
  refine AW.kq [0, 1, 2] (h := ?_)
  repeat refine AW.seq ?_
  refine AW.reg ?_
  iterate 3 refine AOL.s1 (h := ?_)
  refine AOL.kq [0, 1, 2, 16] (h := ?_)
  refine AOL.or 16 19 (os' := ?_) (x := ?_) (h1 := ?_) (h0 := ?_) (h := ?_)
  rotate_left 2
  iterate 2
    · intro hb_ K' hK; (iterate 3 refine AOL.s1 (h := ?_)); refine AOL.kq [0, 1, 2, 19] (h := ?_); exact hK
  refine AOL.nil ?_
  refine AW.kq [0, 1, 2, 19] (h := ?_)
  repeat refine AW.seq ?_
  refine AW.midK [0, 1, 2] (fun t => t = ⟨63, [(0, .ptr 0 0), (1, i na), (2, i (bitN n))], [(0, mkB m 1001 1002), (1001, rwB m.rows), (1002, vlB m.vals)]⟩) ?_ ?_
  · refine AW.cond rfl (fun c_ => ?_) (fun c_ => ?_)
    · have hb : bitN n = 0 := if_pos (by simpa using c_)
      rw [hb]
      repeat refine AW.seq ?_
      refine AW.reg ?_
      iterate 1 refine AOL.s1 (h := ?_)
      refine AOL.nil ?_
      exact rfl
    · have hb : (bitN n : Int) = n := by
        have h : bitN n = n.toNat := if_neg (by simp at c_; omega)
        rw [h]; simp at c_; omega
      rw [hb]
      refine AW.skip ?_
      exact rfl
  rintro t rfl
  repeat refine AW.seq ?_
  refine AW.reg ?_
  iterate 1 refine AOL.s1 (h := ?_)
  refine AOL.nil ?_
  refine AW.kq [0, 1, 2, 7] (h := ?_)
  repeat refine AW.seq ?_
  refine AW.reg ?_
  iterate 1 refine AOL.s1 (h := ?_)
  refine AOL.nil ?_
  refine AW.kq [0, 1, 2, 7, 8] (h := ?_)
  repeat refine AW.seq ?_
  refine AW.reg ?_
  iterate 2 refine AOL.s1 (h := ?_)
  refine AOL.nil ?_
  refine AW.kq [0, 1, 7, 8, 20, 21] (h := ?_)
  repeat refine AW.seq ?_
  refine AW.block ?_
  repeat refine AW.seq ?_
  refine AW.born 7 9001 3 1 (.inl rfl) (h := ?_)
  refine AW.born 8 9002 55 2 (.inl rfl) (h := ?_)
  refine AW.loopK [0, 1, 7, 8, 20, 21] (fun n' s => ∃ (j : Nat) (q : Mk) (o : List Int) (l : List Tm), s = ⟨63, [(0, .ptr 0 0), (1, i na), (7, .ref 9001 0 o.length 1), (8, .ref 9002 0 l.length 2), (20, i (bitN n)), (21, i j)], [(0, mkB q 1001 1002), (1001, rwB q.rows), (1002, vlB q.vals), (9001, ⟨3, false, fm i1 o⟩), (9002, ⟨55, false, fm tm l⟩)]⟩ ∧ j + n' = bitN n ∧ Mok (2 * n' + 1) q ∧ m.vals.length ≤ q.vals.length ∧ o.length = j ∧ l.length = j ∧ wT l ∧ id (bitS na n' j q o l = bitS na (bitN n) 0 m [] []) ∧ id (n' = n')) (bitN n) ?_ ?_
  · exact ⟨0, m, [], [], rfl, by omega, Mok.mono hm (by omega), Nat.le_refl _, rfl, rfl, (fun t ht => by cases ht), rfl, rfl⟩
  rintro n' s ⟨j, q, o, l, rfl, hj, hq, hqm, ho, hl, hlw, ht, _⟩
  repeat refine AW.seq ?_
  refine AW.reg ?_
  iterate 1 refine AOL.s1 (h := ?_)
  refine AOL.nil ?_
  refine AW.kq [0, 1, 7, 8, 20, 21, 22] (h := ?_)
  repeat refine AW.seq ?_
  refine AW.cond rfl (fun c_ => ?_) (fun c_ => ?_)
  · have j1 : j < bitN n := by simp at c_; omega
    obtain ⟨n', rfl⟩ : ∃ m, n' = m + 1 := ⟨n' - 1, by omega⟩
    have k2 : IntKind.i64.wrap ((j : Int) + 1) = ((j + 1 : Nat) : Int) := by rw [wrapI_o (by omega) (by omega)]; omega
    have hqa : isM q.vals na = na := if_neg (by omega)
    obtain ⟨nq, hq1, hq2, hq3, hq4⟩ := valM_at hq.2.2.1 hq.2.2.2 na
    obtain rfl : nq = na := by have := hqa.symm.trans hq1; omega
    have q0 : (0:Int) ≤ nq := by omega
    have hsh := shr_b hq4 (show j ≤ 64 by omega)
    have hand := and_one hsh.2.1 hsh.2.2
    have hs1 := hsh.1
    have hs2 := shl1 (show j < 58 by omega)
    have jn : ¬ (j:Int) < 0 := by omega
    have cF := gadget_Maker_fresh_c (m := q) (x := bitV q.vals nq j) (Mok.mono hq (by omega)) (by unfold bitV; constructor <;> omega)
    have cR := row_nil (m := freshM q (bitV q.vals nq j)) (a := one1 q.vals.length) (b := two1 q.vals.length 0 288230376287764480) (Mok.fresh (Mok.mono hq (by omega)) _) (tok_1 _) (tok_2 w64_m1)
    have hbv : valM q.vals nq / 2 ^ j % 2 = bitV q.vals nq j := rfl
    have lo : (fm i1 o).length = j := by rw [fm_len i1_len, Nat.mul_one, ho]
    have ll : (fm tm l).length = j * 2 := by rw [fm_len tm_len, hl]
    have o1 : (j + 1) * 8 ≤ 140737488355328 := by omega
    have o3 : j ≤ 4611686018427387903 := by omega
    have o2 : j + 1 ≤ 4611686018427387904 := by omega
    have l1 : (j + 1) * 16 ≤ 140737488355328 := by omega
    have ht' : id (bitS nq n' (j + 1) (rowM (freshM q (bitV q.vals nq j)) (one1 q.vals.length) (two1 q.vals.length 0 288230376287764480) []) (o ++ [(q.vals.length : Int)]) (l ++ [⟨q.vals.length, 2 ^ j⟩]) = bitS nq (bitN n) 0 m [] []) := ht
    have hq' : Mok (2 * n' + 1) (rowM (freshM q (bitV q.vals nq j)) (one1 q.vals.length) (two1 q.vals.length 0 288230376287764480) []) := (Mok.fresh (Mok.mono hq (by omega)) _).row _ _ _
    clear ht hqa hq1
    refine AW.skip ?_
    repeat refine AW.seq ?_
    refine AW.block ?_
    repeat refine AW.seq ?_
    refine AW.reg ?_
    iterate 2 refine AOL.s1 (h := ?_)
    refine AOL.nil ?_
    refine AW.kq [0, 1, 7, 8, 9, 20, 21] (h := ?_)
    repeat refine AW.seq ?_
    refine AW.reg ?_
    iterate 11 refine AOL.s1 (h := ?_)
    refine AOL.callM (l := 0) (b := 1000) (cF) rfl (by kernel_rfl) rfl rfl rfl rfl rfl (hst := by simp only [St.drops, St.drop, mapT, mapH, kill, kills, del, St.put, ins, reduceIte, Nat.reduceAdd, Nat.reduceLT, Nat.reduceEqDiff, Bool.false_eq_true]; exact rfl) ?_
    iterate 1 refine AOL.s1 (h := ?_)
    refine AOL.nil ?_
    refine AW.kq [0, 1, 7, 8, 9, 10, 20, 21] (h := ?_)
    repeat refine AW.seq ?_
    refine AW.reg ?_
    iterate 2 refine AOL.s1 (h := ?_)
    refine AOL.callD rfl (gadget_just_c) (by kernel_rfl) rfl rfl (h := ?_)
    iterate 1 refine AOL.s1 (h := ?_)
    refine AOL.callD rfl (gadget_one_c) (by kernel_rfl) rfl rfl (h := ?_)
    refine AOL.callD rfl (gadget_one_c) (by kernel_rfl) rfl rfl (h := ?_)
    iterate 1 refine AOL.s1 (h := ?_)
    refine AOL.fz 1672 rfl (fun h => by cases h) (h := ?_)
    refine AOL.callM (l := 0) (b := 1000) (cR) rfl (by kernel_rfl) rfl rfl rfl rfl rfl (hst := by simp only [St.drops, St.drop, mapT, mapH, kill, kills, del, St.put, ins, reduceIte, Nat.reduceAdd, Nat.reduceLT, Nat.reduceEqDiff, Bool.false_eq_true]; exact rfl) ?_
    refine AOL.nil ?_
    refine AW.kq [0, 1, 7, 8, 9, 10, 20, 21] (h := ?_)
    repeat refine AW.seq ?_
    refine AW.da 11 (by kernel_rfl) (h := ?_)
    iterate 3 refine ADP.d1 (h := ?_)
    refine ADP.app 9001 (h := ?_)
    iterate 4 refine ADP.d1 (h := ?_)
    refine ADP.call rfl (gadget_one_c) (by kernel_rfl) rfl rfl (h := ?_)
    iterate 1 refine ADP.d1 (h := ?_)
    refine ADP.app 9002 (h := ?_)
    refine ADP.done2 hmix (by kernel_rfl) (by kernel_rfl) rfl (hT := ?_)
    iterate 2 refine AOL.s1 (h := ?_)
    refine AOL.nil ?_
    repeat refine AW.seq ?_
    skip
    skip
    refine AW.reg ?_
    iterate 2 refine AOL.s1 (h := ?_)
    refine AOL.nil ?_
    refine ⟨n', by omega, j + 1, rowM (freshM q (bitV q.vals nq j)) (one1 q.vals.length) (two1 q.vals.length 0 288230376287764480) [], o ++ [(q.vals.length : Int)], l ++ [⟨q.vals.length, 2 ^ j⟩], ?_, by omega, hq', ?_, ?_, ?_, ?_, ht', rfl⟩
    · rw [fmi_snoc, fmt_snoc, List.length_append, List.length_append, ho, hl]; rfl
    · simp only [rowM, freshM, List.length_append, List.length_singleton]; omega
    · rw [List.length_append, ho]; rfl
    · rw [List.length_append, hl]; rfl
    · intro t ht
      rcases List.mem_append.1 ht with ht | ht
      · exact hlw t ht
      · simp only [List.mem_singleton] at ht; subst ht
        show w64 (2 ^ j)
        have h1 : (2:Int) ^ j < 2 ^ 58 := by
          have := Nat.pow_lt_pow_right (a := 2) (by decide) (show j < 58 by omega)
          exact_mod_cast this
        have h2 : (0:Int) < 2 ^ j := Int.pow_pos (by decide)
        constructor <;> omega
  · have n0 : n' = 0 := by simp at c_; omega
    subst n0
    have e1 : bitS na (bitN n) 0 m [] [] = (q, o, l) := by rw [← show _ = _ from ht]; rfl
    rw [e1]
    have cR := gadget_Maker_row_c (m := q) (Mok.mono hq (by omega)) (⟨by omega, hlw⟩ : tok l) (tok_1 0) (tok_1 na)
    have hfl : AV.sl j (sub 0 (j * 2) (fm tm l)) = slF tm l := by rw [← hl, sub_all (by rw [fm_len tm_len]; exact Nat.le_refl _)]
    have hfo : AV.sl j (sub 0 (j * 1) (fm i1 o)) = il o := by rw [← ho, sub_all (by rw [fm_len i1_len]; exact Nat.le_refl _)]
    refine AW.fz 9001 rfl (fun h => by cases h) (h := ?_)
    refine AW.fz 9002 rfl (fun h => by cases h) (h := ?_)
    rw [hfl, hfo]
    clear hfl hfo e1 ht ho hl
    repeat refine AW.seq ?_
    refine AW.exit ?_
    repeat (first | refine Kseq.ex ?_ | refine Kloop.ex ?_ | refine Kblock.miss (by decide) ?_)
    refine Kblock.hit ?_
    refine AW.kq [0, 1, 7, 8] (h := ?_)
    repeat refine AW.seq ?_
    refine AW.reg ?_
    iterate 2 refine AOL.s1 (h := ?_)
    refine AOL.callD rfl (gadget_just_c) (by kernel_rfl) rfl rfl (h := ?_)
    iterate 1 refine AOL.s1 (h := ?_)
    refine AOL.callD rfl (gadget_just_c) (by kernel_rfl) rfl rfl (h := ?_)
    refine AOL.callM (l := 0) (b := 1000) (cR) rfl (by kernel_rfl) rfl rfl rfl rfl rfl (hst := by simp only [St.drops, St.drop, mapT, mapH, kill, kills, del, St.put, ins, reduceIte, Nat.reduceAdd, Nat.reduceLT, Nat.reduceEqDiff, Bool.false_eq_true]; exact rfl) ?_
    refine AOL.nil ?_
    refine AW.kq [7] (h := ?_)
    repeat refine AW.seq ?_
    refine AW.reg ?_
    iterate 2 refine AOL.s1 (h := ?_)
    refine AOL.nil ?_
    refine AW.kq [6] (h := ?_)
    repeat refine AW.seq ?_
    refine AW.ret ?_
    refine ⟨_, mkOut (rowM q l (one1 0) (one1 na)), rfl, ?_, ?_⟩
    · exact fun p hp => hp
    · exact Tells.self
end Go.Proofs.Ytiikiamdbelbjaa.E.M

