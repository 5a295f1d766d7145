/- obolref05, the digest by definition: words, a round's row, what is mixed: contracts over E. -/
import Derived.Test.YthajlelljnkdiaaLst
import Derived.Test.YthajlelljnkdiaaProg
import Derived.KernelRfl
set_option linter.unusedVariables false
set_option linter.unusedSimpArgs false
set_option maxRecDepth 10000
open Go Go.Proofs.Ythajlelljnkdiaa.E Go.Proofs
namespace Go.Proofs.Ythajlelljnkdiaa.E.M
abbrev TFk : Prop := tSz Try.prog 106 = some 1 ∧
    tAgg Try.prog 106 = some false ∧
    tBytes Try.prog 106 = some 4 ∧
    tZero Try.prog 106 = some [(.int .u32 0)] ∧
    tSlice Try.prog 106 = none ∧
    tInt Try.prog 106 = some .u32 ∧
    Try.prog.underlying 106 = some (.int .u32) ∧
    tIface Try.prog 106 = some false ∧
    tCls Try.prog 106 = .other ∧
    tSz Try.prog 109 = some 8 ∧
    tAgg Try.prog 109 = some true ∧
    tBytes Try.prog 109 = some 32 ∧
    tZero Try.prog 109 = some [(.int .u32 0), (.int .u32 0), (.int .u32 0), (.int .u32 0), (.int .u32 0), (.int .u32 0), (.int .u32 0), (.int .u32 0)] ∧
    tSlice Try.prog 109 = none ∧
    tArray Try.prog 109 = some (8, 106) ∧
    Try.prog.underlying 109 = some (.array 8 106) ∧
    tIface Try.prog 109 = some false ∧
    tCls Try.prog 109 = .other ∧
    (∀ ps, aBuild Try.prog 109 ps = (aFill (fun i => some (i * 1, 1)) [.val (.int .u32 0), .val (.int .u32 0), .val (.int .u32 0), .val (.int .u32 0), .val (.int .u32 0), .val (.int .u32 0), .val (.int .u32 0), .val (.int .u32 0)] ps).map .agg) ∧
    tSz Try.prog 116 = some 16 ∧
    tAgg Try.prog 116 = some true ∧
    tBytes Try.prog 116 = some 64 ∧
    tZero Try.prog 116 = some [(.int .u32 0), (.int .u32 0), (.int .u32 0), (.int .u32 0), (.int .u32 0), (.int .u32 0), (.int .u32 0), (.int .u32 0), (.int .u32 0), (.int .u32 0), (.int .u32 0), (.int .u32 0), (.int .u32 0), (.int .u32 0), (.int .u32 0), (.int .u32 0)] ∧
    tSlice Try.prog 116 = none ∧
    tArray Try.prog 116 = some (16, 106) ∧
    Try.prog.underlying 116 = some (.array 16 106) ∧
    tIface Try.prog 116 = some false ∧
    tCls Try.prog 116 = .other ∧
    (∀ ps, aBuild Try.prog 116 ps = (aFill (fun i => some (i * 1, 1)) [.val (.int .u32 0), .val (.int .u32 0), .val (.int .u32 0), .val (.int .u32 0), .val (.int .u32 0), .val (.int .u32 0), .val (.int .u32 0), .val (.int .u32 0), .val (.int .u32 0), .val (.int .u32 0), .val (.int .u32 0), .val (.int .u32 0), .val (.int .u32 0), .val (.int .u32 0), .val (.int .u32 0), .val (.int .u32 0)] ps).map .agg) ∧
    tSz Try.prog 107 = some 1 ∧
    tAgg Try.prog 107 = some false ∧
    tBytes Try.prog 107 = some 24 ∧
    tZero Try.prog 107 = some [(.slice none 0 0)] ∧
    tSlice Try.prog 107 = some 106 ∧
    Try.prog.underlying 107 = some (.slice 106) ∧
    tIface Try.prog 107 = some false ∧
    tCls Try.prog 107 = .slice ∧
    tSz Try.prog 57 = some 1 ∧
    tAgg Try.prog 57 = some false ∧
    tBytes Try.prog 57 = some 24 ∧
    tZero Try.prog 57 = some [(.slice none 0 0)] ∧
    tSlice Try.prog 57 = some 5 ∧
    Try.prog.underlying 57 = some (.slice 5) ∧
    tIface Try.prog 57 = some false ∧
    tCls Try.prog 57 = .slice ∧
    tSz Try.prog 5 = some 1 ∧
    tAgg Try.prog 5 = some false ∧
    tBytes Try.prog 5 = some 1 ∧
    tZero Try.prog 5 = some [(.int .u8 0)] ∧
    tSlice Try.prog 5 = none ∧
    tInt Try.prog 5 = some .u8 ∧
    Try.prog.underlying 5 = some (.int .u8) ∧
    tIface Try.prog 5 = some false ∧
    tCls Try.prog 5 = .other ∧
    tSz Try.prog 9 = some 1 ∧
    tAgg Try.prog 9 = some false ∧
    tBytes Try.prog 9 = some 16 ∧
    tZero Try.prog 9 = some [(.string ByteArray.empty)] ∧
    tSlice Try.prog 9 = none ∧
    Try.prog.underlying 9 = some .string ∧
    tIface Try.prog 9 = some false ∧
    tCls Try.prog 9 = .string ∧
    tSz Try.prog 50 = some 1 ∧
    tAgg Try.prog 50 = some false ∧
    tBytes Try.prog 50 = some 24 ∧
    tZero Try.prog 50 = some [(.slice none 0 0)] ∧
    tSlice Try.prog 50 = some 3 ∧
    Try.prog.underlying 50 = some (.slice 3) ∧
    tIface Try.prog 50 = some false ∧
    tCls Try.prog 50 = .slice ∧
    tSz Try.prog 3 = some 1 ∧
    tAgg Try.prog 3 = some false ∧
    tBytes Try.prog 3 = some 8 ∧
    tZero Try.prog 3 = some [(.int .i64 0)] ∧
    tSlice Try.prog 3 = none ∧
    tInt Try.prog 3 = some .i64 ∧
    Try.prog.underlying 3 = some (.int .i64) ∧
    tIface Try.prog 3 = some false ∧
    tCls Try.prog 3 = .other ∧
    tSz Try.prog 23 = some 1 ∧
    tAgg Try.prog 23 = some false ∧
    tBytes Try.prog 23 = some 8 ∧
    tZero Try.prog 23 = some [(.int .u64 0)] ∧
    tSlice Try.prog 23 = none ∧
    tInt Try.prog 23 = some .u64 ∧
    Try.prog.underlying 23 = some (.int .u64) ∧
    tIface Try.prog 23 = some false ∧
    tCls Try.prog 23 = .other
theorem tfk : TFk :=
  ⟨rfl, rfl, rfl, rfl, rfl, rfl, rfl, rfl, rfl, rfl, rfl, rfl, rfl, rfl, rfl, rfl, rfl, rfl, fun _ => rfl, rfl, rfl, rfl, rfl, rfl, rfl, rfl, rfl, rfl, fun _ => rfl, rfl, rfl, rfl, rfl, rfl, rfl, rfl, rfl, rfl, rfl, rfl, rfl, rfl, rfl, rfl, rfl, rfl, rfl, rfl, rfl, rfl, rfl, rfl, rfl, rfl, rfl, rfl, rfl, rfl, rfl, rfl, rfl, rfl, rfl, rfl, rfl, rfl, rfl, rfl, rfl, rfl, rfl, rfl, rfl, rfl, rfl, rfl, rfl, rfl, rfl, rfl, rfl, rfl, rfl, rfl, rfl, rfl, rfl, rfl⟩
abbrev c32 (n : Int) : AV := .val (.int .u32 n)
def a32 (V : List Int) : List AV := V.map c32
theorem a32_len (V : List Int) : (a32 V).length = V.length := by unfold a32; rw [List.length_map]
theorem a32_set (V : List Int) (k : Nat) (v : Int) : (a32 V).set k (c32 v) = a32 (V.set k v) := by unfold a32; rw [List.map_set]
def at_ (V : List Int) (k : Nat) : Int := V.getD k 0
theorem a32_at {V : List Int} {k : Nat} (h : k < V.length) : (a32 V).drop k = c32 (at_ V k) :: a32 (V.drop (k + 1)) := by
  unfold a32 at_
  rw [← List.map_drop, List.drop_eq_getElem_cons h, List.map_cons, List.getD_eq_getElem?_getD, List.getElem?_eq_getElem h]
  rfl
theorem a32_one (V : List Int) : (a32 V).all AV.one = true := by
  unfold a32; rw [List.all_map]; exact List.all_eq_true.2 fun _ _ => rfl
theorem a32_kills (l : Nat) : ∀ V : List Int, kills l (a32 V) = a32 V
  | [] => rfl
  | v :: V => by show kill l (c32 v) :: kills l (a32 V) = _; rw [a32_kills l V]; rfl
theorem a32_box (st : St) (d : Tmp) (e : TypeId) (V : List Int) : aBox st d e (.agg (a32 V)) = some (.ptr (lab d) 0, st.new (lab d) ⟨e, true, a32 V⟩) := by
  unfold aBox; rw [if_pos (show AV.fits (.agg (a32 V)) = true from a32_one V)]
  show some (AV.ptr (lab d) 0, st.new (lab d) ⟨e, true, kills (lab d) (a32 V)⟩) = _
  rw [a32_kills]
theorem a32_tk {V : List Int} {n : Nat} (h : V.length = n) : tk n (a32 V) = some (a32 V) := by
  rw [tk_eq, if_pos (by rw [a32_len]; omega), List.take_of_length_le (by rw [a32_len]; omega)]
theorem a32_splice {V : List Int} {cs : List AV} (h : cs.length = V.length) (h2 : 2 ≤ V.length) : splice 0 (a32 V) cs = a32 V := by
  have hl := a32_len V
  unfold splice
  split
  · rename_i d e; rw [e] at hl; simp at hl; omega
  · rw [List.take_zero, List.nil_append, List.drop_of_length_le (by omega), List.append_nil]
theorem a32_res {P : Program} {st : St} {a L n : Nat} {t e : TypeId} {V : List Int} (h1 : get? a st.t = some (.ptr L 0)) (h2 : get? L st.h = some ⟨e, true, a32 V⟩) (h3 : tAgg P t = some true) (h4 : tSz P t = some n) (h5 : V.length = n) : resOf P st [.cell a t] = some [.agg (a32 V)] := by
  simp only [resOf, h1, Option.bind_some, ld, h2, List.drop_zero, part, h3, h4, takeAgg_tk, a32_tk h5, Option.map_some]
theorem a32_two {V : List Int} {n : Nat} (h : V.length = n) (h2 : 2 ≤ n) : ∃ p q r, a32 V = p :: q :: r := by
  match V, h with
  | [], h => simp at h; omega
  | [_], h => simp at h; omega
  | x :: y :: r, _ => exact ⟨_, _, _, rfl⟩
theorem a32_free (V : List Int) : frees (a32 V) = true := by
  unfold a32
  induction V with
  | nil => rfl
  | cons v V ih => exact ih
def add32 (a b : Int) : Int := IntKind.u32.wrap (a + b)
def xor32 (a b : Int) : Int := IntKind.u32.wrap (BitVec.ofInt IntKind.u32.bits a ^^^ BitVec.ofInt IntKind.u32.bits b).toNat
def rol32 (x : Int) (n : Int) : Int := IntKind.u32.wrap (BitVec.ofInt IntKind.u32.bits (x.fdiv (2 ^ min n.toNat IntKind.u32.bits)) ||| BitVec.ofInt IntKind.u32.bits (IntKind.u32.wrap (x * 2 ^ min (32 - n).toNat IntKind.u32.bits))).toNat
def mx1 (V : List Int) (a b : Nat) (x : Int) : List Int := V.set a (add32 (add32 (at_ V a) (at_ V b)) x)
def mx2 (V : List Int) (d a : Nat) (n : Int) : List Int := V.set d (rol32 (xor32 (at_ V d) (at_ V a)) n)
def mx3 (V : List Int) (c d : Nat) : List Int := V.set c (add32 (at_ V c) (at_ V d))
def mixB (V : List Int) (a b c d : Nat) (x y : Int) : List Int := mx2 (mx3 (mx2 (mx1 (mx2 (mx3 (mx2 (mx1 V a b x) d a 16) c d) b c 12) a b y) d a 8) c d) b c 7
theorem mx1_len (V : List Int) (a b : Nat) (x : Int) : (mx1 V a b x).length = V.length := List.length_set
theorem mx2_len (V : List Int) (d a : Nat) (n : Int) : (mx2 V d a n).length = V.length := List.length_set
theorem mx3_len (V : List Int) (c d : Nat) : (mx3 V c d).length = V.length := List.length_set
theorem mixB_len (V : List Int) (a b c d : Nat) (x y : Int) : (mixB V a b c d x y).length = V.length := by
  unfold mixB; rw [mx2_len, mx3_len, mx2_len, mx1_len, mx2_len, mx3_len, mx2_len, mx1_len]
set_option maxHeartbeats 1000000 in
theorem obolref05_roll_c {x n : Int} (h0 : 0 ≤ n) (h1 : n ≤ 32) : Fn Try.prog 68 [c32 x, i n] [] (fun r h_ => r = c32 (rol32 x n)) := by
  refine Fn.enter Try.func68 Try.ntmps68 rfl (h := ?_)
  have tf := tfk
  have ot_ : (false || true) = true := rfl
  have w1 : IntKind.i64.wrap (32 - n) = 32 - n := wrapI_o (by omega) (by omega)
  have g1 : ¬ n < 0 := by omega
  have g2 : ¬ (32 - n) < 0 := by omega
  repeat refine AW.seq ?_
  refine AW.reg ?_
  iterate 1 refine AOL.s1 (h := ?_)
  refine AOL.nil ?_
  refine AW.kq [0, 1] (h := ?_)
  repeat refine AW.seq ?_
  refine AW.drw 7 [] (by kernel_rfl) (h := ?_)
  iterate 7 refine ADL.dm 1 (h := ?_)
  refine ADL.done hmix rfl rfl (hT := ?_)
  iterate 2 refine AOL.s1 (h := ?_)
  refine AOL.nil ?_
  refine AW.kq [4] (h := ?_)
  repeat refine AW.seq ?_
  refine AW.ret ?_
  refine ⟨_, [], rfl, HOk.nil _, ?_⟩
  rfl
set_option maxHeartbeats 4000000 in
theorem obolref05_mix_c {V : List Int} {a b c d : Nat} {x y : Int} (hV : V.length = 16) (ha : a < 16) (hb : b < 16) (hc : c < 16) (hd : d < 16) : Fn Try.prog 65 [.agg (a32 V), i a, i b, i c, i d, c32 x, c32 y] [] (fun r h_ => r = .agg (a32 (mixB V a b c d x y))) := by
  refine Fn.enter Try.func65 Try.ntmps65 rfl (h := ?_)
  have tf := tfk
  have ot_ : (false || true) = true := rfl
  have a0 : (0:Int) ≤ a := by omega
  have b0 : (0:Int) ≤ b := by omega
  have c0 : (0:Int) ≤ c := by omega
  have d0 : (0:Int) ≤ d := by omega
  have a1 : (a:Int) < ((16:Nat):Int) := by omega
  have b1 : (b:Int) < ((16:Nat):Int) := by omega
  have c1 : (c:Int) < ((16:Nat):Int) := by omega
  have d1 : (d:Int) < ((16:Nat):Int) := by omega
  have a2 : a ≤ 15 := by omega
  have b2 : b ≤ 15 := by omega
  have c2 : c ≤ 15 := by omega
  have d2 : d ≤ 15 := by omega
  have kl : ∀ l V, kills l (a32 V) = a32 V := a32_kills
  have bx : ∀ st d e V, aBox st d e (.agg (a32 V)) = some (.ptr (lab d) 0, st.new (lab d) ⟨e, true, a32 V⟩) := a32_box
  have ol : ∀ V, (a32 V).all AV.one = true := a32_one
  have tl : ∀ V, V.length = 16 → tk 16 (a32 V) = some (a32 V) := fun V h => a32_tk h
  have spl : ∀ V cs, V.length = 16 → cs.length = 16 → splice 0 (a32 V) cs = a32 V := fun V cs h h2 => a32_splice (by omega) (by omega)
  have al : ∀ V, (a32 V).length = V.length := a32_len
  have sl : ∀ V k v, (a32 V).set k (c32 v) = a32 (V.set k v) := a32_set
  have dl : ∀ (V : List Int) (k : Nat), k < V.length → (a32 V).drop k = c32 (at_ V k) :: a32 (V.drop (k + 1)) := fun V k h => a32_at h
  have ls : ∀ (V : List Int) (k : Nat) (v : Int), (V.set k v).length = V.length := fun V k v => List.length_set
  repeat refine AW.seq ?_
  refine AW.reg ?_
  iterate 2 refine AOL.s1 (h := ?_)
  refine AOL.nil ?_
  refine AW.kq [1, 2, 3, 4, 5, 6, 7, 14] (h := ?_)
  repeat refine AW.seq ?_
  refine AW.drw 10 [] (by kernel_rfl) (h := ?_)
  iterate 10 refine ADL.dm 1 (h := ?_)
  refine ADL.done hmix rfl rfl (hT := ?_)
  iterate 2 refine AOL.s1 (h := ?_)
  refine AOL.nil ?_
  refine AW.kq [1, 2, 3, 4, 6, 7, 14] (h := ?_)
  generalize hV1 : V.set a _ = V1
  have l1 : V1.length = 16 := by rw [← hV1, ls, hV]
  repeat refine AW.seq ?_
  refine AW.drw 9 [] (by kernel_rfl) (h := ?_)
  iterate 8 refine ADL.dm 1 (h := ?_)
  refine ADL.call rfl (obolref05_roll_c (by decide) (by decide)) (by kernel_rfl) rfl rfl (h := ?_)
  refine ADL.done hmix rfl rfl (hT := ?_)
  iterate 2 refine AOL.s1 (h := ?_)
  refine AOL.nil ?_
  refine AW.kq [1, 2, 3, 4, 6, 7, 14] (h := ?_)
  generalize hV2 : V1.set d _ = V2
  have l2 : V2.length = 16 := by rw [← hV2, ls, l1]
  repeat refine AW.seq ?_
  refine AW.drw 8 [] (by kernel_rfl) (h := ?_)
  iterate 8 refine ADL.dm 1 (h := ?_)
  refine ADL.done hmix rfl rfl (hT := ?_)
  iterate 2 refine AOL.s1 (h := ?_)
  refine AOL.nil ?_
  refine AW.kq [1, 2, 3, 4, 6, 7, 14] (h := ?_)
  generalize hV3 : V2.set c _ = V3
  have l3 : V3.length = 16 := by rw [← hV3, ls, l2]
  repeat refine AW.seq ?_
  refine AW.drw 9 [] (by kernel_rfl) (h := ?_)
  iterate 8 refine ADL.dm 1 (h := ?_)
  refine ADL.call rfl (obolref05_roll_c (by decide) (by decide)) (by kernel_rfl) rfl rfl (h := ?_)
  refine ADL.done hmix rfl rfl (hT := ?_)
  iterate 2 refine AOL.s1 (h := ?_)
  refine AOL.nil ?_
  refine AW.kq [1, 2, 3, 4, 6, 7, 14] (h := ?_)
  generalize hV4 : V3.set b _ = V4
  have l4 : V4.length = 16 := by rw [← hV4, ls, l3]
  repeat refine AW.seq ?_
  refine AW.drw 10 [] (by kernel_rfl) (h := ?_)
  iterate 10 refine ADL.dm 1 (h := ?_)
  refine ADL.done hmix rfl rfl (hT := ?_)
  iterate 2 refine AOL.s1 (h := ?_)
  refine AOL.nil ?_
  refine AW.kq [1, 2, 3, 4, 7, 14] (h := ?_)
  generalize hV5 : V4.set a _ = V5
  have l5 : V5.length = 16 := by rw [← hV5, ls, l4]
  repeat refine AW.seq ?_
  refine AW.drw 9 [] (by kernel_rfl) (h := ?_)
  iterate 8 refine ADL.dm 1 (h := ?_)
  refine ADL.call rfl (obolref05_roll_c (by decide) (by decide)) (by kernel_rfl) rfl rfl (h := ?_)
  refine ADL.done hmix rfl rfl (hT := ?_)
  iterate 2 refine AOL.s1 (h := ?_)
  refine AOL.nil ?_
  refine AW.kq [2, 3, 4, 7, 14] (h := ?_)
  generalize hV6 : V5.set d _ = V6
  have l6 : V6.length = 16 := by rw [← hV6, ls, l5]
  repeat refine AW.seq ?_
  refine AW.drw 8 [] (by kernel_rfl) (h := ?_)
  iterate 8 refine ADL.dm 1 (h := ?_)
  refine ADL.done hmix rfl rfl (hT := ?_)
  iterate 2 refine AOL.s1 (h := ?_)
  refine AOL.nil ?_
  refine AW.kq [2, 3, 7, 14] (h := ?_)
  generalize hV7 : V6.set c _ = V7
  have l7 : V7.length = 16 := by rw [← hV7, ls, l6]
  repeat refine AW.seq ?_
  refine AW.drw 9 [] (by kernel_rfl) (h := ?_)
  iterate 8 refine ADL.dm 1 (h := ?_)
  refine ADL.call rfl (obolref05_roll_c (by decide) (by decide)) (by kernel_rfl) rfl rfl (h := ?_)
  refine ADL.done hmix rfl rfl (hT := ?_)
  iterate 2 refine AOL.s1 (h := ?_)
  refine AOL.nil ?_
  refine AW.kq [7, 14] (h := ?_)
  generalize hV8 : V7.set b _ = V8
  have l8 : V8.length = 16 := by rw [← hV8, ls, l7]
  repeat refine AW.seq ?_
  refine AW.reg ?_
  iterate 2 refine AOL.s1 (h := ?_)
  refine AOL.nil ?_
  refine AW.kq [14] (h := ?_)
  obtain ⟨p_, q_, r_, he⟩ : ∃ p q r, a32 V8 = p :: q :: r := a32_two l8 (by decide)
  rw [he]
  dsimp only
  rw [← he]
  repeat refine AW.seq ?_
  refine AW.ret ?_
  refine ⟨_, [], a32_res (n := 16) rfl rfl rfl rfl l8, HOk.nil _, ?_⟩
  have e8 : mixB V a b c d x y = V8 := by rw [← hV8, ← hV7, ← hV6, ← hV5, ← hV4, ← hV3, ← hV2, ← hV1]; rfl
  rw [e8]
  rfl
end Go.Proofs.Ythajlelljnkdiaa.E.M

