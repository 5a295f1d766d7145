/- Numbers of digits of 8 bits, the lowest first: what is carried, what stands above bit 130; rows of numbers. -/
import Derived.Test.YthajlelljnkdiaaBlk
import Derived.Test.YthajlelljnkdiaaBy8
import Derived.Test.YthajlelljnkdiaaProg
import Derived.KernelRfl
set_option linter.unusedVariables false
set_option linter.unusedSimpArgs false
set_option maxRecDepth 10000
open Go Go.Proofs.Ythajlelljnkdiaa.E Go.Proofs
namespace Go.Proofs.Ythajlelljnkdiaa.E.M
def vl : List Int → Int
  | [] => 0
  | a :: L => a + 256 * vl L
def nn (L : List Int) : Prop := ∀ v ∈ L, 0 ≤ v
def dig (L : List Int) : Prop := ∀ v ∈ L, 0 ≤ v ∧ v < 256
theorem dig.nn {L : List Int} (h : dig L) : nn L := fun v hv => (h v hv).1
theorem vl_nn : ∀ {L : List Int}, nn L → 0 ≤ vl L
  | [], _ => by simp [vl]
  | a :: L, h => by
    have h1 := h a (by simp)
    have h2 := vl_nn (L := L) fun v hv => h v (List.mem_cons_of_mem _ hv)
    simp only [vl]; omega
theorem vl_app : ∀ (L M : List Int), vl (L ++ M) = vl L + 256 ^ L.length * vl M
  | [], M => by simp [vl]
  | a :: L, M => by
    simp only [List.cons_append, vl, vl_app L M, List.length_cons, Int.pow_succ]
    have e : (256 : Int) * (vl L + 256 ^ L.length * vl M) = 256 * vl L + 256 ^ L.length * 256 * vl M := by
      rw [Int.mul_add, ← Int.mul_assoc, Int.mul_comm 256 (256 ^ L.length)]
    rw [e]; omega
theorem vl_zeros : ∀ n : Nat, vl (List.replicate n 0) = 0
  | 0 => rfl
  | n + 1 => by simp [List.replicate_succ, vl, vl_zeros n]
theorem vl_lt : ∀ {L : List Int}, dig L → vl L < 256 ^ L.length
  | [], _ => by simp [vl]
  | a :: L, h => by
    have h1 := h a (by simp)
    have h2 := vl_lt (L := L) fun v hv => h v (List.mem_cons_of_mem _ hv)
    simp only [vl, List.length_cons, Int.pow_succ]
    omega
/-- digits, with so much carried in -/
def cr : Nat → Int → List Int → List Int
  | 0, _, _ => []
  | n + 1, c, [] => c % 256 :: cr n (c / 256) []
  | n + 1, c, a :: L => (c + a) % 256 :: cr n ((c + a) / 256) L
theorem cr_len : ∀ (n : Nat) (c : Int) (L : List Int), (cr n c L).length = n
  | 0, c, L => by cases L <;> rfl
  | n + 1, c, [] => by simp [cr, cr_len n]
  | n + 1, c, a :: L => by simp [cr, cr_len n]
theorem cr_dig : ∀ (n : Nat) (c : Int) (L : List Int), dig (cr n c L)
  | 0, c, L => by cases L <;> (intro v hv; simp [cr] at hv)
  | n + 1, c, [] => by
    intro v hv
    simp only [cr, List.mem_cons] at hv
    rcases hv with rfl | hv
    · omega
    · exact cr_dig n _ _ v hv
  | n + 1, c, a :: L => by
    intro v hv
    simp only [cr, List.mem_cons] at hv
    rcases hv with rfl | hv
    · omega
    · exact cr_dig n _ _ v hv
/-- what is told is the number, if it has so many digits -/
theorem cr_vl : ∀ (n : Nat) (c : Int) (L : List Int), 0 ≤ c → nn L → L.length ≤ n → c + vl L < 256 ^ n → vl (cr n c L) = c + vl L
  | 0, c, L, hc, _, hl, h => by
    have hL : L = [] := List.eq_nil_of_length_eq_zero (by omega)
    subst hL
    simp only [vl, Int.pow_zero] at h
    simp only [cr, vl]; omega
  | n + 1, c, [], hc, hL, hl, h => by
    simp only [cr, vl] at h ⊢
    rw [Int.pow_succ] at h
    rw [cr_vl n (c / 256) [] (by omega) hL (by simp) (by simp only [vl]; omega)]
    simp only [vl]; omega
  | n + 1, c, a :: L, hc, hL, hl, h => by
    have ha := hL a (by simp)
    have hL' : nn L := fun v hv => hL v (List.mem_cons_of_mem _ hv)
    have h0 := vl_nn hL'
    simp only [cr, vl] at h ⊢
    rw [Int.pow_succ] at h
    rw [cr_vl n ((c + a) / 256) L (by omega) hL' (by simpa using hl) (by omega)]
    omega
/-- the digits of a quarter -/
def qt : List Int → List Int
  | [] => []
  | [a] => [a / 4]
  | a :: b :: L => (a / 4 + b % 4 * 64) :: qt (b :: L)
theorem qt_len : ∀ L : List Int, (qt L).length = L.length
  | [] => rfl
  | [a] => rfl
  | a :: b :: L => by simp only [qt, List.length_cons, qt_len (b :: L)]
theorem qt_vl : ∀ (a : Int) (L : List Int), vl (a :: L) = 4 * vl (qt (a :: L)) + a % 4
  | a, [] => by simp only [qt, vl]; omega
  | a, b :: L => by
    have h := qt_vl b L
    simp only [qt, vl] at h ⊢
    omega
theorem qt_nn : ∀ {L : List Int}, dig L → dig (qt L)
  | [], _ => by intro v hv; simp [qt] at hv
  | [a], h => by
    intro v hv
    simp only [qt, List.mem_singleton] at hv
    have := h a (by simp)
    omega
  | a :: b :: L, h => by
    intro v hv
    simp only [qt, List.mem_cons] at hv
    rcases hv with rfl | hv
    · have := h a (by simp)
      have := h b (by simp)
      omega
    · exact qt_nn (fun v hv => h v (List.mem_cons_of_mem _ hv)) v hv
/-- bit by bit 130: below and above -/
theorem split130 {x : List Int} (hx : x.length = 40) : ∃ a, x[16]? = some a ∧ vl x = vl (x.take 16 ++ [a % 4]) + 4 * 256 ^ 16 * vl (qt (x.drop 16)) := by
  have h16 : 16 < x.length := by omega
  refine ⟨x[16], List.getElem?_eq_getElem h16, ?_⟩
  have e : x = x.take 16 ++ x[16] :: x.drop 17 := by rw [← List.drop_eq_getElem_cons h16, List.take_append_drop]
  have e2 : x.drop 16 = x[16] :: x.drop 17 := List.drop_eq_getElem_cons h16
  have l16 : (x.take 16).length = 16 := by rw [List.length_take]; omega
  rw [e2]
  conv => lhs; rw [e, vl_app, l16, qt_vl]
  rw [vl_app, l16]
  simp only [vl]
  omega
/-- some digit above 0: the number is above 0 -/
theorem vl_pos : ∀ {L : List Int}, nn L → (∃ v ∈ L, 0 < v) → 0 < vl L
  | [], _, ⟨v, hv, _⟩ => by cases hv
  | a :: L, h, ⟨v, hv, h0⟩ => by
    have ha := h a (by simp)
    have hL : nn L := fun v hv => h v (List.mem_cons_of_mem _ hv)
    have hn := vl_nn hL
    simp only [vl]
    rcases List.mem_cons.1 hv with rfl | hv
    · omega
    · have := vl_pos hL ⟨v, hv, h0⟩
      omega
theorem aSlice_sl {P : Program} {t e : TypeId} (ht : tSlice P t = some e) (hz : tSz P e = some 1) {cs : List AV} {n : Nat} {lo hi : Option AV} {a b : Nat} (h1 : bnd 0 lo = some (a:Int)) (h2 : bnd n hi = some (b:Int)) (hab : a ≤ b) (hb : b ≤ n) (H : List (Nat × Blk)) :
    aSlice P t H (.sl n cs) lo hi none = some (.sl (b - a) ((cs.drop a).take (b - a))) := by
  have c0 : (0:Int) ≤ (a:Int) := by omega
  have c1 : (a:Int) ≤ (b:Int) := by omega
  have c2 : (b:Int) ≤ (n:Int) := by omega
  simp only [aSlice, ht, hz, h1, h2, c0, c1, c2, and_self, if_true, Int.toNat_natCast, Nat.mul_one]
abbrev c64 (n : Int) : AV := .val (.int .i64 n)
def a64 (V : List Int) : List AV := V.map c64
theorem a64_len (V : List Int) : (a64 V).length = V.length := by unfold a64; rw [List.length_map]
theorem a64_set (V : List Int) (k : Nat) (v : Int) : (a64 V).set k (c64 v) = a64 (V.set k v) := by unfold a64; rw [List.map_set]
theorem a64_at {V : List Int} {k : Nat} (h : k < V.length) : (a64 V).drop k = c64 (at_ V k) :: a64 (V.drop (k + 1)) := by
  unfold a64 at_
  rw [← List.map_drop, List.drop_eq_getElem_cons h, List.map_cons, List.getD_eq_getElem?_getD, List.getElem?_eq_getElem h]
  rfl
theorem a64_hd {V : List Int} (h : 0 < V.length) : (a64 V).head? = some (c64 (at_ V 0)) := by
  have := a64_at (V := V) (k := 0) h
  rw [List.drop_zero] at this
  rw [this]; rfl
theorem a64_app (V W : List Int) : a64 V ++ a64 W = a64 (V ++ W) := by unfold a64; rw [List.map_append]
theorem a64_take (V : List Int) (k : Nat) : (a64 V).take k = a64 (V.take k) := by unfold a64; rw [List.map_take]
theorem a64_drop (V : List Int) (k : Nat) : (a64 V).drop k = a64 (V.drop k) := by unfold a64; rw [List.map_drop]
theorem a64_sub (V : List Int) : sub 0 (V.length * 1) (a64 V) = a64 V := sub_all (by rw [a64_len]; omega)
abbrev sl64 (V : List Int) : AV := .sl V.length (a64 V)
abbrev k64 (V : List Int) : Blk := ⟨3, false, a64 V⟩
theorem a64_rep (n : Nat) : List.replicate n (c64 0) = a64 (List.replicate n 0) := by unfold a64; rw [List.map_replicate]
theorem mkI {n : Nat} (h : n ≤ 1000000000) : ∀ st d, aMake Try.prog st d 50 (n:Int) (n:Int) = some (.ref (lab d) 0 n 1, st.new (lab d) (k64 (List.replicate n 0))) := by
  intro st d
  have tf := tfk
  have e : cMake Try.prog 50 (n:Int) (n:Int) = some (3, 1, a64 (List.replicate n 0)) := by
    rw [← a64_rep]
    simp only [cMake, tf]
    rw [if_pos (by refine ⟨rfl, by decide, rfl, by omega, by omega, by omega, by omega⟩)]
    rfl
  simp only [aMake, e, Option.map_some, Int.toNat_natCast]
theorem mkB {n : Nat} (h : n ≤ 1000000000) : ∀ st d, aMake Try.prog st d 57 (n:Int) (n:Int) = some (.ref (lab d) 0 n 1, st.new (lab d) ⟨5, false, by8 (List.replicate n 0)⟩) := by
  intro st d
  have tf := tfk
  have e : cMake Try.prog 57 (n:Int) (n:Int) = some (5, 1, by8 (List.replicate n 0)) := by
    simp only [cMake, tf]
    rw [if_pos (by refine ⟨rfl, by decide, rfl, by omega, by omega, by omega, by omega⟩)]
    unfold by8
    rw [List.map_replicate]
    rfl
  simp only [aMake, e, Option.map_some, Int.toNat_natCast]
theorem at_rep (n k : Nat) : at_ (List.replicate n 0) k = 0 := by
  unfold at_
  rw [List.getD_eq_getElem?_getD, List.getElem?_replicate]
  split <;> rfl
/-- a row that is filled from its begin on -/
theorem fill_set (D : List Int) {n j : Nat} (hD : D.length = n) (h : j < n) : (D.take j ++ List.replicate (n - j) 0).set j (at_ D j) = D.take (j + 1) ++ List.replicate (n - (j + 1)) 0 := by
  have e : n - j = (n - (j + 1)) + 1 := by omega
  have hj : j < D.length := by omega
  have l : (D.take j).length = j := by rw [List.length_take]; omega
  rw [List.set_append_right _ _ (by omega), l, Nat.sub_self, e, List.replicate_succ, List.set_cons_zero, List.take_add_one, List.getElem?_eq_getElem hj, List.append_assoc]
  congr 1
  show _ = [_] ++ _
  unfold at_
  rw [List.getD_eq_getElem?_getD, List.getElem?_eq_getElem hj]
  rfl
theorem cr_at : ∀ (n : Nat) (c : Int) (L : List Int) (a b : Int) (r : List Int), cr n c L = a :: r → (cr n c L).length = n := fun n c L _ _ _ _ => cr_len n c L
theorem cr_step {n : Nat} {c : Int} {L : List Int} : cr (n + 1) c L = (c + at_ L 0) % 256 :: cr n ((c + at_ L 0) / 256) (L.drop 1) := by
  cases L with
  | nil => simp [cr, at_]
  | cons a L => simp [cr, at_]
theorem at_drop (L : List Int) (j k : Nat) : at_ (L.drop j) k = at_ L (j + k) := by unfold at_; rw [List.getD_eq_getElem?_getD, List.getD_eq_getElem?_getD, List.getElem?_drop]
theorem at_ge {L : List Int} {k : Nat} (h : L.length ≤ k) : at_ L k = 0 := by unfold at_; rw [List.getD_eq_getElem?_getD, List.getElem?_eq_none h]; rfl
theorem at_mem {L : List Int} {k : Nat} (h : k < L.length) : at_ L k ∈ L := by unfold at_; rw [List.getD_eq_getElem?_getD, List.getElem?_eq_getElem h]; exact List.getElem_mem h
theorem dig_uniq : ∀ {L M : List Int}, L.length = M.length → dig L → dig M → vl L = vl M → L = M
  | [], [], _, _, _, _ => rfl
  | a :: L, b :: M, hl, h1, h2, h => by
    have ha := h1 a (by simp)
    have hb := h2 b (by simp)
    simp only [vl] at h
    have e := dig_uniq (L := L) (M := M) (by simpa using hl) (fun v hv => h1 v (List.mem_cons_of_mem _ hv)) (fun v hv => h2 v (List.mem_cons_of_mem _ hv)) (by omega)
    rw [e, show a = b by omega]
theorem vl_set : ∀ {L : List Int} {k : Nat} (v : Int), k < L.length → vl (L.set k v) = vl L + 256 ^ k * (v - at_ L k)
  | a :: L, 0, v, _ => by simp only [List.set_cons_zero, vl, Int.pow_zero, at_, List.getD_cons_zero]; omega
  | a :: L, k + 1, v, h => by
    have := vl_set (L := L) (k := k) v (by simpa using h)
    have e : at_ (a :: L) (k + 1) = at_ L k := by simp [at_]
    simp only [List.set_cons_succ, vl, this, e, Int.pow_succ, Int.mul_comm (256 ^ k) 256, Int.mul_assoc, Int.mul_add]
    omega
end Go.Proofs.Ythajlelljnkdiaa.E.M

