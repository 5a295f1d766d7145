/- The values of as many coefficients as a domain has: contracts over E. -/
import Derived.Test.YtdbpjegocmdplaaQapF
import Derived.Test.YtdbpjegocmdplaaProg
import Derived.KernelRfl
set_option linter.unusedVariables false
set_option linter.unusedSimpArgs false
set_option maxRecDepth 10000
open Go Go.Proofs.Ytdbpjegocmdplaa.E Go.Proofs
namespace Go.Proofs.Ytdbpjegocmdplaa.E.M
def evL : List Int → List Int
  | [] => []
  | [a] => [a]
  | a :: _ :: l => a :: evL l
def odL : List Int → List Int
  | [] => []
  | [_] => []
  | _ :: b :: l => b :: odL l
theorem evL_snoc : ∀ (L : List Int) (a : Int), evL (L ++ [a]) = if L.length % 2 = 0 then evL L ++ [a] else evL L
  | [], a => rfl
  | [b], a => rfl
  | b :: c :: l, a => by
    have ih := evL_snoc l a
    have : (b :: c :: l).length % 2 = l.length % 2 := by simp only [List.length_cons]; omega
    rw [this]
    simp only [List.cons_append, evL, ih]
    split <;> rfl
theorem odL_snoc : ∀ (L : List Int) (a : Int), odL (L ++ [a]) = if L.length % 2 = 0 then odL L else odL L ++ [a]
  | [], a => rfl
  | [b], a => rfl
  | b :: c :: l, a => by
    have ih := odL_snoc l a
    have : (b :: c :: l).length % 2 = l.length % 2 := by simp only [List.length_cons]; omega
    rw [this]
    simp only [List.cons_append, odL, ih]
    split <;> rfl
theorem ev_len : ∀ (L : List Int), (evL L).length = (L.length + 1) / 2 ∧ (odL L).length = L.length / 2
  | [] => ⟨rfl, rfl⟩
  | [b] => by simp [evL, odL]
  | b :: c :: l => by
    have ⟨h1, h2⟩ := ev_len l
    simp only [evL, odL, List.length_cons, h1, h2]; omega
theorem ev_w : ∀ (L : List Int), wV L → wV (evL L) ∧ wV (odL L)
  | [], h => ⟨h, h⟩
  | [b], h => ⟨h, by intro v hv; cases hv⟩
  | b :: c :: l, h => by
    have ⟨h1, h2⟩ := ev_w l fun v hv => h v (by simp [hv])
    constructor
    · intro v hv; rcases List.mem_cons.1 hv with rfl | hv
      · exact h v (by simp)
      · exact h1 v hv
    · intro v hv; rcases List.mem_cons.1 hv with rfl | hv
      · exact h v (by simp)
      · exact h2 v hv
def upF (w : Int) (e o : List Int) (j : Nat) : Int := (e[j]?.getD 0 + pwq w j * (o[j]?.getD 0) % 288230376287764481) % 288230376287764481
def dnF (w : Int) (e o : List Int) (j : Nat) : Int := (e[j]?.getD 0 - pwq w j * (o[j]?.getD 0) % 288230376287764481) % 288230376287764481
def turnF : Nat → Int → List Int → List Int
  | 0, _, p => [(p[0]?.getD 0) % 288230376287764481]
  | k + 1, w, p => (List.range (2 ^ k)).map (upF w (turnF k (w * w % 288230376287764481) (evL p)) (turnF k (w * w % 288230376287764481) (odL p))) ++ (List.range (2 ^ k)).map (dnF w (turnF k (w * w % 288230376287764481) (evL p)) (turnF k (w * w % 288230376287764481) (odL p)))
theorem turnF_len : ∀ k w p, (turnF k w p).length = 2 ^ k
  | 0, w, p => rfl
  | k + 1, w, p => by simp [turnF, Nat.pow_succ]; omega
theorem turnF_w : ∀ k w p, wV (turnF k w p)
  | 0, w, p => by intro v hv; simp [turnF] at hv; rw [hv]; exact w64_r _
  | k + 1, w, p => by
    intro v hv
    simp only [turnF] at hv
    rcases List.mem_append.1 hv with hv | hv <;> obtain ⟨j, _, rfl⟩ := List.mem_map.1 hv <;> exact w64_r _
theorem turn_fz {k : Nat} {w : Int} {p : List Int} (hp : p.length = 2 ^ k) (h : Fn Try.prog 83 [ul p, u w] [] (Tells (.ref 1000 0 p.length 1) [(1000, blk (turnF k w p))])) : Fn Try.prog 83 [ul p, u w] [] (fun r _ => r = ul (turnF k w p)) := by
  refine (Fn.frozen h (frees_fm (fun _ => rfl) _)).mono ?_
  rintro r _ rfl
  show AV.sl p.length (sub 0 (p.length * 1) (fm u1 (turnF k w p))) = AV.sl (turnF k w p).length (fm u1 (turnF k w p))
  rw [sub_all (Nat.le_of_eq (by rw [fml, turnF_len, Nat.mul_one, hp])), hp, turnF_len]
theorem upL_app_set (f g : Nat → Int) {H j : Nat} (h : j < H) : ((upL f H j ++ upL g H j).set j (f j)).set (H + j) (g j) = upL f H (j + 1) ++ upL g H (j + 1) := by
  have l1 := upL_len f (Nat.le_of_lt h)
  rw [List.set_append_left _ _ (by rw [l1]; exact h), upL_set f h]
  have l2 := upL_len f (j := j + 1) (n := H) h
  rw [List.set_append_right _ _ (by rw [l2]; omega), l2, Nat.add_sub_cancel_left, upL_set g h]
set_option maxHeartbeats 4000000 in
theorem poly_turn_0 {w : Int} {p : List Int} (hp : p.length = 1) (hpw : wV p) (hw : w64 w) : Fn Try.prog 83 [ul p, u w] [] (Tells (.ref 1000 0 p.length 1) [(1000, blk (turnF 0 w p))]) := by
  refine Fn.enter Try.func83 Try.ntmps83 rfl (h := ?_)
  have tf := tfr
  have ot_ : (false || true) = true := rfl
  obtain ⟨a, rfl⟩ : ∃ a, p = [a] := by
    cases p with
    | nil => cases hp
    | cons a l => cases l with
      | nil => exact ⟨a, rfl⟩
      | cons b l => simp at hp
  have ha := hpw a (by simp)
  have hdr : fm u1 [a] = [u a] := rfl
  have r0 : ¬ (288230376287764481 : Int) = 0 := by decide
  have tm := tmod_nn (m := 288230376287764481) ha.1
  have z0 : (0:Int) ≤ 0 := by decide
  have z1 : (0:Int) < ((1 : Nat) : Int) := by decide
  have z2 : (((1 : Nat) : Int) == 1) = true := by decide
  have z3 : (1:Nat) ≤ 16777216 := by decide
  repeat refine AW.seq ?_
  refine AW.reg ?_
  iterate 1 refine AOL.s1 (h := ?_)
  refine AOL.nil ?_
  refine AW.kq [0, 1] (h := ?_)
  repeat refine AW.seq ?_
  refine AW.reg ?_
  iterate 3 refine AOL.s1 (h := ?_)
  refine AOL.nil ?_
  refine AW.kq [0, 1, 18] (h := ?_)
  repeat refine AW.seq ?_
  refine AW.cond rfl (fun c_ => ?_) (fun c_ => ?_)
  · skip
    repeat refine AW.seq ?_
    refine AW.reg ?_
    iterate 6 refine AOL.s1 (h := ?_)
    refine AOL.nil ?_
    refine AW.kq [4] (h := ?_)
    repeat refine AW.seq ?_
    refine AW.ret ?_
    refine ⟨_, [(1368, _)], rfl, (fun p_ hp_ => by simp only [List.mem_singleton] at hp_; subst hp_; first | exact List.mem_cons_self | exact List.mem_cons_of_mem _ List.mem_cons_self | exact List.mem_cons_of_mem _ (List.mem_cons_of_mem _ List.mem_cons_self)), ?_⟩
    refine Tells.one 1368 (by decide) ?_
    first | rfl | exact frees_fm (fun _ => rfl) _
    skip
  cases c_
set_option maxHeartbeats 16000000 in
theorem poly_turn_s {k : Nat} (ih : ∀ {w : Int} {p : List Int}, p.length = 2 ^ k → wV p → w64 w → Fn Try.prog 83 [ul p, u w] [] (Tells (.ref 1000 0 p.length 1) [(1000, blk (turnF k w p))])) (hk : k + 1 ≤ 12) {w : Int} {p : List Int} (hp : p.length = 2 ^ (k + 1)) (hpw : wV p) (hw : w64 w) : Fn Try.prog 83 [ul p, u w] [] (Tells (.ref 1000 0 p.length 1) [(1000, blk (turnF (k + 1) w p))]) := by
  refine Fn.enter Try.func83 Try.ntmps83 rfl (h := ?_)
  have tf := tfr
  have ot_ : (false || true) = true := rfl
  obtain ⟨t1, t2⟩ := two_le (k := k + 1) hk
  obtain ⟨t3, t4⟩ := two_le (k := k) (by omega)
  have hH : 2 ^ (k + 1) = 2 ^ k + 2 ^ k := by rw [Nat.pow_succ]; omega
  obtain ⟨le, lo⟩ := ev_len p
  obtain ⟨we, wo⟩ := ev_w p hpw
  have he : (evL p).length = 2 ^ k := by omega
  have ho : (odL p).length = 2 ^ k := by omega
  have ce := turn_fz (w := w * w % 288230376287764481) he (ih he we (w64_r _))
  have co := turn_fz (w := w * w % 288230376287764481) ho (ih ho wo (w64_r _))
  have hmk := mk64 (n := p.length) (by omega)
  have n1 : ((p.length : Int) == 1) = false := by
    have : ¬ (p.length : Int) = 1 := by omega
    simpa using this
  have t20 : ¬ (2:Int) = 0 := by decide
  have hdv : IntKind.i64.wrap (Int.tdiv (p.length : Int) 2) = ((2 ^ k : Nat) : Int) := by
    rw [Int.tdiv_eq_ediv_of_nonneg (by omega), wrapI_o (by omega) (by omega)]; omega
  have hf : turnF (k + 1) w p = (List.range (2 ^ k)).map (upF w (turnF k (w * w % 288230376287764481) (evL p)) (turnF k (w * w % 288230376287764481) (odL p))) ++ (List.range (2 ^ k)).map (dnF w (turnF k (w * w % 288230376287764481) (evL p)) (turnF k (w * w % 288230376287764481) (odL p))) := rfl
  have l1 := turnF_len k (w * w % 288230376287764481) (evL p)
  have l2 := turnF_len k (w * w % 288230376287764481) (odL p)
  have w1 := turnF_w k (w * w % 288230376287764481) (evL p)
  have w2 := turnF_w k (w * w % 288230376287764481) (odL p)
  rw [hf]
  have hpl : p.length ≤ 4096 := by omega
  replace hp := hid (hp.trans hH)
  replace he := hid he
  replace ho := hid ho
  clear hf ih le lo we wo t1 t2 hH
  generalize turnF k (w * w % 288230376287764481) (evL p) = e at *
  generalize turnF k (w * w % 288230376287764481) (odL p) = o at *
  generalize 2 ^ k = H at *
  replace l1 := hid l1
  replace l2 := hid l2
  repeat refine AW.seq ?_
  refine AW.reg ?_
  iterate 1 refine AOL.s1 (h := ?_)
  refine AOL.nil ?_
  refine AW.kq [0, 1] (h := ?_)
  repeat refine AW.seq ?_
  refine AW.reg ?_
  iterate 3 refine AOL.s1 (h := ?_)
  refine AOL.nil ?_
  refine AW.kq [0, 1, 18] (h := ?_)
  repeat refine AW.seq ?_
  refine AW.cond rfl (fun c_ => ?_) (fun c_ => ?_)
  · cases c_
  refine AW.skip ?_
  repeat refine AW.seq ?_
  refine AW.reg ?_
  iterate 2 refine AOL.s1 (h := ?_)
  refine AOL.nil ?_
  refine AW.kq [0, 1, 5, 6] (h := ?_)
  repeat refine AW.seq ?_
  refine AW.reg ?_
  iterate 3 refine AOL.s1 (h := ?_)
  refine AOL.nil ?_
  refine AW.kq [0, 1, 5, 6, 24, 25, 26] (h := ?_)
  repeat refine AW.seq ?_
  refine AW.block ?_
  repeat refine AW.seq ?_
  refine AW.born 5 1592 25 1 (.inl rfl) (h := ?_)
  refine AW.born 6 1656 25 1 (.inl rfl) (h := ?_)
  clear n1
  refine AW.loopK [0, 1, 5, 6, 24, 25, 26] (fun n' s => ∃ (j : Nat) (E0 O0 : List Int), s = ⟨94, [(0, ul p), (1, u w), (5, .ref 1592 0 E0.length 1), (6, .ref 1656 0 O0.length 1), (24, ul p), (25, i p.length), (26, i j)], [(1592, blk E0), (1656, blk O0)]⟩ ∧ j ≤ p.length ∧ n' = p.length - j ∧ evL (p.take j) = E0 ∧ odL (p.take j) = O0) (p.length) ?_ ?_
  · exact ⟨0, [], [], rfl, Nat.zero_le _, rfl, rfl, rfl⟩
  rintro n' s ⟨j, E0, O0, rfl, jp, rfl, hE, hO⟩
  repeat refine AW.seq ?_
  refine AW.reg ?_
  iterate 1 refine AOL.s1 (h := ?_)
  refine AOL.nil ?_
  refine AW.kq [0, 1, 5, 6, 24, 25, 26, 27] (h := ?_)
  repeat refine AW.seq ?_
  refine AW.cond rfl (fun c_ => ?_) (fun c_ => ?_)
  · have hj : j < p.length := by have : (j:Int) < p.length := by simpa using c_
                                 omega
    obtain ⟨v, hv, hvw, hvd⟩ := at_nat (V := p) (n := j) (by omega) hpw
    have j0 : (0:Int) ≤ j := by omega
    have j1 : (j:Int) < p.length := by omega
    have hiw := incq hj (by omega)
    have htake : p.take (j + 1) = p.take j ++ [v] := by rw [List.take_add_one, hv]; rfl
    have hlt : (p.take j).length = j := by rw [List.length_take]; omega
    have eE := evL_snoc (p.take j) v
    have eO := odL_snoc (p.take j) v
    rw [← htake, hlt, hE] at eE
    rw [← htake, hlt, hO] at eO
    have bE : E0.length ≤ 4096 := by rw [← hE, (ev_len _).1, hlt]; omega
    have bO : O0.length ≤ 4096 := by rw [← hO, (ev_len _).2, hlt]; omega
    have tm : Int.tmod (j:Int) 2 = ((j % 2 : Nat) : Int) := by rw [tmod_nn (by omega)]; omega
    clear hv htake hlt hE hO c_
    refine AW.skip ?_
    repeat refine AW.seq ?_
    refine AW.block ?_
    repeat refine AW.seq ?_
    refine AW.reg ?_
    iterate 5 refine AOL.s1 (h := ?_)
    refine AOL.nil ?_
    refine AW.kq [0, 1, 5, 6, 7, 8, 24, 25, 26] (h := ?_)
    repeat refine AW.seq ?_
    refine AW.reg ?_
    iterate 3 refine AOL.s1 (h := ?_)
    refine AOL.nil ?_
    refine AW.kq [0, 1, 5, 6, 8, 24, 25, 26, 33] (h := ?_)
    repeat refine AW.seq ?_
    refine AW.cond rfl (fun d_ => ?_) (fun d_ => ?_)
    · have hev : j % 2 = 0 := by have : ((j % 2 : Nat) : Int) = 0 := by simpa using d_
                                 omega
      rw [if_pos hev] at eE eO
      have f1 := fml E0
      have f2 : E0.length + 1 ≤ 140737488355328 := by omega
      have f3 : (E0.length + 1) * 8 ≤ 140737488355328 := by omega
      have f4 : E0.length + 1 ≤ 4611686018427387904 := by omega
      have f5 : E0.length ≤ 140737488355327 := by omega
      have f6 : E0.length ≤ 4611686018427387903 := by omega
      have f7 : fm u1 E0 ++ [u v] = fm u1 (E0 ++ [v]) := fm_snoc E0 v
      replace eE := hid eE
      replace eO := hid eO
      clear bE bO tm hev d_
      repeat refine AW.seq ?_
      refine AW.reg ?_
      iterate 5 refine AOL.s1 (h := ?_)
      refine AOL.nil ?_
      repeat refine AW.seq ?_
      refine AW.let 1576 (h := ?_)
      refine AW.let 1640 (h := ?_)
      refine AW.reg ?_
      iterate 2 refine AOL.s1 (h := ?_)
      refine AOL.nil ?_
      exact ⟨p.length - (j + 1), by omega, j + 1, E0 ++ [v], O0, by rw [List.length_append]; rfl, hj, rfl, eE, eO⟩
    · have hev : ¬ j % 2 = 0 := by
        intro h; have : ((j % 2 : Nat) : Int) = 0 := by omega
        rw [this] at d_; cases d_
      rw [if_neg hev] at eE eO
      have f1 := fml O0
      have f2 : O0.length + 1 ≤ 140737488355328 := by omega
      have f3 : (O0.length + 1) * 8 ≤ 140737488355328 := by omega
      have f4 : O0.length + 1 ≤ 4611686018427387904 := by omega
      have f5 : O0.length ≤ 140737488355327 := by omega
      have f6 : O0.length ≤ 4611686018427387903 := by omega
      have f7 : fm u1 O0 ++ [u v] = fm u1 (O0 ++ [v]) := fm_snoc O0 v
      replace eE := hid eE
      replace eO := hid eO
      clear bE bO tm hev d_
      repeat refine AW.seq ?_
      refine AW.reg ?_
      iterate 5 refine AOL.s1 (h := ?_)
      refine AOL.nil ?_
      repeat refine AW.seq ?_
      refine AW.let 1576 (h := ?_)
      refine AW.let 1640 (h := ?_)
      refine AW.reg ?_
      iterate 2 refine AOL.s1 (h := ?_)
      refine AOL.nil ?_
      exact ⟨p.length - (j + 1), by omega, j + 1, E0, O0 ++ [v], by rw [List.length_append]; rfl, hj, rfl, eE, eO⟩
  · have hj : j = p.length := by have : ¬ (j:Int) < p.length := by simpa using c_
                                 omega
    subst hj
    rw [List.take_length] at hE hO
    subst hE hO
    have hse : sub 0 ((evL p).length * 1) (fm u1 (evL p)) = fm u1 (evL p) := sub_all (Nat.le_of_eq (by rw [fml, Nat.mul_one]))
    have hso : sub 0 ((odL p).length * 1) (fm u1 (odL p)) = fm u1 (odL p) := sub_all (Nat.le_of_eq (by rw [fml, Nat.mul_one]))
    repeat refine AW.seq ?_
    refine AW.exit ?_
    repeat (first | refine Kseq.ex ?_ | refine Kloop.ex ?_ | refine Kblock.miss (by decide) ?_)
    refine Kblock.hit ?_
    refine AW.kq [0, 1, 5, 6] (h := ?_)
    refine AW.fz 1592 rfl (fun h => by cases h) (h := ?_)
    refine AW.fz 1656 rfl (fun h => by cases h) (h := ?_)
    rw [hse, hso]
    clear hse hso
    repeat refine AW.seq ?_
    refine AW.reg ?_
    iterate 3 refine AOL.s1 (h := ?_)
    refine AOL.callD rfl (poly_mul_c hw hw) (by kernel_rfl) rfl rfl (h := ?_)
    refine AOL.callD rfl (ce) (by kernel_rfl) rfl rfl (h := ?_)
    iterate 3 refine AOL.s1 (h := ?_)
    refine AOL.callD rfl (poly_mul_c hw hw) (by kernel_rfl) rfl rfl (h := ?_)
    refine AOL.callD rfl (co) (by kernel_rfl) rfl rfl (h := ?_)
    iterate 2 refine AOL.s1 (h := ?_)
    refine AOL.nil ?_
    refine AW.kq [0, 1, 9, 10] (h := ?_)
    repeat refine AW.seq ?_
    refine AW.reg ?_
    iterate 4 refine AOL.s1 (h := ?_)
    refine AOL.nil ?_
    refine AW.kq [0, 1, 9, 10, 11] (h := ?_)
    repeat refine AW.seq ?_
    refine AW.reg ?_
    iterate 5 refine AOL.s1 (h := ?_)
    refine AOL.nil ?_
    refine AW.kq [1, 9, 10, 11, 12, 13] (h := ?_)
    repeat refine AW.seq ?_
    refine AW.reg ?_
    iterate 2 refine AOL.s1 (h := ?_)
    refine AOL.nil ?_
    refine AW.kq [1, 9, 10, 11, 12, 13, 59, 60] (h := ?_)
    repeat refine AW.seq ?_
    refine AW.block ?_
    repeat refine AW.seq ?_
    clear ce co hmk hdv
    refine AW.loopK [1, 9, 10, 11, 12, 13, 59, 60] (fun n s => ∃ (j : Nat), s = ⟨94, [(1, u w), (9, ul e), (10, ul o), (11, .ref 1880 0 p.length 1), (12, u (pwq w j)), (13, i H), (59, i H), (60, i j)], [(1880, blk (upL (upF w e o) H j ++ upL (dnF w e o) H j))]⟩ ∧ j ≤ H ∧ n = H - j) (H) ?_ ?_
    · exact ⟨0, by
    have hp' : p.length = H + H := hp
    rw [upL_zero, upL_zero, List.replicate_append_replicate, ← hp']; rfl, Nat.zero_le _, rfl⟩
    rintro n s ⟨j, rfl, jH, rfl⟩
    repeat refine AW.seq ?_
    refine AW.reg ?_
    iterate 1 refine AOL.s1 (h := ?_)
    refine AOL.nil ?_
    refine AW.kq [1, 9, 10, 11, 12, 13, 59, 60, 61] (h := ?_)
    repeat refine AW.seq ?_
    refine AW.cond rfl (fun d_ => ?_) (fun d_ => ?_)
    · have hp' : p.length = H + H := hp
      have l1' : e.length = H := l1
      have l2' : o.length = H := l2
      have hj : j < H := by have : (j:Int) < H := by simpa using d_
                            omega
      obtain ⟨a, ha, haw, had⟩ := at_nat (V := e) (n := j) (by omega) w1
      obtain ⟨b, hb, hbw, hbd⟩ := at_nat (V := o) (n := j) (by omega) w2
      have j0 : (0:Int) ≤ j := by omega
      have je : (j:Int) < e.length := by omega
      have jo : (j:Int) < o.length := by omega
      have jp : (j:Int) < p.length := by omega
      have hiw := incq hj (by omega)
      have hjw : IntKind.i64.wrap ((H:Int) + j) = ((H + j : Nat) : Int) := by rw [wrapI_o (by omega) (by omega)]; rfl
      have k0 : (0:Int) ≤ ((H + j : Nat) : Int) := by omega
      have kp : ((H + j : Nat) : Int) < p.length := by omega
      have hpw' := pw_w w j
      have vu : upF w e o j = (a + pwq w j * b % 288230376287764481) % 288230376287764481 := by simp only [upF, ha, hb, Option.getD_some]
      have vd : dnF w e o j = (a - pwq w j * b % 288230376287764481) % 288230376287764481 := by simp only [dnF, ha, hb, Option.getD_some]
      have lf := upL_len (upF w e o) (Nat.le_of_lt hj)
      have lg_ := upL_len (dnF w e o) (Nat.le_of_lt hj)
      have hM : (upL (upF w e o) H j ++ upL (dnF w e o) H j).length = p.length := by rw [List.length_append, lf, lg_]; omega
      have hset := upL_app_set (upF w e o) (dnF w e o) hj
      rw [vu, vd] at hset
      clear vu vd ha hb lf lg_ d_
      generalize upL (upF w e o) H j ++ upL (dnF w e o) H j = M at *
      have s1 := fset M j ((a + pwq w j * b % 288230376287764481) % 288230376287764481)
      have q1 := fml M
      rw [hM] at q1
      have hM1 : (M.set j ((a + pwq w j * b % 288230376287764481) % 288230376287764481)).length = p.length := by rw [List.length_set, hM]
      generalize hm1 : M.set j ((a + pwq w j * b % 288230376287764481) % 288230376287764481) = M1 at *
      have s2 := fset M1 (H + j) ((a - pwq w j * b % 288230376287764481) % 288230376287764481)
      rw [hset] at s2
      have q2 := fml M1
      rw [hM1] at q2
      have b1 : j + 1 ≤ p.length := by omega
      have b2 : H + j + 1 ≤ p.length := by omega
      clear hM hM1 hset hp' l1' l2' hm1
      refine AW.skip ?_
      repeat refine AW.seq ?_
      refine AW.block ?_
      repeat refine AW.seq ?_
      refine AW.reg ?_
      iterate 2 refine AOL.s1 (h := ?_)
      refine AOL.nil ?_
      refine AW.kq [1, 9, 10, 11, 12, 13, 14, 59, 60] (h := ?_)
      repeat refine AW.seq ?_
      refine AW.reg ?_
      iterate 5 refine AOL.s1 (h := ?_)
      refine AOL.callD rfl (poly_mul_c hpw' hbw) (by kernel_rfl) rfl rfl (h := ?_)
      iterate 1 refine AOL.s1 (h := ?_)
      refine AOL.nil ?_
      refine AW.kq [1, 9, 10, 11, 12, 13, 14, 15, 59, 60] (h := ?_)
      repeat refine AW.seq ?_
      refine AW.dw [(19, 1880, blk M1)] 20 [] (by kernel_rfl) (h := ?_)
      iterate 11 refine ADLW.d1 (h := ?_)
      refine ADLW.call rfl rfl (modular_Add_c hR haw (w64_r _)) (by kernel_rfl) rfl rfl (by simp only [List.cons_append, List.nil_append]; exact rfl) ?_
      iterate 5 refine ADLW.d1 (h := ?_)
      refine ADLW.call rfl rfl (modular_Sub_c hR haw (w64_r _)) (by kernel_rfl) rfl rfl (by simp only [List.cons_append, List.nil_append]; exact rfl) ?_
      iterate 1 refine ADLW.d1 (h := ?_)
      refine ADLW.st (h := ?_)
      refine ADLW.fin hmix rfl rfl rfl rfl (hT := ?_)
      iterate 2 refine AOL.s1 (h := ?_)
      refine AOL.nil ?_
      refine AW.kq [1, 9, 10, 11, 12, 13, 59, 60] (h := ?_)
      repeat refine AW.seq ?_
      refine AW.reg ?_
      iterate 2 refine AOL.s1 (h := ?_)
      refine AOL.callD rfl (poly_mul_c hpw' hw) (by kernel_rfl) rfl rfl (h := ?_)
      iterate 1 refine AOL.s1 (h := ?_)
      refine AOL.nil ?_
      repeat refine AW.seq ?_
      refine AW.reg ?_
      iterate 2 refine AOL.s1 (h := ?_)
      refine AOL.nil ?_
      exact ⟨H - (j + 1), by omega, j + 1, rfl, hj, rfl⟩
    · have hj : j = H := by have : ¬ (j:Int) < H := by simpa using d_
                            omega
      subst hj
      rw [upL_full, upL_full]
      repeat refine AW.seq ?_
      refine AW.exit ?_
      repeat (first | refine Kseq.ex ?_ | refine Kloop.ex ?_ | refine Kblock.miss (by decide) ?_)
      refine Kblock.hit ?_
      refine AW.kq [11] (h := ?_)
      repeat refine AW.seq ?_
      refine AW.reg ?_
      iterate 2 refine AOL.s1 (h := ?_)
      refine AOL.nil ?_
      refine AW.kq [4] (h := ?_)
      repeat refine AW.seq ?_
      refine AW.ret ?_
      refine ⟨_, [(1880, _)], rfl, (fun p_ hp_ => by simp only [List.mem_singleton] at hp_; subst hp_; first | exact List.mem_cons_self | exact List.mem_cons_of_mem _ List.mem_cons_self | exact List.mem_cons_of_mem _ (List.mem_cons_of_mem _ List.mem_cons_self)), ?_⟩
      refine Tells.one 1880 (by decide) ?_
      first | rfl | exact frees_fm (fun _ => rfl) _
      skip
end Go.Proofs.Ytdbpjegocmdplaa.E.M

