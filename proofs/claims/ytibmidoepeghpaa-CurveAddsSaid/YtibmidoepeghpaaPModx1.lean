-- written for this claim by a program of this session (an adapted printer)
import Derived.Test.YtibmidoepeghpaaPModx0
namespace Go.Proofs.Ytibmidoepeghpaa.PMod
open Go.Proofs.Ytibmidoepeghpaa.G
open Go.RowKit Go.Proofs.YtibmidoepeghpaaW.PrintWords Go.Proofs.YtibmidoepeghpaaW.PrintLast Go.Proofs.YtibmidoepeghpaaW.PrintMore
attribute [local go_sem] max2_int min2_int max_two min_two max_three min_three max_four min_four   -- for this text's walks alone
set_option linter.unusedVariables false
set_option linter.unusedSimpArgs false

/-! ### modular_no: function 66 -/
def modular_no.f (a0 : Int) : Option (Bool) := if a0 < 2 then (some true) else (some (decide (a0 > 4611686018427387904)))
set_option maxHeartbeats 8000000 in
set_option maxRecDepth 100000 in
theorem modular_no.calls (a0 : Int) (r : Bool) (w : World) (h : modular_no.f a0 = some r) :
    Calls Try.prog 66 #[.int .u64 a0] w fun e w' => e = .returned (.bool r) ∧ Drawn0 w w' := by
  have H : (if a0 < 2 then (some true) else (some (decide (a0 > 4611686018427387904)))) = some r := h
  clear h
  by_cases c2 : a0 < 2
  · rw [if_pos c2] at H
    have c2b0 : decide (a0 < 2) = true := decide_eq_true c2
    clear c2
    obtain rfl := Option.some.inj H
    go_enter Try.func66, Try.ntmps66
    go_wp2
    go_ret
    exact ⟨by first | rfl | (simp; done) | (simp [*]; done), by repeat (first | exact Drawn0.refl _ | apply Drawn0.step)⟩
  · rw [if_neg c2] at H
    have c2b0 : decide (a0 < 2) = false := decide_eq_false c2
    clear c2
    obtain rfl := Option.some.inj H
    go_enter Try.func66, Try.ntmps66
    go_wp2
    go_ret
    exact ⟨by first | rfl | (simp; done) | (simp [*]; done), by repeat (first | exact Drawn0.refl _ | apply Drawn0.step)⟩

/-! ### modular_Add: function 52 -/
def modular_Add.f (a0 : Int) (a1 : Int) (a2 : Int) : Option (Int) := (modular_no.f a0).bind fun t101 => (if t101 = true then (some 0) else (if a0 = 0 then (none) else (some (Int.tmod (IntKind.u64.wrap ((Int.tmod a1 a0) + (Int.tmod a2 a0))) a0))))
set_option maxHeartbeats 8000000 in
set_option maxRecDepth 100000 in
theorem modular_Add.calls (a0 : Int) (a1 : Int) (a2 : Int) (r : Int) (w : World) (h : modular_Add.f a0 a1 a2 = some r) :
    Calls Try.prog 52 #[.int .u64 a0, .int .u64 a1, .int .u64 a2] w fun e w' => e = .returned (.int .u64 r) ∧ Drawn0 w w' := by
  have H : ((modular_no.f a0).bind fun t101 => (if t101 = true then (some 0) else (if a0 = 0 then (none) else (some (Int.tmod (IntKind.u64.wrap ((Int.tmod a1 a0) + (Int.tmod a2 a0))) a0))))) = some r := h
  clear h
  replace H := Option.bind_eq_some_iff.mp H
  obtain ⟨t101, A40, H⟩ := H
  replace H : (if t101 = true then (some 0) else (if a0 = 0 then (none) else (some (Int.tmod (IntKind.u64.wrap ((Int.tmod a1 a0) + (Int.tmod a2 a0))) a0)))) = some r := H
  have A4 := Aside0.mk A40
  clear A40
  by_cases c5 : t101 = true
  · subst c5
    have H1 : (some 0) = some r := by rw [if_pos rfl] at H; exact H
    clear H
    have H := H1
    clear H1
    obtain rfl := Option.some.inj H
    go_enter Try.func52, Try.ntmps52
    go_wp2_with (first | (go_at_call 66; (with_reducible refine (modular_no.calls a0 true _ A4.out).mono ?_); rintro e w' ⟨rfl, ⟨nd, rfl⟩⟩; (try first | exact ⟨rfl, _, World.drewN_drewN _ _ _⟩ | exact ⟨rfl, _, Eq.trans (World.drewN_drewN _ _ _) (congrArg (World.drewN _) (Nat.add_assoc _ _ _))⟩)))
    repeat (go_quiet (first | (go_at_call 66; (with_reducible refine (modular_no.calls a0 true _ A4.out).mono ?_); rintro e w' ⟨rfl, ⟨nd, rfl⟩⟩; (try first | exact ⟨rfl, _, World.drewN_drewN _ _ _⟩ | exact ⟨rfl, _, Eq.trans (World.drewN_drewN _ _ _) (congrArg (World.drewN _) (Nat.add_assoc _ _ _))⟩))); try go_wp2_with (first | (go_at_call 66; (with_reducible refine (modular_no.calls a0 true _ A4.out).mono ?_); rintro e w' ⟨rfl, ⟨nd, rfl⟩⟩; (try first | exact ⟨rfl, _, World.drewN_drewN _ _ _⟩ | exact ⟨rfl, _, Eq.trans (World.drewN_drewN _ _ _) (congrArg (World.drewN _) (Nat.add_assoc _ _ _))⟩))))
    go_ret
    exact ⟨by first | rfl | (simp; done) | (simp [*]; done), by repeat (first | exact Drawn0.refl _ | apply Drawn0.step)⟩
  · replace c5 := Bool.eq_false_iff.mpr c5
    subst c5
    have H1 : (if a0 = 0 then (none) else (some (Int.tmod (IntKind.u64.wrap ((Int.tmod a1 a0) + (Int.tmod a2 a0))) a0))) = some r := by rw [if_neg (show ¬ (false = true) by decide)] at H; exact H
    clear H
    have H := H1
    clear H1
    by_cases c6 : a0 = 0
    · rw [if_pos c6] at H
      exact absurd H (by simp)
    · rw [if_neg c6] at H
      have c6b0 : (a0 == 0) = false := beq_eq_false_iff_ne.mpr c6
      have c6b1 : (a0 != 0) = true := bne_iff_ne.mpr c6
      obtain rfl := Option.some.inj H
      go_enter Try.func52, Try.ntmps52
      go_wp2_with (first | (go_at_call 66; (with_reducible refine (modular_no.calls a0 false _ A4.out).mono ?_); rintro e w' ⟨rfl, ⟨nd, rfl⟩⟩; (try first | exact ⟨rfl, _, World.drewN_drewN _ _ _⟩ | exact ⟨rfl, _, Eq.trans (World.drewN_drewN _ _ _) (congrArg (World.drewN _) (Nat.add_assoc _ _ _))⟩)))
      repeat (go_quiet (first | (go_at_call 66; (with_reducible refine (modular_no.calls a0 false _ A4.out).mono ?_); rintro e w' ⟨rfl, ⟨nd, rfl⟩⟩; (try first | exact ⟨rfl, _, World.drewN_drewN _ _ _⟩ | exact ⟨rfl, _, Eq.trans (World.drewN_drewN _ _ _) (congrArg (World.drewN _) (Nat.add_assoc _ _ _))⟩))); try go_wp2_with (first | (go_at_call 66; (with_reducible refine (modular_no.calls a0 false _ A4.out).mono ?_); rintro e w' ⟨rfl, ⟨nd, rfl⟩⟩; (try first | exact ⟨rfl, _, World.drewN_drewN _ _ _⟩ | exact ⟨rfl, _, Eq.trans (World.drewN_drewN _ _ _) (congrArg (World.drewN _) (Nat.add_assoc _ _ _))⟩))))
      go_ret
      exact ⟨by first | rfl | (simp; done) | (simp [*]; done), by repeat (first | exact Drawn0.refl _ | apply Drawn0.step)⟩

/-! ### modular_Sub: function 64 -/
def modular_Sub.f (a0 : Int) (a1 : Int) (a2 : Int) : Option (Int) := (modular_no.f a0).bind fun t102 => (if t102 = true then (some 0) else (if a0 = 0 then (none) else (some (Int.tmod (IntKind.u64.wrap ((IntKind.u64.wrap ((Int.tmod a1 a0) + a0)) - (Int.tmod a2 a0))) a0))))
set_option maxHeartbeats 8000000 in
set_option maxRecDepth 100000 in
theorem modular_Sub.calls (a0 : Int) (a1 : Int) (a2 : Int) (r : Int) (w : World) (h : modular_Sub.f a0 a1 a2 = some r) :
    Calls Try.prog 64 #[.int .u64 a0, .int .u64 a1, .int .u64 a2] w fun e w' => e = .returned (.int .u64 r) ∧ Drawn0 w w' := by
  have H : ((modular_no.f a0).bind fun t102 => (if t102 = true then (some 0) else (if a0 = 0 then (none) else (some (Int.tmod (IntKind.u64.wrap ((IntKind.u64.wrap ((Int.tmod a1 a0) + a0)) - (Int.tmod a2 a0))) a0))))) = some r := h
  clear h
  replace H := Option.bind_eq_some_iff.mp H
  obtain ⟨t102, A40, H⟩ := H
  replace H : (if t102 = true then (some 0) else (if a0 = 0 then (none) else (some (Int.tmod (IntKind.u64.wrap ((IntKind.u64.wrap ((Int.tmod a1 a0) + a0)) - (Int.tmod a2 a0))) a0)))) = some r := H
  have A4 := Aside0.mk A40
  clear A40
  by_cases c5 : t102 = true
  · subst c5
    have H1 : (some 0) = some r := by rw [if_pos rfl] at H; exact H
    clear H
    have H := H1
    clear H1
    obtain rfl := Option.some.inj H
    go_enter Try.func64, Try.ntmps64
    go_wp2_with (first | (go_at_call 66; (with_reducible refine (modular_no.calls a0 true _ A4.out).mono ?_); rintro e w' ⟨rfl, ⟨nd, rfl⟩⟩; (try first | exact ⟨rfl, _, World.drewN_drewN _ _ _⟩ | exact ⟨rfl, _, Eq.trans (World.drewN_drewN _ _ _) (congrArg (World.drewN _) (Nat.add_assoc _ _ _))⟩)))
    repeat (go_quiet (first | (go_at_call 66; (with_reducible refine (modular_no.calls a0 true _ A4.out).mono ?_); rintro e w' ⟨rfl, ⟨nd, rfl⟩⟩; (try first | exact ⟨rfl, _, World.drewN_drewN _ _ _⟩ | exact ⟨rfl, _, Eq.trans (World.drewN_drewN _ _ _) (congrArg (World.drewN _) (Nat.add_assoc _ _ _))⟩))); try go_wp2_with (first | (go_at_call 66; (with_reducible refine (modular_no.calls a0 true _ A4.out).mono ?_); rintro e w' ⟨rfl, ⟨nd, rfl⟩⟩; (try first | exact ⟨rfl, _, World.drewN_drewN _ _ _⟩ | exact ⟨rfl, _, Eq.trans (World.drewN_drewN _ _ _) (congrArg (World.drewN _) (Nat.add_assoc _ _ _))⟩))))
    go_ret
    exact ⟨by first | rfl | (simp; done) | (simp [*]; done), by repeat (first | exact Drawn0.refl _ | apply Drawn0.step)⟩
  · replace c5 := Bool.eq_false_iff.mpr c5
    subst c5
    have H1 : (if a0 = 0 then (none) else (some (Int.tmod (IntKind.u64.wrap ((IntKind.u64.wrap ((Int.tmod a1 a0) + a0)) - (Int.tmod a2 a0))) a0))) = some r := by rw [if_neg (show ¬ (false = true) by decide)] at H; exact H
    clear H
    have H := H1
    clear H1
    by_cases c6 : a0 = 0
    · rw [if_pos c6] at H
      exact absurd H (by simp)
    · rw [if_neg c6] at H
      have c6b0 : (a0 == 0) = false := beq_eq_false_iff_ne.mpr c6
      have c6b1 : (a0 != 0) = true := bne_iff_ne.mpr c6
      obtain rfl := Option.some.inj H
      go_enter Try.func64, Try.ntmps64
      go_wp2_with (first | (go_at_call 66; (with_reducible refine (modular_no.calls a0 false _ A4.out).mono ?_); rintro e w' ⟨rfl, ⟨nd, rfl⟩⟩; (try first | exact ⟨rfl, _, World.drewN_drewN _ _ _⟩ | exact ⟨rfl, _, Eq.trans (World.drewN_drewN _ _ _) (congrArg (World.drewN _) (Nat.add_assoc _ _ _))⟩)))
      repeat (go_quiet (first | (go_at_call 66; (with_reducible refine (modular_no.calls a0 false _ A4.out).mono ?_); rintro e w' ⟨rfl, ⟨nd, rfl⟩⟩; (try first | exact ⟨rfl, _, World.drewN_drewN _ _ _⟩ | exact ⟨rfl, _, Eq.trans (World.drewN_drewN _ _ _) (congrArg (World.drewN _) (Nat.add_assoc _ _ _))⟩))); try go_wp2_with (first | (go_at_call 66; (with_reducible refine (modular_no.calls a0 false _ A4.out).mono ?_); rintro e w' ⟨rfl, ⟨nd, rfl⟩⟩; (try first | exact ⟨rfl, _, World.drewN_drewN _ _ _⟩ | exact ⟨rfl, _, Eq.trans (World.drewN_drewN _ _ _) (congrArg (World.drewN _) (Nat.add_assoc _ _ _))⟩))))
      go_ret
      exact ⟨by first | rfl | (simp; done) | (simp [*]; done), by repeat (first | exact Drawn0.refl _ | apply Drawn0.step)⟩

/-! ### modular_Mul: function 67 -/
def modular_Mul.f (a0 : Int) (a1 : Int) (a2 : Int) : Option (Int) := (modular_no.f a0).bind fun t103 => (if t103 = true then (some 0) else (if a0 = 0 then (none) else ((bits_Mul64.f (Int.tmod a1 a0) (Int.tmod a2 a0)).bind fun bt104 => ((bits_Div64.f bt104.1 bt104.2 a0).bind fun bt106 => (some bt106.2)))))
set_option maxHeartbeats 8000000 in
set_option maxRecDepth 100000 in
theorem modular_Mul.calls (a0 : Int) (a1 : Int) (a2 : Int) (r : Int) (w : World) (h : modular_Mul.f a0 a1 a2 = some r) :
    Calls Try.prog 67 #[.int .u64 a0, .int .u64 a1, .int .u64 a2] w fun e w' => e = .returned (.int .u64 r) ∧ Drawn0 w w' := by
  have H : ((modular_no.f a0).bind fun t103 => (if t103 = true then (some 0) else (if a0 = 0 then (none) else ((bits_Mul64.f (Int.tmod a1 a0) (Int.tmod a2 a0)).bind fun bt104 => ((bits_Div64.f bt104.1 bt104.2 a0).bind fun bt106 => (some bt106.2)))))) = some r := h
  clear h
  replace H := Option.bind_eq_some_iff.mp H
  obtain ⟨t103, A40, H⟩ := H
  replace H : (if t103 = true then (some 0) else (if a0 = 0 then (none) else ((bits_Mul64.f (Int.tmod a1 a0) (Int.tmod a2 a0)).bind fun bt104 => ((bits_Div64.f bt104.1 bt104.2 a0).bind fun bt106 => (some bt106.2))))) = some r := H
  have A4 := Aside0.mk A40
  clear A40
  by_cases c5 : t103 = true
  · subst c5
    have H1 : (some 0) = some r := by rw [if_pos rfl] at H; exact H
    clear H
    have H := H1
    clear H1
    obtain rfl := Option.some.inj H
    go_enter Try.func67, Try.ntmps67
    go_wp2_with (first | (go_at_call 66; (with_reducible refine (modular_no.calls a0 true _ A4.out).mono ?_); rintro e w' ⟨rfl, ⟨nd, rfl⟩⟩; (try first | exact ⟨rfl, _, World.drewN_drewN _ _ _⟩ | exact ⟨rfl, _, Eq.trans (World.drewN_drewN _ _ _) (congrArg (World.drewN _) (Nat.add_assoc _ _ _))⟩)))
    repeat (go_quiet (first | (go_at_call 66; (with_reducible refine (modular_no.calls a0 true _ A4.out).mono ?_); rintro e w' ⟨rfl, ⟨nd, rfl⟩⟩; (try first | exact ⟨rfl, _, World.drewN_drewN _ _ _⟩ | exact ⟨rfl, _, Eq.trans (World.drewN_drewN _ _ _) (congrArg (World.drewN _) (Nat.add_assoc _ _ _))⟩))); try go_wp2_with (first | (go_at_call 66; (with_reducible refine (modular_no.calls a0 true _ A4.out).mono ?_); rintro e w' ⟨rfl, ⟨nd, rfl⟩⟩; (try first | exact ⟨rfl, _, World.drewN_drewN _ _ _⟩ | exact ⟨rfl, _, Eq.trans (World.drewN_drewN _ _ _) (congrArg (World.drewN _) (Nat.add_assoc _ _ _))⟩))))
    go_ret
    exact ⟨by first | rfl | (simp; done) | (simp [*]; done), by repeat (first | exact Drawn0.refl _ | apply Drawn0.step)⟩
  · replace c5 := Bool.eq_false_iff.mpr c5
    subst c5
    have H1 : (if a0 = 0 then (none) else ((bits_Mul64.f (Int.tmod a1 a0) (Int.tmod a2 a0)).bind fun bt104 => ((bits_Div64.f bt104.1 bt104.2 a0).bind fun bt106 => (some bt106.2)))) = some r := by rw [if_neg (show ¬ (false = true) by decide)] at H; exact H
    clear H
    have H := H1
    clear H1
    by_cases c6 : a0 = 0
    · rw [if_pos c6] at H
      exact absurd H (by simp)
    · rw [if_neg c6] at H
      have c6b0 : (a0 == 0) = false := beq_eq_false_iff_ne.mpr c6
      have c6b1 : (a0 != 0) = true := bne_iff_ne.mpr c6
      replace H := Option.bind_eq_some_iff.mp H
      obtain ⟨⟨t104, t105⟩, A70, H⟩ := H
      replace H : ((bits_Div64.f t104 t105 a0).bind fun bt106 => (some bt106.2)) = some r := H
      have A7 := Aside0.mk A70
      clear A70
      replace H := Option.bind_eq_some_iff.mp H
      obtain ⟨⟨t106, t107⟩, A80, H⟩ := H
      replace H : (some t107) = some r := H
      have A8 := Aside0.mk A80
      clear A80
      obtain rfl := Option.some.inj H
      go_enter Try.func67, Try.ntmps67
      go_wp2_with (first | (go_at_call 66; (with_reducible refine (modular_no.calls a0 false _ A4.out).mono ?_); rintro e w' ⟨rfl, ⟨nd, rfl⟩⟩; (try first | exact ⟨rfl, _, World.drewN_drewN _ _ _⟩ | exact ⟨rfl, _, Eq.trans (World.drewN_drewN _ _ _) (congrArg (World.drewN _) (Nat.add_assoc _ _ _))⟩)) | (go_at_call 73; (with_reducible refine (bits_Mul64.calls (Int.tmod a1 a0) (Int.tmod a2 a0) t104 t105 _ A7.out).mono ?_); rintro e w' ⟨rfl, ⟨nd, rfl⟩⟩; (try first | exact ⟨rfl, _, World.drewN_drewN _ _ _⟩ | exact ⟨rfl, _, Eq.trans (World.drewN_drewN _ _ _) (congrArg (World.drewN _) (Nat.add_assoc _ _ _))⟩)) | (go_at_call 74; (with_reducible refine (bits_Div64.calls t104 t105 a0 t106 t107 _ A8.out).mono ?_); rintro e w' ⟨rfl, ⟨nd, rfl⟩⟩; (try first | exact ⟨rfl, _, World.drewN_drewN _ _ _⟩ | exact ⟨rfl, _, Eq.trans (World.drewN_drewN _ _ _) (congrArg (World.drewN _) (Nat.add_assoc _ _ _))⟩)))
      repeat (go_quiet (first | (go_at_call 66; (with_reducible refine (modular_no.calls a0 false _ A4.out).mono ?_); rintro e w' ⟨rfl, ⟨nd, rfl⟩⟩; (try first | exact ⟨rfl, _, World.drewN_drewN _ _ _⟩ | exact ⟨rfl, _, Eq.trans (World.drewN_drewN _ _ _) (congrArg (World.drewN _) (Nat.add_assoc _ _ _))⟩)) | (go_at_call 73; (with_reducible refine (bits_Mul64.calls (Int.tmod a1 a0) (Int.tmod a2 a0) t104 t105 _ A7.out).mono ?_); rintro e w' ⟨rfl, ⟨nd, rfl⟩⟩; (try first | exact ⟨rfl, _, World.drewN_drewN _ _ _⟩ | exact ⟨rfl, _, Eq.trans (World.drewN_drewN _ _ _) (congrArg (World.drewN _) (Nat.add_assoc _ _ _))⟩)) | (go_at_call 74; (with_reducible refine (bits_Div64.calls t104 t105 a0 t106 t107 _ A8.out).mono ?_); rintro e w' ⟨rfl, ⟨nd, rfl⟩⟩; (try first | exact ⟨rfl, _, World.drewN_drewN _ _ _⟩ | exact ⟨rfl, _, Eq.trans (World.drewN_drewN _ _ _) (congrArg (World.drewN _) (Nat.add_assoc _ _ _))⟩))); try go_wp2_with (first | (go_at_call 66; (with_reducible refine (modular_no.calls a0 false _ A4.out).mono ?_); rintro e w' ⟨rfl, ⟨nd, rfl⟩⟩; (try first | exact ⟨rfl, _, World.drewN_drewN _ _ _⟩ | exact ⟨rfl, _, Eq.trans (World.drewN_drewN _ _ _) (congrArg (World.drewN _) (Nat.add_assoc _ _ _))⟩)) | (go_at_call 73; (with_reducible refine (bits_Mul64.calls (Int.tmod a1 a0) (Int.tmod a2 a0) t104 t105 _ A7.out).mono ?_); rintro e w' ⟨rfl, ⟨nd, rfl⟩⟩; (try first | exact ⟨rfl, _, World.drewN_drewN _ _ _⟩ | exact ⟨rfl, _, Eq.trans (World.drewN_drewN _ _ _) (congrArg (World.drewN _) (Nat.add_assoc _ _ _))⟩)) | (go_at_call 74; (with_reducible refine (bits_Div64.calls t104 t105 a0 t106 t107 _ A8.out).mono ?_); rintro e w' ⟨rfl, ⟨nd, rfl⟩⟩; (try first | exact ⟨rfl, _, World.drewN_drewN _ _ _⟩ | exact ⟨rfl, _, Eq.trans (World.drewN_drewN _ _ _) (congrArg (World.drewN _) (Nat.add_assoc _ _ _))⟩))))
      go_ret
      exact ⟨by first | rfl | (simp; done) | (simp [*]; done), by repeat (first | exact Drawn0.refl _ | apply Drawn0.step)⟩

/-! ### modular_Inv: function 49 -/
def modular_Inv.l0 : Nat → Int → Int → Int → Int → Int → Option (Int × Option Int)
  | 0, _, _, _, _, _ => none
  | k + 1, x0, x6, x7, x8, x9 => if x7 > 0 then (if x7 = 0 then (none) else ((modular_Mul.f x0 (IntKind.u64.wrap (Int.tdiv x6 x7)) x9).bind fun t109 => ((modular_Sub.f x0 x8 t109).bind fun t110 => (modular_Inv.l0 k x0 x7 (Int.tmod x6 x7) x9 t110)))) else (if x6 = 1 then (some (x8, none)) else (some (0, some 2)))
def modular_Inv.f (k : Nat) (a0 : Int) (a1 : Int) : Option (Int × Option Int) := (modular_no.f a0).bind fun t108 => (if t108 = true then (some (0, some 1)) else (if a0 = 0 then (none) else (modular_Inv.l0 k a0 a0 (Int.tmod a1 a0) 0 1)))
theorem modular_Inv.mono_l : ∀ k, (∀ y0 y1 y2 y3 y4, LeO (modular_Inv.l0 k y0 y1 y2 y3 y4) (modular_Inv.l0 (k + 1) y0 y1 y2 y3 y4))
  | 0 => fun _ _ _ _ _ r h => by simp [modular_Inv.l0] at h
  | k + 1 => by
    have ih0 := modular_Inv.mono_l k
    · intro y0 y1 y2 y3 y4
      unfold modular_Inv.l0
      repeat' first
      | (with_reducible exact ih0 _ _ _ _ _)
      | (with_reducible exact LeO.refl _)
      | (with_reducible exact LeO.none _)
      | (with_reducible refine LeO.ite ?_ ?_)
      | (with_reducible refine LeO.bind ?_ (fun _ => ?_))
      | exact ih0 _ _ _ _ _
      | exact LeO.none _
      | refine LeO.ite ?_ ?_
      | refine LeO.bind ?_ (fun _ => ?_)
theorem modular_Inv.mono : ∀ a0 a1 k, LeO (modular_Inv.f k a0 a1) (modular_Inv.f (k + 1) a0 a1) := by
  intro a0 a1 k
  have ih0 := modular_Inv.mono_l k
  unfold modular_Inv.f
  repeat' first
      | (with_reducible exact ih0 _ _ _ _ _)
      | (with_reducible exact LeO.refl _)
      | (with_reducible exact LeO.none _)
      | (with_reducible refine LeO.ite ?_ ?_)
      | (with_reducible refine LeO.bind ?_ (fun _ => ?_))
      | exact ih0 _ _ _ _ _
      | exact LeO.none _
      | refine LeO.ite ?_ ?_
      | refine LeO.bind ?_ (fun _ => ?_)
set_option maxHeartbeats 8000000 in
set_option maxRecDepth 100000 in
theorem modular_Inv.calls (k : Nat) (a0 : Int) (a1 : Int) (r1 : Int) (r2 : Option Int) (w : World) (h : modular_Inv.f k a0 a1 = some (r1, r2)) :
    Calls Try.prog 49 #[.int .u64 a0, .int .u64 a1] w fun e w' => e = .returned (.tuple #[.int .u64 r1, errW r2]) ∧ Drawn0 w w' := by
  have hu35 := Try.underlying35
  have hu38 := Try.underlying38
  have H : ((modular_no.f a0).bind fun t108 => (if t108 = true then (some (0, some 1)) else (if a0 = 0 then (none) else (modular_Inv.l0 k a0 a0 (Int.tmod a1 a0) 0 1)))) = some (r1, r2) := h
  clear h
  replace H := Option.bind_eq_some_iff.mp H
  obtain ⟨t108, A30, H⟩ := H
  replace H : (if t108 = true then (some (0, some 1)) else (if a0 = 0 then (none) else (modular_Inv.l0 k a0 a0 (Int.tmod a1 a0) 0 1))) = some (r1, r2) := H
  have A3 := Aside0.mk A30
  clear A30
  by_cases c4 : t108 = true
  · subst c4
    have H1 : (some (0, some 1)) = some (r1, r2) := by rw [if_pos rfl] at H; exact H
    clear H
    have H := H1
    clear H1
    simp only [Option.some.injEq, Prod.mk.injEq] at H
    obtain ⟨rfl, rfl⟩ := H
    go_enter Try.func49, Try.ntmps49
    go_wp2_with (first | (go_at_call 66; (with_reducible refine (modular_no.calls a0 true _ A3.out).mono ?_); rintro e w' ⟨rfl, ⟨nd, rfl⟩⟩; (try first | exact ⟨rfl, _, World.drewN_drewN _ _ _⟩ | exact ⟨rfl, _, Eq.trans (World.drewN_drewN _ _ _) (congrArg (World.drewN _) (Nat.add_assoc _ _ _))⟩)))
    repeat (go_quiet (first | (go_at_call 66; (with_reducible refine (modular_no.calls a0 true _ A3.out).mono ?_); rintro e w' ⟨rfl, ⟨nd, rfl⟩⟩; (try first | exact ⟨rfl, _, World.drewN_drewN _ _ _⟩ | exact ⟨rfl, _, Eq.trans (World.drewN_drewN _ _ _) (congrArg (World.drewN _) (Nat.add_assoc _ _ _))⟩))); try go_wp2_with (first | (go_at_call 66; (with_reducible refine (modular_no.calls a0 true _ A3.out).mono ?_); rintro e w' ⟨rfl, ⟨nd, rfl⟩⟩; (try first | exact ⟨rfl, _, World.drewN_drewN _ _ _⟩ | exact ⟨rfl, _, Eq.trans (World.drewN_drewN _ _ _) (congrArg (World.drewN _) (Nat.add_assoc _ _ _))⟩))))
    go_ret2
    exact ⟨by first | rfl | (simp; done) | (simp [*]; done), by repeat (first | exact Drawn0.refl _ | apply Drawn0.step)⟩
  · replace c4 := Bool.eq_false_iff.mpr c4
    subst c4
    have H1 : (if a0 = 0 then (none) else (modular_Inv.l0 k a0 a0 (Int.tmod a1 a0) 0 1)) = some (r1, r2) := by rw [if_neg (show ¬ (false = true) by decide)] at H; exact H
    clear H
    have H := H1
    clear H1
    by_cases c5 : a0 = 0
    · rw [if_pos c5] at H
      exact absurd H (by simp)
    · rw [if_neg c5] at H
      have c5b0 : (a0 == 0) = false := beq_eq_false_iff_ne.mpr c5
      have c5b1 : (a0 != 0) = true := bne_iff_ne.mpr c5
      have H' := Aside0.mk H
      clear H
      go_enter Try.func49, Try.ntmps49
      go_wp2_with (first | (go_at_call 66; (with_reducible refine (modular_no.calls a0 false _ A3.out).mono ?_); rintro e w' ⟨rfl, ⟨nd, rfl⟩⟩; (try first | exact ⟨rfl, _, World.drewN_drewN _ _ _⟩ | exact ⟨rfl, _, Eq.trans (World.drewN_drewN _ _ _) (congrArg (World.drewN _) (Nat.add_assoc _ _ _))⟩)))
      repeat (go_quiet (first | (go_at_call 66; (with_reducible refine (modular_no.calls a0 false _ A3.out).mono ?_); rintro e w' ⟨rfl, ⟨nd, rfl⟩⟩; (try first | exact ⟨rfl, _, World.drewN_drewN _ _ _⟩ | exact ⟨rfl, _, Eq.trans (World.drewN_drewN _ _ _) (congrArg (World.drewN _) (Nat.add_assoc _ _ _))⟩))); try go_wp2_with (first | (go_at_call 66; (with_reducible refine (modular_no.calls a0 false _ A3.out).mono ?_); rintro e w' ⟨rfl, ⟨nd, rfl⟩⟩; (try first | exact ⟨rfl, _, World.drewN_drewN _ _ _⟩ | exact ⟨rfl, _, Eq.trans (World.drewN_drewN _ _ _) (congrArg (World.drewN _) (Nat.add_assoc _ _ _))⟩))))
      go_loopg [6, 7, 8, 9] k (fun kq v6 v7 v8 v9 w' => ∃ (x6_1 : Int) (x7_1 : Int) (x8_1 : Int) (x9_1 : Int), v6 = .int .u64 x6_1 ∧ v7 = .int .u64 x7_1 ∧ v8 = .int .u64 x8_1 ∧ v9 = .int .u64 x9_1 ∧ Aside0 (modular_Inv.l0 kq a0 x6_1 x7_1 x8_1 x9_1 = some (r1, r2)) ∧ Aside0 (kq ≤ k) ∧ Drawn0 w w')
      case atStart => exact ⟨(a0), (Int.tmod a1 a0), (0), (1), (by first | rfl | (simp; done) | (simp [*]; done)), (by first | rfl | (simp; done) | (simp [*]; done)), (by first | rfl | (simp; done) | (simp [*]; done)), (by first | rfl | (simp; done) | (simp [*]; done)), H', ⟨Nat.le_refl _⟩, by repeat (first | exact Drawn0.refl _ | apply Drawn0.step)⟩
      case round =>
        clear H'
        try clear p2
        try clear c4
        try clear c5
        try clear c5b0
        try clear c5b1
        obtain ⟨x6_1, x7_1, x8_1, x9_1, rfl, rfl, rfl, rfl, HA, HK1, ⟨m1, rfl⟩⟩ := hrel
        cases gk with
        | zero => exact absurd HA.out (by simp [modular_Inv.l0])
        | succ k1 =>
          have H := HA.out
          clear HA
          simp only [modular_Inv.l0] at H
          by_cases c6 : x7_1 > 0
          · rw [if_pos c6] at H
            have c6b0 : decide (0 < x7_1) = true := decide_eq_true c6
            clear c6
            by_cases c7 : x7_1 = 0
            · rw [if_pos c7] at H
              exact absurd H (by simp)
            · rw [if_neg c7] at H
              have c7b0 : (x7_1 == 0) = false := beq_eq_false_iff_ne.mpr c7
              have c7b1 : (x7_1 != 0) = true := bne_iff_ne.mpr c7
              replace H := Option.bind_eq_some_iff.mp H
              obtain ⟨t109, A80, H⟩ := H
              replace H : ((modular_Sub.f a0 x8_1 t109).bind fun t110 => (modular_Inv.l0 k1 a0 x7_1 (Int.tmod x6_1 x7_1) x9_1 t110)) = some (r1, r2) := H
              have A8 := Aside0.mk A80
              clear A80
              replace H := Option.bind_eq_some_iff.mp H
              obtain ⟨t110, A90, H⟩ := H
              replace H : (modular_Inv.l0 k1 a0 x7_1 (Int.tmod x6_1 x7_1) x9_1 t110) = some (r1, r2) := H
              have A9 := Aside0.mk A90
              clear A90
              have H' := Aside0.mk H
              clear H
              go_wp2_with (first | (go_at_call 67; (with_reducible refine (modular_Mul.calls a0 (IntKind.u64.wrap (Int.tdiv x6_1 x7_1)) x9_1 t109 _ A8.out).mono ?_); rintro e w' ⟨rfl, ⟨nd, rfl⟩⟩; (try first | exact ⟨rfl, _, World.drewN_drewN _ _ _⟩ | exact ⟨rfl, _, Eq.trans (World.drewN_drewN _ _ _) (congrArg (World.drewN _) (Nat.add_assoc _ _ _))⟩)) | (go_at_call 64; (with_reducible refine (modular_Sub.calls a0 x8_1 t109 t110 _ A9.out).mono ?_); rintro e w' ⟨rfl, ⟨nd, rfl⟩⟩; (try first | exact ⟨rfl, _, World.drewN_drewN _ _ _⟩ | exact ⟨rfl, _, Eq.trans (World.drewN_drewN _ _ _) (congrArg (World.drewN _) (Nat.add_assoc _ _ _))⟩)))
              repeat (go_quiet (first | (go_at_call 67; (with_reducible refine (modular_Mul.calls a0 (IntKind.u64.wrap (Int.tdiv x6_1 x7_1)) x9_1 t109 _ A8.out).mono ?_); rintro e w' ⟨rfl, ⟨nd, rfl⟩⟩; (try first | exact ⟨rfl, _, World.drewN_drewN _ _ _⟩ | exact ⟨rfl, _, Eq.trans (World.drewN_drewN _ _ _) (congrArg (World.drewN _) (Nat.add_assoc _ _ _))⟩)) | (go_at_call 64; (with_reducible refine (modular_Sub.calls a0 x8_1 t109 t110 _ A9.out).mono ?_); rintro e w' ⟨rfl, ⟨nd, rfl⟩⟩; (try first | exact ⟨rfl, _, World.drewN_drewN _ _ _⟩ | exact ⟨rfl, _, Eq.trans (World.drewN_drewN _ _ _) (congrArg (World.drewN _) (Nat.add_assoc _ _ _))⟩))); try go_wp2_with (first | (go_at_call 67; (with_reducible refine (modular_Mul.calls a0 (IntKind.u64.wrap (Int.tdiv x6_1 x7_1)) x9_1 t109 _ A8.out).mono ?_); rintro e w' ⟨rfl, ⟨nd, rfl⟩⟩; (try first | exact ⟨rfl, _, World.drewN_drewN _ _ _⟩ | exact ⟨rfl, _, Eq.trans (World.drewN_drewN _ _ _) (congrArg (World.drewN _) (Nat.add_assoc _ _ _))⟩)) | (go_at_call 64; (with_reducible refine (modular_Sub.calls a0 x8_1 t109 t110 _ A9.out).mono ?_); rintro e w' ⟨rfl, ⟨nd, rfl⟩⟩; (try first | exact ⟨rfl, _, World.drewN_drewN _ _ _⟩ | exact ⟨rfl, _, Eq.trans (World.drewN_drewN _ _ _) (congrArg (World.drewN _) (Nat.add_assoc _ _ _))⟩))))
              go_roundg k1
              case measure => have := HK1.out; omega
              case rel => exact ⟨(x7_1), (Int.tmod x6_1 x7_1), (x9_1), (t110), (by first | rfl | (simp; done) | (simp [*]; done)), (by first | rfl | (simp; done) | (simp [*]; done)), (by first | rfl | (simp; done) | (simp [*]; done)), (by first | rfl | (simp; done) | (simp [*]; done)), H', ⟨by have := HK1.out; omega⟩, by repeat (first | exact Drawn0.refl _ | apply Drawn0.step)⟩
          · rw [if_neg c6] at H
            have c6b0 : decide (0 < x7_1) = false := decide_eq_false c6
            clear c6
            by_cases c10 : x6_1 = 1
            · rw [if_pos c10] at H
              have c10b0 : (x6_1 == 1) = true := beq_iff_eq.mpr c10
              have c10b1 : (x6_1 != 1) = false := bne_eq_false_iff_eq.mpr c10
              clear c10
              simp only [Option.some.injEq, Prod.mk.injEq] at H
              obtain ⟨rfl, rfl⟩ := H
              go_wp2
              repeat (go_quiet (fail); try go_wp2)
              go_ret2
              exact ⟨by first | rfl | (simp; done) | (simp [*]; done), by repeat (first | exact Drawn0.refl _ | apply Drawn0.step)⟩
            · rw [if_neg c10] at H
              have c10b0 : (x6_1 == 1) = false := beq_eq_false_iff_ne.mpr c10
              have c10b1 : (x6_1 != 1) = true := bne_iff_ne.mpr c10
              simp only [Option.some.injEq, Prod.mk.injEq] at H
              obtain ⟨rfl, rfl⟩ := H
              go_wp2
              repeat (go_quiet (fail); try go_wp2)
              go_ret2
              exact ⟨by first | rfl | (simp; done) | (simp [*]; done), by repeat (first | exact Drawn0.refl _ | apply Drawn0.step)⟩

/-! ### modular_Pow: function 70 -/
def modular_Pow.l0 : Nat → Int → Int → Int → Int → Option (Int)
  | 0, _, _, _, _ => none
  | k + 1, x0, x1, x2, x7 => if x2 > 0 then (if (Go.bits .and .u64 x2 1) = 1 then ((modular_Mul.f x0 x7 x1).bind fun t112 => ((modular_Mul.f x0 x1 x1).bind fun t113 => (modular_Pow.l0 k x0 t113 (x2 / 2) t112))) else ((modular_Mul.f x0 x1 x1).bind fun t114 => (modular_Pow.l0 k x0 t114 (x2 / 2) x7))) else (some x7)
def modular_Pow.f (k : Nat) (a0 : Int) (a1 : Int) (a2 : Int) : Option (Int) := (modular_no.f a0).bind fun t111 => (if t111 = true then (some 0) else (if a0 = 0 then (none) else (modular_Pow.l0 k a0 (Int.tmod a1 a0) a2 1)))
theorem modular_Pow.mono_l : ∀ k, (∀ y0 y1 y2 y3, LeO (modular_Pow.l0 k y0 y1 y2 y3) (modular_Pow.l0 (k + 1) y0 y1 y2 y3))
  | 0 => fun _ _ _ _ r h => by simp [modular_Pow.l0] at h
  | k + 1 => by
    have ih0 := modular_Pow.mono_l k
    · intro y0 y1 y2 y3
      unfold modular_Pow.l0
      repeat' first
      | (with_reducible exact ih0 _ _ _ _)
      | (with_reducible exact LeO.refl _)
      | (with_reducible exact LeO.none _)
      | (with_reducible refine LeO.ite ?_ ?_)
      | (with_reducible refine LeO.bind ?_ (fun _ => ?_))
      | exact ih0 _ _ _ _
      | exact LeO.none _
      | refine LeO.ite ?_ ?_
      | refine LeO.bind ?_ (fun _ => ?_)
theorem modular_Pow.mono : ∀ a0 a1 a2 k, LeO (modular_Pow.f k a0 a1 a2) (modular_Pow.f (k + 1) a0 a1 a2) := by
  intro a0 a1 a2 k
  have ih0 := modular_Pow.mono_l k
  unfold modular_Pow.f
  repeat' first
      | (with_reducible exact ih0 _ _ _ _)
      | (with_reducible exact LeO.refl _)
      | (with_reducible exact LeO.none _)
      | (with_reducible refine LeO.ite ?_ ?_)
      | (with_reducible refine LeO.bind ?_ (fun _ => ?_))
      | exact ih0 _ _ _ _
      | exact LeO.none _
      | refine LeO.ite ?_ ?_
      | refine LeO.bind ?_ (fun _ => ?_)
set_option maxHeartbeats 8000000 in
set_option maxRecDepth 100000 in
theorem modular_Pow.calls (k : Nat) (a0 : Int) (a1 : Int) (a2 : Int) (r : Int) (w : World) (h : modular_Pow.f k a0 a1 a2 = some r) :
    Calls Try.prog 70 #[.int .u64 a0, .int .u64 a1, .int .u64 a2] w fun e w' => e = .returned (.int .u64 r) ∧ Drawn0 w w' := by
  have H : ((modular_no.f a0).bind fun t111 => (if t111 = true then (some 0) else (if a0 = 0 then (none) else (modular_Pow.l0 k a0 (Int.tmod a1 a0) a2 1)))) = some r := h
  clear h
  replace H := Option.bind_eq_some_iff.mp H
  obtain ⟨t111, A40, H⟩ := H
  replace H : (if t111 = true then (some 0) else (if a0 = 0 then (none) else (modular_Pow.l0 k a0 (Int.tmod a1 a0) a2 1))) = some r := H
  have A4 := Aside0.mk A40
  clear A40
  by_cases c5 : t111 = true
  · subst c5
    have H1 : (some 0) = some r := by rw [if_pos rfl] at H; exact H
    clear H
    have H := H1
    clear H1
    obtain rfl := Option.some.inj H
    go_enter Try.func70, Try.ntmps70
    go_wp2_with (first | ((with_reducible refine gate_callee (f := 66) rfl ?_); refine goesL_ (some 9) rfl rfl Try.func66 (by kernel_rfl) rfl #[.int .u64 a0] rfl (by (try simp only [List.map_toArray, List.map_cons, List.map_nil]); first | done | rfl | (simp only [List.length_drop, List.length_take]; rfl)) ?_; (with_reducible refine (modular_no.calls a0 true _ A4.out).mono ?_); rintro e w' ⟨rfl, ⟨nd, rfl⟩⟩; refine ⟨_, rfl, ?_⟩))
    go_ret
    exact ⟨by first | rfl | (simp; done) | (simp [*]; done), by repeat (first | exact Drawn0.refl _ | apply Drawn0.step)⟩
  · replace c5 := Bool.eq_false_iff.mpr c5
    subst c5
    have H1 : (if a0 = 0 then (none) else (modular_Pow.l0 k a0 (Int.tmod a1 a0) a2 1)) = some r := by rw [if_neg (show ¬ (false = true) by decide)] at H; exact H
    clear H
    have H := H1
    clear H1
    by_cases c6 : a0 = 0
    · rw [if_pos c6] at H
      exact absurd H (by simp)
    · rw [if_neg c6] at H
      have c6b0 : (a0 == 0) = false := beq_eq_false_iff_ne.mpr c6
      have c6b1 : (a0 != 0) = true := bne_iff_ne.mpr c6
      have H' := Aside0.mk H
      clear H
      go_enter Try.func70, Try.ntmps70
      go_wp2_with (first | ((with_reducible refine gate_callee (f := 66) rfl ?_); refine goesL_ (some 9) rfl rfl Try.func66 (by kernel_rfl) rfl #[.int .u64 a0] rfl (by (try simp only [List.map_toArray, List.map_cons, List.map_nil]); first | done | rfl | (simp only [List.length_drop, List.length_take]; rfl)) ?_; (with_reducible refine (modular_no.calls a0 false _ A4.out).mono ?_); rintro e w' ⟨rfl, ⟨nd, rfl⟩⟩; refine ⟨_, rfl, ?_⟩))
      go_loopg [1, 2, 7] k (fun kq v1 v2 v7 w' => ∃ (x1_1 : Int) (x2_1 : Int) (x7_1 : Int), v1 = .int .u64 x1_1 ∧ v2 = .int .u64 x2_1 ∧ v7 = .int .u64 x7_1 ∧ Aside0 (modular_Pow.l0 kq a0 x1_1 x2_1 x7_1 = some r) ∧ Aside0 (kq ≤ k) ∧ Drawn0 w w')
      case atStart => exact ⟨(Int.tmod a1 a0), (a2), (1), (by first | rfl | (simp; done) | (simp [*]; done)), (by first | rfl | (simp; done) | (simp [*]; done)), (by first | rfl | (simp; done) | (simp [*]; done)), H', ⟨Nat.le_refl _⟩, by repeat (first | exact Drawn0.refl _ | apply Drawn0.step)⟩
      case round =>
        clear H'
        try clear p2
        try clear c5
        try clear c6
        try clear c6b0
        try clear c6b1
        obtain ⟨x1_1, x2_1, x7_1, rfl, rfl, rfl, HA, HK1, ⟨m1, rfl⟩⟩ := hrel
        cases gk with
        | zero => exact absurd HA.out (by simp [modular_Pow.l0])
        | succ k1 =>
          have H := HA.out
          clear HA
          simp only [modular_Pow.l0] at H
          by_cases c7 : x2_1 > 0
          · rw [if_pos c7] at H
            have c7b0 : decide (0 < x2_1) = true := decide_eq_true c7
            clear c7
            by_cases c8 : (Go.bits .and .u64 x2_1 1) = 1
            · rw [if_pos c8] at H
              have c8b0 : ((Go.bits .and .u64 x2_1 1) == 1) = true := beq_iff_eq.mpr c8
              have c8b1 : ((Go.bits .and .u64 x2_1 1) != 1) = false := bne_eq_false_iff_eq.mpr c8
              clear c8
              replace H := Option.bind_eq_some_iff.mp H
              obtain ⟨t112, A90, H⟩ := H
              replace H : ((modular_Mul.f a0 x1_1 x1_1).bind fun t113 => (modular_Pow.l0 k1 a0 t113 (x2_1 / 2) t112)) = some r := H
              have A9 := Aside0.mk A90
              clear A90
              replace H := Option.bind_eq_some_iff.mp H
              obtain ⟨t113, A100, H⟩ := H
              replace H : (modular_Pow.l0 k1 a0 t113 (x2_1 / 2) t112) = some r := H
              have A10 := Aside0.mk A100
              clear A100
              have H' := Aside0.mk H
              clear H
              go_wp2_with (first | ((with_reducible refine gate_callee (f := 67) rfl ?_); refine goesL_ (some 23) rfl rfl Try.func67 (by kernel_rfl) rfl #[.int .u64 a0, .int .u64 x7_1, .int .u64 x1_1] rfl (by (try simp only [List.map_toArray, List.map_cons, List.map_nil]); first | done | rfl | (simp only [List.length_drop, List.length_take]; rfl)) ?_; (with_reducible refine (modular_Mul.calls a0 x7_1 x1_1 t112 _ A9.out).mono ?_); rintro e w' ⟨rfl, ⟨nd, rfl⟩⟩; refine ⟨_, rfl, ?_⟩) | ((with_reducible refine gate_callee (f := 67) rfl ?_); refine goesL_ (some 27) rfl rfl Try.func67 (by kernel_rfl) rfl #[.int .u64 a0, .int .u64 x1_1, .int .u64 x1_1] rfl (by (try simp only [List.map_toArray, List.map_cons, List.map_nil]); first | done | rfl | (simp only [List.length_drop, List.length_take]; rfl)) ?_; (with_reducible refine (modular_Mul.calls a0 x1_1 x1_1 t113 _ A10.out).mono ?_); rintro e w' ⟨rfl, ⟨nd, rfl⟩⟩; refine ⟨_, rfl, ?_⟩))
              go_roundg k1
              case measure => have := HK1.out; omega
              case rel => exact ⟨(t113), (x2_1 / 2), (t112), (by first | rfl | (simp; done) | (simp [*]; done)), (by first | rfl | (simp; done) | (simp [*]; done)), (by first | rfl | (simp; done) | (simp [*]; done)), H', ⟨by have := HK1.out; omega⟩, by repeat (first | exact Drawn0.refl _ | apply Drawn0.step)⟩
            · rw [if_neg c8] at H
              have c8b0 : ((Go.bits .and .u64 x2_1 1) == 1) = false := beq_eq_false_iff_ne.mpr c8
              have c8b1 : ((Go.bits .and .u64 x2_1 1) != 1) = true := bne_iff_ne.mpr c8
              replace H := Option.bind_eq_some_iff.mp H
              obtain ⟨t114, A110, H⟩ := H
              replace H : (modular_Pow.l0 k1 a0 t114 (x2_1 / 2) x7_1) = some r := H
              have A11 := Aside0.mk A110
              clear A110
              have H' := Aside0.mk H
              clear H
              go_wp2_with (first | ((with_reducible refine gate_callee (f := 67) rfl ?_); refine goesL_ (some 27) rfl rfl Try.func67 (by kernel_rfl) rfl #[.int .u64 a0, .int .u64 x1_1, .int .u64 x1_1] rfl (by (try simp only [List.map_toArray, List.map_cons, List.map_nil]); first | done | rfl | (simp only [List.length_drop, List.length_take]; rfl)) ?_; (with_reducible refine (modular_Mul.calls a0 x1_1 x1_1 t114 _ A11.out).mono ?_); rintro e w' ⟨rfl, ⟨nd, rfl⟩⟩; refine ⟨_, rfl, ?_⟩))
              go_roundg k1
              case measure => have := HK1.out; omega
              case rel => exact ⟨(t114), (x2_1 / 2), (x7_1), (by first | rfl | (simp; done) | (simp [*]; done)), (by first | rfl | (simp; done) | (simp [*]; done)), (by first | rfl | (simp; done) | (simp [*]; done)), H', ⟨by have := HK1.out; omega⟩, by repeat (first | exact Drawn0.refl _ | apply Drawn0.step)⟩
          · rw [if_neg c7] at H
            have c7b0 : decide (0 < x2_1) = false := decide_eq_false c7
            clear c7
            obtain rfl := Option.some.inj H
            go_wp2
            go_ret
            exact ⟨by first | rfl | (simp; done) | (simp [*]; done), by repeat (first | exact Drawn0.refl _ | apply Drawn0.step)⟩

/-! ### obolref01_Mul: function 33 -/
mutual
def obolref01_Mul.l0 : Nat → Int → Int → Int → Int → Int → Option (Int)
  | 0, _, _, _, _, _ => none
  | k + 1, x0, x7, x8, x9, x10 => if x10 < 64 then (if x9 ≥ (IntKind.u64.wrap (x0 - x9)) then (obolref01_Mul.j1 k x0 x7 x8 (IntKind.u64.wrap (x9 - (IntKind.u64.wrap (x0 - x9)))) x10) else (obolref01_Mul.j1 k x0 x7 x8 (IntKind.u64.wrap (x9 + x9)) x10)) else (some x9)
def obolref01_Mul.j1 : Nat → Int → Int → Int → Int → Int → Option (Int)
  | 0, _, _, _, _, _ => none
  | k + 1, x0, x7, x8, x9, x10 => if 0 ≤ (wrap64 (63 - x10)) then (if (Go.bits .and .u64 (shr .u64 x8 (wrap64 (63 - x10))) 1) = 1 then (if x9 ≥ (IntKind.u64.wrap (x0 - x7)) then (obolref01_Mul.l0 k x0 x7 x8 (IntKind.u64.wrap (x9 - (IntKind.u64.wrap (x0 - x7)))) (wrap64 (x10 + 1))) else (obolref01_Mul.l0 k x0 x7 x8 (IntKind.u64.wrap (x9 + x7)) (wrap64 (x10 + 1)))) else (obolref01_Mul.l0 k x0 x7 x8 x9 (wrap64 (x10 + 1)))) else (none)
end
def obolref01_Mul.f (k : Nat) (a0 : Int) (a1 : Int) (a2 : Int) : Option (Int) := if a0 = 0 then (none) else (obolref01_Mul.l0 k a0 (Int.tmod a1 a0) (Int.tmod a2 a0) 0 0)
theorem obolref01_Mul.mono_l : ∀ k, (∀ y0 y1 y2 y3 y4, LeO (obolref01_Mul.l0 k y0 y1 y2 y3 y4) (obolref01_Mul.l0 (k + 1) y0 y1 y2 y3 y4)) ∧ (∀ y0 y1 y2 y3 y4, LeO (obolref01_Mul.j1 k y0 y1 y2 y3 y4) (obolref01_Mul.j1 (k + 1) y0 y1 y2 y3 y4))
  | 0 => ⟨fun _ _ _ _ _ r h => by simp [obolref01_Mul.l0] at h, fun _ _ _ _ _ r h => by simp [obolref01_Mul.j1] at h⟩
  | k + 1 => by
    obtain ⟨ih0, ih1⟩ := obolref01_Mul.mono_l k
    refine ⟨?_, ?_⟩
    · intro y0 y1 y2 y3 y4
      unfold obolref01_Mul.l0
      repeat' first
      | (with_reducible exact ih0 _ _ _ _ _)
      | (with_reducible exact ih1 _ _ _ _ _)
      | (with_reducible exact LeO.refl _)
      | (with_reducible exact LeO.none _)
      | (with_reducible refine LeO.ite ?_ ?_)
      | (with_reducible refine LeO.bind ?_ (fun _ => ?_))
      | exact ih0 _ _ _ _ _
      | exact ih1 _ _ _ _ _
      | exact LeO.none _
      | refine LeO.ite ?_ ?_
      | refine LeO.bind ?_ (fun _ => ?_)
    · intro y0 y1 y2 y3 y4
      unfold obolref01_Mul.j1
      repeat' first
      | (with_reducible exact ih0 _ _ _ _ _)
      | (with_reducible exact ih1 _ _ _ _ _)
      | (with_reducible exact LeO.refl _)
      | (with_reducible exact LeO.none _)
      | (with_reducible refine LeO.ite ?_ ?_)
      | (with_reducible refine LeO.bind ?_ (fun _ => ?_))
      | exact ih0 _ _ _ _ _
      | exact ih1 _ _ _ _ _
      | exact LeO.none _
      | refine LeO.ite ?_ ?_
      | refine LeO.bind ?_ (fun _ => ?_)
theorem obolref01_Mul.mono : ∀ a0 a1 a2 k, LeO (obolref01_Mul.f k a0 a1 a2) (obolref01_Mul.f (k + 1) a0 a1 a2) := by
  intro a0 a1 a2 k
  obtain ⟨ih0, ih1⟩ := obolref01_Mul.mono_l k
  unfold obolref01_Mul.f
  repeat' first
      | (with_reducible exact ih0 _ _ _ _ _)
      | (with_reducible exact ih1 _ _ _ _ _)
      | (with_reducible exact LeO.refl _)
      | (with_reducible exact LeO.none _)
      | (with_reducible refine LeO.ite ?_ ?_)
      | (with_reducible refine LeO.bind ?_ (fun _ => ?_))
      | exact ih0 _ _ _ _ _
      | exact ih1 _ _ _ _ _
      | exact LeO.none _
      | refine LeO.ite ?_ ?_
      | refine LeO.bind ?_ (fun _ => ?_)
set_option maxHeartbeats 8000000 in
set_option maxRecDepth 100000 in
theorem obolref01_Mul.calls (k : Nat) (a0 : Int) (a1 : Int) (a2 : Int) (r : Int) (w : World) (h : obolref01_Mul.f k a0 a1 a2 = some r) :
    Calls Try.prog 33 #[.int .u64 a0, .int .u64 a1, .int .u64 a2] w fun e w' => e = .returned (.int .u64 r) ∧ Drawn0 w w' := by
  have H : (if a0 = 0 then (none) else (obolref01_Mul.l0 k a0 (Int.tmod a1 a0) (Int.tmod a2 a0) 0 0)) = some r := h
  clear h
  by_cases c4 : a0 = 0
  · rw [if_pos c4] at H
    exact absurd H (by simp)
  · rw [if_neg c4] at H
    have c4b0 : (a0 == 0) = false := beq_eq_false_iff_ne.mpr c4
    have c4b1 : (a0 != 0) = true := bne_iff_ne.mpr c4
    have H' := Aside0.mk H
    clear H
    go_enter Try.func33, Try.ntmps33
    go_wp2
    go_loopg [9, 10] k (fun kq v9 v10 w' => ∃ (x9_1 : Int) (x10_1 : Int), v9 = .int .u64 x9_1 ∧ v10 = .int .i64 x10_1 ∧ Aside0 (obolref01_Mul.l0 kq a0 (Int.tmod a1 a0) (Int.tmod a2 a0) x9_1 x10_1 = some r) ∧ Aside0 (kq ≤ k) ∧ Drawn0 w w')
    case atStart => exact ⟨(0), (0), (by first | rfl | (simp; done) | (simp [*]; done)), (by first | rfl | (simp; done) | (simp [*]; done)), H', ⟨Nat.le_refl _⟩, by repeat (first | exact Drawn0.refl _ | apply Drawn0.step)⟩
    case round =>
      clear H'
      try clear p2
      try clear c3
      try clear c4
      try clear c4b0
      try clear c4b1
      obtain ⟨x9_1, x10_1, rfl, rfl, HA, HK1, ⟨m1, rfl⟩⟩ := hrel
      cases gk with
      | zero => exact absurd HA.out (by simp [obolref01_Mul.l0])
      | succ k1 =>
        have H := HA.out
        clear HA
        simp only [obolref01_Mul.l0] at H
        by_cases c5 : x10_1 < 64
        · rw [if_pos c5] at H
          have c5b0 : decide (x10_1 < 64) = true := decide_eq_true c5
          clear c5
          have HC6 := Aside0.mk H
          clear H
          go_upto_if 25 with (fail)
          go_cut [9] (fun v9 wc => ∃ (kq : Nat) (x9_5 : Int), v9 = .int .u64 x9_5 ∧ Aside0 (obolref01_Mul.j1 kq a0 (Int.tmod a1 a0) (Int.tmod a2 a0) x9_5 x10_1 = some r) ∧ Aside0 (kq ≤ k1) ∧ Drawn0 w wc)
          case first =>
            have H := HC6.out
            clear HC6
            by_cases c7 : x9_1 ≥ (IntKind.u64.wrap (a0 - x9_1))
            · rw [if_pos c7] at H
              have c7b0 : decide ((IntKind.u64.wrap (a0 - x9_1)) ≤ x9_1) = true := decide_eq_true c7
              clear c7
              (first | rw [c7b0] | (simp only [i64_w, i32_w]; rw [c7b0]) | skip)
              have H' := Aside0.mk H
              clear H
              go_wp2
              go_meet
              case rel => exact ⟨_, (IntKind.u64.wrap (x9_1 - (IntKind.u64.wrap (a0 - x9_1)))), (by first | rfl | (simp; done) | (simp [*]; done)), H', ⟨by have := HK1.out; first | omega | exact Nat.le_refl _⟩, by repeat (first | exact Drawn0.refl _ | apply Drawn0.step)⟩
            · rw [if_neg c7] at H
              have c7b0 : decide ((IntKind.u64.wrap (a0 - x9_1)) ≤ x9_1) = false := decide_eq_false c7
              clear c7
              (first | rw [c7b0] | (simp only [i64_w, i32_w]; rw [c7b0]) | skip)
              have H' := Aside0.mk H
              clear H
              go_wp2
              go_meet
              case rel => exact ⟨_, (IntKind.u64.wrap (x9_1 + x9_1)), (by first | rfl | (simp; done) | (simp [*]; done)), H', ⟨by have := HK1.out; first | omega | exact Nat.le_refl _⟩, by repeat (first | exact Drawn0.refl _ | apply Drawn0.step)⟩
          case rest =>
            clear HC6
            try clear p2
            try clear c3
            try clear c4
            try clear c4b0
            try clear c4b1
            try clear c5
            try clear c5b0
            try clear c7
            try clear c7b0
            try clear p2
            obtain ⟨kq, x9_5, rfl, HA, HJ5, ⟨mc5, rfl⟩⟩ := hcut
            cases kq with
            | zero => exact absurd HA.out (by simp [obolref01_Mul.j1])
            | succ kj5 =>
              have H := HA.out
              clear HA
              simp only [obolref01_Mul.j1] at H
              obtain ⟨ji8, hji8⟩ : ∃ j_ : Int, (wrap64 (63 - x10_1)) = j_ := ⟨_, rfl⟩
              replace H : (if 0 ≤ (ji8) then (if (Go.bits .and .u64 (shr .u64 (Int.tmod a2 a0) (ji8)) 1) = 1 then (if x9_5 ≥ (IntKind.u64.wrap (a0 - (Int.tmod a1 a0))) then (obolref01_Mul.l0 kj5 a0 (Int.tmod a1 a0) (Int.tmod a2 a0) (IntKind.u64.wrap (x9_5 - (IntKind.u64.wrap (a0 - (Int.tmod a1 a0))))) (wrap64 (x10_1 + 1))) else (obolref01_Mul.l0 kj5 a0 (Int.tmod a1 a0) (Int.tmod a2 a0) (IntKind.u64.wrap (x9_5 + (Int.tmod a1 a0))) (wrap64 (x10_1 + 1)))) else (obolref01_Mul.l0 kj5 a0 (Int.tmod a1 a0) (Int.tmod a2 a0) x9_5 (wrap64 (x10_1 + 1)))) else (none)) = some r := by first | (rw [hji8] at H; exact H) | (simp only [hji8] at H ⊢; exact H)
              have hji8w : (IntKind.i64.wrap (63 - x10_1)) = ji8 := (i64_w _).trans hji8
              by_cases c9 : 0 ≤ (ji8)
              · rw [if_pos c9] at H
                have c9b0 := eq_true c9
                have c9b1 : decide (0 ≤ (ji8)) = true := decide_eq_true c9
                clear c9
                obtain ⟨ji10, hji10⟩ : ∃ j_ : Int, (shr .u64 (Int.tmod a2 a0) (ji8)) = j_ := ⟨_, rfl⟩
                replace H : (if (Go.bits .and .u64 (ji10) 1) = 1 then (if x9_5 ≥ (IntKind.u64.wrap (a0 - (Int.tmod a1 a0))) then (obolref01_Mul.l0 kj5 a0 (Int.tmod a1 a0) (Int.tmod a2 a0) (IntKind.u64.wrap (x9_5 - (IntKind.u64.wrap (a0 - (Int.tmod a1 a0))))) (wrap64 (x10_1 + 1))) else (obolref01_Mul.l0 kj5 a0 (Int.tmod a1 a0) (Int.tmod a2 a0) (IntKind.u64.wrap (x9_5 + (Int.tmod a1 a0))) (wrap64 (x10_1 + 1)))) else (obolref01_Mul.l0 kj5 a0 (Int.tmod a1 a0) (Int.tmod a2 a0) x9_5 (wrap64 (x10_1 + 1)))) = some r := by first | (rw [hji10] at H; exact H) | (simp only [hji10] at H ⊢; exact H)
                have hji10_ : ((Int.tmod a2 a0) / 2 ^ min (ji8).toNat 64) = ji10 := hji10
                have hji10z : (ji8) ≤ 64 → ((Int.tmod a2 a0) / 2 ^ (ji8).toNat) = ji10 := shr_small hji10
                by_cases c11 : (Go.bits .and .u64 (ji10) 1) = 1
                · rw [if_pos c11] at H
                  have c11b0 : ((Go.bits .and .u64 (ji10) 1) == 1) = true := beq_iff_eq.mpr c11
                  have c11b1 : ((Go.bits .and .u64 (ji10) 1) != 1) = false := bne_eq_false_iff_eq.mpr c11
                  clear c11
                  by_cases c12 : x9_5 ≥ (IntKind.u64.wrap (a0 - (Int.tmod a1 a0)))
                  · rw [if_pos c12] at H
                    have c12b0 : decide ((IntKind.u64.wrap (a0 - (Int.tmod a1 a0))) ≤ x9_5) = true := decide_eq_true c12
                    clear c12
                    have H' := Aside0.mk H
                    clear H
                    go_wp2
                    go_roundg kj5
                    case measure => have := HK1.out; have := HJ5.out; omega
                    case rel => exact ⟨(IntKind.u64.wrap (x9_5 - (IntKind.u64.wrap (a0 - (Int.tmod a1 a0))))), (wrap64 (x10_1 + 1)), (by first | rfl | (simp; done) | (simp [*]; done)), (by first | rfl | (simp; done) | (simp [*]; done)), H', ⟨by have := HK1.out; have := HJ5.out; omega⟩, by repeat (first | exact Drawn0.refl _ | apply Drawn0.step)⟩
                  · rw [if_neg c12] at H
                    have c12b0 : decide ((IntKind.u64.wrap (a0 - (Int.tmod a1 a0))) ≤ x9_5) = false := decide_eq_false c12
                    clear c12
                    have H' := Aside0.mk H
                    clear H
                    go_wp2
                    go_roundg kj5
                    case measure => have := HK1.out; have := HJ5.out; omega
                    case rel => exact ⟨(IntKind.u64.wrap (x9_5 + (Int.tmod a1 a0))), (wrap64 (x10_1 + 1)), (by first | rfl | (simp; done) | (simp [*]; done)), (by first | rfl | (simp; done) | (simp [*]; done)), H', ⟨by have := HK1.out; have := HJ5.out; omega⟩, by repeat (first | exact Drawn0.refl _ | apply Drawn0.step)⟩
                · rw [if_neg c11] at H
                  have c11b0 : ((Go.bits .and .u64 (ji10) 1) == 1) = false := beq_eq_false_iff_ne.mpr c11
                  have c11b1 : ((Go.bits .and .u64 (ji10) 1) != 1) = true := bne_iff_ne.mpr c11
                  have H' := Aside0.mk H
                  clear H
                  go_wp2
                  go_roundg kj5
                  case measure => have := HK1.out; have := HJ5.out; omega
                  case rel => exact ⟨(x9_5), (wrap64 (x10_1 + 1)), (by first | rfl | (simp; done) | (simp [*]; done)), (by first | rfl | (simp; done) | (simp [*]; done)), H', ⟨by have := HK1.out; have := HJ5.out; omega⟩, by repeat (first | exact Drawn0.refl _ | apply Drawn0.step)⟩
              · rw [if_neg c9] at H
                exact absurd H (by simp)
        · rw [if_neg c5] at H
          have c5b0 : decide (x10_1 < 64) = false := decide_eq_false c5
          clear c5
          obtain rfl := Option.some.inj H
          go_wp2
          go_ret
          exact ⟨by first | rfl | (simp; done) | (simp [*]; done), by repeat (first | exact Drawn0.refl _ | apply Drawn0.step)⟩

/-! ### obolref01_Add: function 46 -/
def obolref01_Add.f (a0 : Int) (a1 : Int) (a2 : Int) : Option (Int) := if a0 = 0 then (none) else (if (Int.tmod a1 a0) ≥ (IntKind.u64.wrap (a0 - (Int.tmod a2 a0))) then (some (IntKind.u64.wrap ((Int.tmod a1 a0) - (IntKind.u64.wrap (a0 - (Int.tmod a2 a0)))))) else (some (IntKind.u64.wrap ((Int.tmod a1 a0) + (Int.tmod a2 a0)))))
set_option maxHeartbeats 8000000 in
set_option maxRecDepth 100000 in
theorem obolref01_Add.calls (a0 : Int) (a1 : Int) (a2 : Int) (r : Int) (w : World) (h : obolref01_Add.f a0 a1 a2 = some r) :
    Calls Try.prog 46 #[.int .u64 a0, .int .u64 a1, .int .u64 a2] w fun e w' => e = .returned (.int .u64 r) ∧ Drawn0 w w' := by
  have H : (if a0 = 0 then (none) else (if (Int.tmod a1 a0) ≥ (IntKind.u64.wrap (a0 - (Int.tmod a2 a0))) then (some (IntKind.u64.wrap ((Int.tmod a1 a0) - (IntKind.u64.wrap (a0 - (Int.tmod a2 a0)))))) else (some (IntKind.u64.wrap ((Int.tmod a1 a0) + (Int.tmod a2 a0)))))) = some r := h
  clear h
  by_cases c4 : a0 = 0
  · rw [if_pos c4] at H
    exact absurd H (by simp)
  · rw [if_neg c4] at H
    have c4b0 : (a0 == 0) = false := beq_eq_false_iff_ne.mpr c4
    have c4b1 : (a0 != 0) = true := bne_iff_ne.mpr c4
    by_cases c5 : (Int.tmod a1 a0) ≥ (IntKind.u64.wrap (a0 - (Int.tmod a2 a0)))
    · rw [if_pos c5] at H
      have c5b0 : decide ((IntKind.u64.wrap (a0 - (Int.tmod a2 a0))) ≤ (Int.tmod a1 a0)) = true := decide_eq_true c5
      clear c5
      obtain rfl := Option.some.inj H
      go_enter Try.func46, Try.ntmps46
      go_wp2
      go_ret
      exact ⟨by first | rfl | (simp; done) | (simp [*]; done), by repeat (first | exact Drawn0.refl _ | apply Drawn0.step)⟩
    · rw [if_neg c5] at H
      have c5b0 : decide ((IntKind.u64.wrap (a0 - (Int.tmod a2 a0))) ≤ (Int.tmod a1 a0)) = false := decide_eq_false c5
      clear c5
      obtain rfl := Option.some.inj H
      go_enter Try.func46, Try.ntmps46
      go_wp2
      go_ret
      exact ⟨by first | rfl | (simp; done) | (simp [*]; done), by repeat (first | exact Drawn0.refl _ | apply Drawn0.step)⟩

/-! ### obolref01_Pow: function 72 -/
def obolref01_Pow.l0 : Nat → Int → Int → Int → Int → Int → Option (Int)
  | 0, _, _, _, _, _ => none
  | k + 1, x0, x1, x2, x7, x8 => if x8 < 64 then ((obolref01_Mul.f k x0 x7 x7).bind fun t115 => (if 0 ≤ (wrap64 (63 - x8)) then (if (Go.bits .and .u64 (shr .u64 x2 (wrap64 (63 - x8))) 1) = 1 then ((obolref01_Mul.f k x0 t115 x1).bind fun t116 => (obolref01_Pow.l0 k x0 x1 x2 t116 (wrap64 (x8 + 1)))) else (obolref01_Pow.l0 k x0 x1 x2 t115 (wrap64 (x8 + 1)))) else (none))) else (some x7)
def obolref01_Pow.f (k : Nat) (a0 : Int) (a1 : Int) (a2 : Int) : Option (Int) := if a0 = 0 then (none) else (obolref01_Pow.l0 k a0 a1 a2 ((1 : Int) % a0) 0)
theorem obolref01_Pow.mono_l : ∀ k, (∀ y0 y1 y2 y3 y4, LeO (obolref01_Pow.l0 k y0 y1 y2 y3 y4) (obolref01_Pow.l0 (k + 1) y0 y1 y2 y3 y4))
  | 0 => fun _ _ _ _ _ r h => by simp [obolref01_Pow.l0] at h
  | k + 1 => by
    have ih0 := obolref01_Pow.mono_l k
    · intro y0 y1 y2 y3 y4
      unfold obolref01_Pow.l0
      repeat' first
      | (with_reducible exact ih0 _ _ _ _ _)
      | (with_reducible exact obolref01_Mul.mono _ _ _ _)
      | (with_reducible exact LeO.refl _)
      | (with_reducible exact LeO.none _)
      | (with_reducible refine LeO.ite ?_ ?_)
      | (with_reducible refine LeO.bind ?_ (fun _ => ?_))
      | exact ih0 _ _ _ _ _
      | exact obolref01_Mul.mono _ _ _ _
      | exact LeO.none _
      | refine LeO.ite ?_ ?_
      | refine LeO.bind ?_ (fun _ => ?_)
theorem obolref01_Pow.mono : ∀ a0 a1 a2 k, LeO (obolref01_Pow.f k a0 a1 a2) (obolref01_Pow.f (k + 1) a0 a1 a2) := by
  intro a0 a1 a2 k
  have ih0 := obolref01_Pow.mono_l k
  unfold obolref01_Pow.f
  repeat' first
      | (with_reducible exact ih0 _ _ _ _ _)
      | (with_reducible exact obolref01_Mul.mono _ _ _ _)
      | (with_reducible exact LeO.refl _)
      | (with_reducible exact LeO.none _)
      | (with_reducible refine LeO.ite ?_ ?_)
      | (with_reducible refine LeO.bind ?_ (fun _ => ?_))
      | exact ih0 _ _ _ _ _
      | exact obolref01_Mul.mono _ _ _ _
      | exact LeO.none _
      | refine LeO.ite ?_ ?_
      | refine LeO.bind ?_ (fun _ => ?_)
set_option maxHeartbeats 8000000 in
set_option maxRecDepth 100000 in
theorem obolref01_Pow.calls (k : Nat) (a0 : Int) (a1 : Int) (a2 : Int) (r : Int) (w : World) (h : obolref01_Pow.f k a0 a1 a2 = some r) :
    Calls Try.prog 72 #[.int .u64 a0, .int .u64 a1, .int .u64 a2] w fun e w' => e = .returned (.int .u64 r) ∧ Drawn0 w w' := by
  have H : (if a0 = 0 then (none) else (obolref01_Pow.l0 k a0 a1 a2 ((1 : Int) % a0) 0)) = some r := h
  clear h
  by_cases c4 : a0 = 0
  · rw [if_pos c4] at H
    exact absurd H (by simp)
  · rw [if_neg c4] at H
    have c4b0 : (a0 == 0) = false := beq_eq_false_iff_ne.mpr c4
    have c4b1 : (a0 != 0) = true := bne_iff_ne.mpr c4
    have H' := Aside0.mk H
    clear H
    go_enter Try.func72, Try.ntmps72
    go_wp2
    go_loopg [7, 8] k (fun kq v7 v8 w' => ∃ (x7_1 : Int) (x8_1 : Int), v7 = .int .u64 x7_1 ∧ v8 = .int .i64 x8_1 ∧ Aside0 (obolref01_Pow.l0 kq a0 a1 a2 x7_1 x8_1 = some r) ∧ Aside0 (kq ≤ k) ∧ Drawn0 w w')
    case atStart => exact ⟨((1 : Int) % a0), (0), (by first | rfl | (simp; done) | (simp [*]; done)), (by first | rfl | (simp; done) | (simp [*]; done)), H', ⟨Nat.le_refl _⟩, by repeat (first | exact Drawn0.refl _ | apply Drawn0.step)⟩
    case round =>
      clear H'
      try clear p2
      try clear c4
      try clear c4b0
      try clear c4b1
      obtain ⟨x7_1, x8_1, rfl, rfl, HA, HK1, ⟨m1, rfl⟩⟩ := hrel
      cases gk with
      | zero => exact absurd HA.out (by simp [obolref01_Pow.l0])
      | succ k1 =>
        have H := HA.out
        clear HA
        simp only [obolref01_Pow.l0] at H
        by_cases c5 : x8_1 < 64
        · rw [if_pos c5] at H
          have c5b0 : decide (x8_1 < 64) = true := decide_eq_true c5
          clear c5
          replace H := Option.bind_eq_some_iff.mp H
          obtain ⟨t115, A60, H⟩ := H
          replace H : (if 0 ≤ (wrap64 (63 - x8_1)) then (if (Go.bits .and .u64 (shr .u64 a2 (wrap64 (63 - x8_1))) 1) = 1 then ((obolref01_Mul.f k1 a0 t115 a1).bind fun t116 => (obolref01_Pow.l0 k1 a0 a1 a2 t116 (wrap64 (x8_1 + 1)))) else (obolref01_Pow.l0 k1 a0 a1 a2 t115 (wrap64 (x8_1 + 1)))) else (none)) = some r := H
          have A6 := Aside0.mk A60
          clear A60
          obtain ⟨ji7, hji7⟩ : ∃ j_ : Int, (wrap64 (63 - x8_1)) = j_ := ⟨_, rfl⟩
          replace H : (if 0 ≤ (ji7) then (if (Go.bits .and .u64 (shr .u64 a2 (ji7)) 1) = 1 then ((obolref01_Mul.f k1 a0 t115 a1).bind fun t116 => (obolref01_Pow.l0 k1 a0 a1 a2 t116 (wrap64 (x8_1 + 1)))) else (obolref01_Pow.l0 k1 a0 a1 a2 t115 (wrap64 (x8_1 + 1)))) else (none)) = some r := by first | (rw [hji7] at H; exact H) | (simp only [hji7] at H ⊢; exact H)
          (try rw [hji7] at A6)
          have hji7w : (IntKind.i64.wrap (63 - x8_1)) = ji7 := (i64_w _).trans hji7
          by_cases c8 : 0 ≤ (ji7)
          · rw [if_pos c8] at H
            have c8b0 := eq_true c8
            have c8b1 : decide (0 ≤ (ji7)) = true := decide_eq_true c8
            clear c8
            obtain ⟨ji9, hji9⟩ : ∃ j_ : Int, (shr .u64 a2 (ji7)) = j_ := ⟨_, rfl⟩
            replace H : (if (Go.bits .and .u64 (ji9) 1) = 1 then ((obolref01_Mul.f k1 a0 t115 a1).bind fun t116 => (obolref01_Pow.l0 k1 a0 a1 a2 t116 (wrap64 (x8_1 + 1)))) else (obolref01_Pow.l0 k1 a0 a1 a2 t115 (wrap64 (x8_1 + 1)))) = some r := by first | (rw [hji9] at H; exact H) | (simp only [hji9] at H ⊢; exact H)
            (try rw [hji9] at A6)
            have hji9_ : (a2 / 2 ^ min (ji7).toNat 64) = ji9 := hji9
            have hji9z : (ji7) ≤ 64 → (a2 / 2 ^ (ji7).toNat) = ji9 := shr_small hji9
            by_cases c10 : (Go.bits .and .u64 (ji9) 1) = 1
            · rw [if_pos c10] at H
              have c10b0 : ((Go.bits .and .u64 (ji9) 1) == 1) = true := beq_iff_eq.mpr c10
              have c10b1 : ((Go.bits .and .u64 (ji9) 1) != 1) = false := bne_eq_false_iff_eq.mpr c10
              clear c10
              replace H := Option.bind_eq_some_iff.mp H
              obtain ⟨t116, A110, H⟩ := H
              replace H : (obolref01_Pow.l0 k1 a0 a1 a2 t116 (wrap64 (x8_1 + 1))) = some r := H
              have A11 := Aside0.mk A110
              clear A110
              have H' := Aside0.mk H
              clear H
              go_wp2_with (first | ((with_reducible refine gate_callee (f := 33) rfl ?_); refine goesL_ (some 18) rfl rfl Try.func33 (by kernel_rfl) rfl #[.int .u64 a0, .int .u64 x7_1, .int .u64 x7_1] rfl (by (try simp only [List.map_toArray, List.map_cons, List.map_nil]); first | done | rfl | (simp only [List.length_drop, List.length_take]; rfl)) ?_; (with_reducible refine (obolref01_Mul.calls k1 a0 x7_1 x7_1 t115 _ A6.out).mono ?_); rintro e w' ⟨rfl, ⟨nd, rfl⟩⟩; refine ⟨_, rfl, ?_⟩) | ((with_reducible refine gate_callee (f := 33) rfl ?_); refine goesL_ (some 28) rfl rfl Try.func33 (by kernel_rfl) rfl #[.int .u64 a0, .int .u64 t115, .int .u64 a1] rfl (by (try simp only [List.map_toArray, List.map_cons, List.map_nil]); first | done | rfl | (simp only [List.length_drop, List.length_take]; rfl)) ?_; (with_reducible refine (obolref01_Mul.calls k1 a0 t115 a1 t116 _ A11.out).mono ?_); rintro e w' ⟨rfl, ⟨nd, rfl⟩⟩; refine ⟨_, rfl, ?_⟩))
              go_roundg k1
              case measure => have := HK1.out; omega
              case rel => exact ⟨(t116), (wrap64 (x8_1 + 1)), (by first | rfl | (simp; done) | (simp [*]; done)), (by first | rfl | (simp; done) | (simp [*]; done)), H', ⟨by have := HK1.out; omega⟩, by repeat (first | exact Drawn0.refl _ | apply Drawn0.step)⟩
            · rw [if_neg c10] at H
              have c10b0 : ((Go.bits .and .u64 (ji9) 1) == 1) = false := beq_eq_false_iff_ne.mpr c10
              have c10b1 : ((Go.bits .and .u64 (ji9) 1) != 1) = true := bne_iff_ne.mpr c10
              have H' := Aside0.mk H
              clear H
              go_wp2_with (first | ((with_reducible refine gate_callee (f := 33) rfl ?_); refine goesL_ (some 18) rfl rfl Try.func33 (by kernel_rfl) rfl #[.int .u64 a0, .int .u64 x7_1, .int .u64 x7_1] rfl (by (try simp only [List.map_toArray, List.map_cons, List.map_nil]); first | done | rfl | (simp only [List.length_drop, List.length_take]; rfl)) ?_; (with_reducible refine (obolref01_Mul.calls k1 a0 x7_1 x7_1 t115 _ A6.out).mono ?_); rintro e w' ⟨rfl, ⟨nd, rfl⟩⟩; refine ⟨_, rfl, ?_⟩))
              go_roundg k1
              case measure => have := HK1.out; omega
              case rel => exact ⟨(t115), (wrap64 (x8_1 + 1)), (by first | rfl | (simp; done) | (simp [*]; done)), (by first | rfl | (simp; done) | (simp [*]; done)), H', ⟨by have := HK1.out; omega⟩, by repeat (first | exact Drawn0.refl _ | apply Drawn0.step)⟩
          · rw [if_neg c8] at H
            exact absurd H (by simp)
        · rw [if_neg c5] at H
          have c5b0 : decide (x8_1 < 64) = false := decide_eq_false c5
          clear c5
          obtain rfl := Option.some.inj H
          go_wp2
          go_ret
          exact ⟨by first | rfl | (simp; done) | (simp [*]; done), by repeat (first | exact Drawn0.refl _ | apply Drawn0.step)⟩

/-! ### obolref02_Neg: function 60 -/
def obolref02_Neg.f (a0 : Int) : Option (Int) := if (Int.tmod a0 1152921505151057923) = 0 then (some 0) else (some (IntKind.u64.wrap (1152921505151057923 - (Int.tmod a0 1152921505151057923))))
set_option maxHeartbeats 8000000 in
set_option maxRecDepth 100000 in
theorem obolref02_Neg.calls (a0 : Int) (r : Int) (w : World) (h : obolref02_Neg.f a0 = some r) :
    Calls Try.prog 60 #[.int .u64 a0] w fun e w' => e = .returned (.int .u64 r) ∧ Drawn0 w w' := by
  have H : (if (Int.tmod a0 1152921505151057923) = 0 then (some 0) else (some (IntKind.u64.wrap (1152921505151057923 - (Int.tmod a0 1152921505151057923))))) = some r := h
  clear h
  by_cases c2 : (Int.tmod a0 1152921505151057923) = 0
  · rw [if_pos c2] at H
    have c2b0 : ((Int.tmod a0 1152921505151057923) == 0) = true := beq_iff_eq.mpr c2
    have c2b1 : ((Int.tmod a0 1152921505151057923) != 0) = false := bne_eq_false_iff_eq.mpr c2
    clear c2
    obtain rfl := Option.some.inj H
    go_enter Try.func60, Try.ntmps60
    go_wp2
    go_ret
    exact ⟨by first | rfl | (simp; done) | (simp [*]; done), by repeat (first | exact Drawn0.refl _ | apply Drawn0.step)⟩
  · rw [if_neg c2] at H
    have c2b0 : ((Int.tmod a0 1152921505151057923) == 0) = false := beq_eq_false_iff_ne.mpr c2
    have c2b1 : ((Int.tmod a0 1152921505151057923) != 0) = true := bne_iff_ne.mpr c2
    obtain rfl := Option.some.inj H
    go_enter Try.func60, Try.ntmps60
    go_wp2
    go_ret
    exact ⟨by first | rfl | (simp; done) | (simp [*]; done), by repeat (first | exact Drawn0.refl _ | apply Drawn0.step)⟩

end Go.Proofs.Ytibmidoepeghpaa.PMod
