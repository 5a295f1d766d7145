/- errors.Is of a Spot with a Code, obollaw00.Is of a Spot: by Go's own text (after the kit's worked example on errors.Is). -/
import Derived.Test.YtjeafkodcmbabaaDoorAsx
import Derived.LaidEql
import Derived.Stop.Asserts
import Derived.Lib.IfaceEq
import Derived.Below
namespace Go.Proofs.YtjeafkodcmbabaaDoor
open Go.RowKit Go.Extern.Stop Go.Stop Go.Extern
theorem isx_TypeOf (v : Value) (w : World) : (Extern.ReflectliteType.typeOf #[.iface 44 v]).run Tryd.prog w = .ok (.iface 94 (.agg #[.pointer (some ⟨3, 44, none⟩)])) w := by kernel_rfl
theorem isx_Comparable (w : World) : ((Extern.ReflectliteType.method fun t => do Go.Extern.Rtype.noPackHeld "Comparable" t; (fun a => Value.bool a.comparable) <$> typeInfo t) #[.agg #[.pointer (some ⟨3, 44, none⟩)]]).run Tryd.prog w = .ok (.bool true) w := by kernel_rfl
theorem isx_MethodComparable (v : Value) (w : World) : (Go.method 260 94 v "Comparable").run Tryd.prog w = .ok (95, v) w := by kernel_rfl
theorem isx_noIs (v : Value) (xT : TypeId) (w : World) : (Instr.typeAssert (.iface 49 v) xT 106 true).run Tryd.prog w = .ok (.tuple #[.nilIface, .bool false]) w := run_typeAssert_lacksB Tryd.underlying106 (by kernel_rfl) (by kernel_rfl) v xT w
theorem isx_hasUnwrap (v : Value) (xT : TypeId) (w : World) : (Instr.typeAssert (.iface 49 v) xT 101 true).run Tryd.prog w = .ok (.tuple #[.iface 49 v, .bool true]) w := run_typeAssert_hasB Tryd.underlying101 (by kernel_rfl) v xT w
theorem isx_methodUnwrap (v : Value) (w : World) : (Go.method 260 49 v "Unwrap").run Tryd.prog w = .ok (89, v) w := by kernel_rfl
set_option maxRecDepth 20000 in
set_option maxHeartbeats 16000000 in
/-- errors.Is(e, c), e a Spot that wraps c itself. -/
theorem is_spot (pb po : Nat) (c : Int) (w : World) (h1 : w.cell? ⟨pb, po + 1, none⟩ = some (.iface 44 (.int .i64 c))) :
    Calls Tryd.prog 29 #[.iface 49 (.pointer (some ⟨pb, po, none⟩)), .iface 44 (.int .i64 c)] w fun e w' => e = .returned (.bool true) ∧ w' = w := by
  have h8 := @run_callFunc_extern Tryd.prog 46 _ Extern.ReflectliteType.typeOf Tryd.func46 (by kernel_rfl) (by kernel_rfl) (by kernel_rfl) (by kernel_rfl)
  have h32 := @run_callFunc_extern Tryd.prog 95 _ (Extern.ReflectliteType.method fun t => do Go.Extern.Rtype.noPackHeld "Comparable" t; pure (.bool (← typeInfo t).comparable)) Tryd.func95 (by kernel_rfl) (by kernel_rfl) (by kernel_rfl) (by kernel_rfl)
  have tT := isx_TypeOf
  have cT := isx_Comparable
  have mR := isx_MethodComparable
  have nW := isx_noIs
  have uW := isx_hasUnwrap
  have mU := isx_methodUnwrap
  have hty := run_eql_iface_types (P := Tryd.prog) 49 44 (.pointer (some ⟨pb, po, none⟩)) (.int .i64 c) Tryd.underlying32 (by decide) w
  have heq := Go.Lib.run_eql_iface_int (P := Tryd.prog) w (t := 32) (tx := 44) (k := .i64) (q := .i64) c c Tryd.underlying32 (by kernel_rfl) Tryd.underlying44
  go_enter Tryd.func29, Tryd.ntmps29
  go_wp2
  refine wp_loop_rounds 2 ?_
  rw [rounds_succ]
  go_wp2
  rw [rounds_succ]
  go_wp2
  go_ret
  exact ⟨rfl, rfl⟩
theorem run_neq_iface_ptr_same {P : Program} (w : World) {ti tp te : TypeId} {ms : Array (String × TypeId)} {i j : TypeInfo} (a : Addr)
    (hi : P.underlying ti = some (.interface ms)) (hp : P.underlying tp = some (.pointer te)) (hinfo : P.info? tp = some i) (hcomp : i.comparable = true) (hte : P.info? te = some j) :
    (binOp .neq ti (.iface tp (.pointer (some a))) (.iface tp (.pointer (some a)))).run P w = .ok (.bool false) w := by
  simp only [binOp]
  simp [Op.equal, Op.maxDepth, run_equalIn_iface_ptr_same w 9998 a hi hp hinfo hcomp hte]
theorem isx_comp : (Tryd.prog.info? 49).map (·.comparable) = some true := by kernel_rfl
theorem isx_size : (Tryd.prog.info? 51).map (·.size) = some 2 := by kernel_rfl
/-- errors.As at a fresh target: what it leaves. -/
theorem as_hit2 (e : Addr) (w : World) (hg : w.cell? ⟨0, 0, none⟩ = some (.iface 94 (.agg #[.pointer (some ⟨3, 32, none⟩)]))) :
    Calls Tryd.prog 28 #[.iface 49 (.pointer (some e)), .iface 63 (.pointer (some ⟨w.heap.size, 0, none⟩))] (w.alloc (.cells #[.pointer none] 49)) fun ev w' => ev = .returned (.bool true) ∧ w'.cell? ⟨w.heap.size, 0, none⟩ = some (.pointer (some e)) ∧ Below w.heap.size w w' := by
  have hlt : 0 < w.heap.size := by
    rcases Nat.eq_zero_or_pos w.heap.size with h0 | h
    · simp [World.cell?, h0] at hg
    · exact h
  have hgA : (w.alloc (.cells #[.pointer none] 49)).cell? ⟨0, 0, none⟩ = some (.iface 94 (.agg #[.pointer (some ⟨3, 32, none⟩)])) := by
    rw [World.cell?_alloc_lt _ _ ⟨0, 0, none⟩ hlt]; exact hg
  refine (as_hit e ⟨w.heap.size, 0, none⟩ (.pointer none) _ hgA (by simp) (by simp)).mono ?_
  rintro ev w' ⟨rfl, rfl⟩
  refine ⟨rfl, ?_, ?_⟩
  · refine World.cell?_setCell_same _ _ _ (u := .pointer none) ?_
    rw [World.cell?_alloc_lt _ _ _ (by simp; omega), World.cell?_alloc_lt _ _ _ (by simp; omega), World.cell?_alloc_lt _ _ _ (by simp; omega), World.cell?_alloc_lt _ _ _ (by simp)]
    simp
  · exact ((((((Below.refl _ w).alloc (Nat.le_refl _) _).alloc (by simp) _).alloc (by simp; omega) _).alloc (by simp; omega) _).alloc (by simp; omega) _).setCell (Nat.le_refl _) _
set_option maxRecDepth 20000 in
set_option maxHeartbeats 16000000 in
/-- obollaw00.Is of a Spot itself, at its place, with its Code. -/
theorem is00_spot (pb po : Nat) (p c : Int) (w : World) (hg : w.cell? ⟨0, 0, none⟩ = some (.iface 94 (.agg #[.pointer (some ⟨3, 32, none⟩)])))
    (h0 : w.cell? ⟨pb, po, none⟩ = some (.int .i64 p)) (h1 : w.cell? ⟨pb, po + 1, none⟩ = some (.iface 44 (.int .i64 c))) :
    Calls Tryd.prog 14 #[.iface 49 (.pointer (some ⟨pb, po, none⟩)), .int .i64 p, .int .i64 c] w fun e w' => e = .returned (.bool true) ∧ Below w.heap.size w w' := by
  obtain ⟨i, hi, hcmp⟩ := Option.map_eq_some_iff.1 isx_comp
  obtain ⟨j, hj, hjs⟩ := Option.map_eq_some_iff.1 isx_size
  have hpb : pb < w.heap.size := by
    rcases Nat.lt_or_ge pb w.heap.size with h | h
    · exact h
    · simp [World.cell?, Array.getElem?_eq_none h] at h0
  go_enter Tryd.func14, Tryd.ntmps14
  go_wp2_with (first | (go_at_call 28; refine (as_hit2 ⟨pb, po, none⟩ w hg).mono ?_; rintro e w1 ⟨rfl, hT, hB⟩; have g0 := (hB.cell (p := ⟨pb, po, none⟩) hpb).trans h0; have g1 := (hB.cell (p := ⟨pb, po + 1, none⟩) hpb).trans h1; have heq := run_neq_iface_ptr_same (P := Tryd.prog) w1 ⟨pb, po, none⟩ Tryd.underlying32 Tryd.underlying49 hi hcmp hj; have heq2 := Go.Lib.run_eql_iface_int (P := Tryd.prog) w1 (t := 32) (tx := 44) (k := .i64) (q := .i64) c c Tryd.underlying32 (by kernel_rfl) Tryd.underlying44) | (go_at_call 29; refine (is_spot pb po c _ g1).mono ?_; rintro e w2 ⟨rfl, rfl⟩))
  go_ret
  exact ⟨by simp, hB⟩
end Go.Proofs.YtjeafkodcmbabaaDoor
