/- Short names for rows of steps that the printed texts take often: where no proof is given, those steps are tried. -/
import Derived.Test.YtibmidoepeghpaaZWMore
namespace Go.Proofs.Ytibmidoepeghpaa
open Go.RowKit Go.Proofs.YtibmidoepeghpaaW.PrintWords Go.Proofs.YtibmidoepeghpaaW.PrintLast Go.Proofs.YtibmidoepeghpaaW.PrintMore

theorem bel_ {n : Nat} {u W : World} (h : Below n u W := by
    repeat (first | (with_reducible first | exact Aside0.out (by assumption) | apply below_alloc | apply pw_below_drewN | apply below_drew1 | refine below_set ?_ (Aside0.out (by assumption))) | exact Aside0.out (by assumption))) : Below n u W := h
theorem blk_ {w : World} {g : Nat} {o : Obj} (h : w.heap[g]? = some o := by
    (with_reducible repeat (first | refine blk_drewN ?_ _ | refine blk_drew ?_ | refine blk_alloc ?_ _)); exact Aside0.out (by assumption)) : w.heap[g]? = some o := h
theorem lna_ {α : Type} {a b : α} (h : a = b := by
    (try simp only [List.map_toArray, List.map_cons, List.map_nil]); first | done | rfl | (simp only [List.length_drop, List.length_take]; rfl)) : a = b := h

end Go.Proofs.Ytibmidoepeghpaa
