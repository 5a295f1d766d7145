/- obollaw21: transactions, whether they are few, ends, paths: contracts over E. -/
import Derived.Test.YthajlelljnkdiaaNte
import Derived.Test.YthajlelljnkdiaaFit
import Derived.Test.YthajlelljnkdiaaProg
import Derived.KernelRfl
set_option linter.unusedVariables false
set_option linter.unusedSimpArgs false
set_option maxRecDepth 10000
open Go Go.Proofs.Ythajlelljnkdiaa.E Go.Proofs
namespace Go.Proofs.Ythajlelljnkdiaa.E.M
abbrev TFw : Prop := tSz Try.prog 69 = some 32 ∧
    tAgg Try.prog 69 = some true ∧
    tBytes Try.prog 69 = some 288 ∧
    tZero Try.prog 69 = some [(.int .u64 0), (.int .u64 0), (.int .u64 0), (.int .u64 0), (.int .u64 0), (.int .u64 0), (.int .u64 0), (.int .u64 0), (.int .u64 0), (.int .u64 0), (.int .u64 0), (.int .u64 0), (.int .u64 0), (.int .u64 0), (.slice none 0 0), (.int .u64 0), (.int .u64 0), (.slice none 0 0), (.int .u64 0), (.int .u64 0), (.bool false), (.int .u64 0), (.int .u64 0), (.bool false), (.int .u64 0), (.int .u64 0), (.bool false), (.int .u64 0), (.int .u64 0), (.int .u64 0), (.int .u64 0), (.int .u64 0)] ∧
    tSlice Try.prog 69 = none ∧
    tIface Try.prog 69 = some false ∧
    tCls Try.prog 69 = .other ∧
    tField Try.prog 69 0 = some (0, 23) ∧
    tField Try.prog 69 1 = some (1, 23) ∧
    tField Try.prog 69 2 = some (2, 23) ∧
    tField Try.prog 69 3 = some (3, 25) ∧
    tField Try.prog 69 4 = some (5, 25) ∧
    tField Try.prog 69 5 = some (7, 23) ∧
    tField Try.prog 69 6 = some (8, 60) ∧
    tField Try.prog 69 7 = some (10, 60) ∧
    tField Try.prog 69 8 = some (12, 61) ∧
    tField Try.prog 69 9 = some (18, 60) ∧
    tField Try.prog 69 10 = some (20, 65) ∧
    tField Try.prog 69 11 = some (29, 67) ∧
    (∀ ps, aBuild Try.prog 69 ps = (aFill ([(0, 1), (1, 1), (2, 1), (3, 2), (5, 2), (7, 1), (8, 2), (10, 2), (12, 6), (18, 2), (20, 9), (29, 3)][·]?) [.val (.int .u64 0), .val (.int .u64 0), .val (.int .u64 0), .val (.int .u64 0), .val (.int .u64 0), .val (.int .u64 0), .val (.int .u64 0), .val (.int .u64 0), .val (.int .u64 0), .val (.int .u64 0), .val (.int .u64 0), .val (.int .u64 0), .val (.int .u64 0), .val (.int .u64 0), .val (.slice none 0 0), .val (.int .u64 0), .val (.int .u64 0), .val (.slice none 0 0), .val (.int .u64 0), .val (.int .u64 0), .val (.bool false), .val (.int .u64 0), .val (.int .u64 0), .val (.bool false), .val (.int .u64 0), .val (.int .u64 0), .val (.bool false), .val (.int .u64 0), .val (.int .u64 0), .val (.int .u64 0), .val (.int .u64 0), .val (.int .u64 0)] ps).map .agg) ∧
    tSz Try.prog 59 = some 3 ∧
    tAgg Try.prog 59 = some true ∧
    tBytes Try.prog 59 = some 40 ∧
    tZero Try.prog 59 = some [(.int .u64 0), (.int .u64 0), (.slice none 0 0)] ∧
    tSlice Try.prog 59 = none ∧
    tIface Try.prog 59 = some false ∧
    tCls Try.prog 59 = .other ∧
    tField Try.prog 59 0 = some (0, 25) ∧
    tField Try.prog 59 1 = some (2, 57) ∧
    (∀ ps, aBuild Try.prog 59 ps = (aFill ([(0, 2), (2, 1)][·]?) [.val (.int .u64 0), .val (.int .u64 0), .val (.slice none 0 0)] ps).map .agg) ∧
    tSz Try.prog 61 = some 6 ∧
    tAgg Try.prog 61 = some true ∧
    tBytes Try.prog 61 = some 80 ∧
    tZero Try.prog 61 = some [(.int .u64 0), (.int .u64 0), (.slice none 0 0), (.int .u64 0), (.int .u64 0), (.slice none 0 0)] ∧
    tSlice Try.prog 61 = none ∧
    tArray Try.prog 61 = some (2, 59) ∧
    Try.prog.underlying 61 = some (.array 2 59) ∧
    tIface Try.prog 61 = some false ∧
    tCls Try.prog 61 = .other ∧
    (∀ ps, aBuild Try.prog 61 ps = (aFill (fun i => some (i * 3, 3)) [.val (.int .u64 0), .val (.int .u64 0), .val (.slice none 0 0), .val (.int .u64 0), .val (.int .u64 0), .val (.slice none 0 0)] ps).map .agg) ∧
    tSz Try.prog 60 = some 2 ∧
    tAgg Try.prog 60 = some true ∧
    tBytes Try.prog 60 = some 16 ∧
    tZero Try.prog 60 = some [(.int .u64 0), (.int .u64 0)] ∧
    tSlice Try.prog 60 = none ∧
    tArray Try.prog 60 = some (2, 23) ∧
    Try.prog.underlying 60 = some (.array 2 23) ∧
    tIface Try.prog 60 = some false ∧
    tCls Try.prog 60 = .other ∧
    (∀ ps, aBuild Try.prog 60 ps = (aFill (fun i => some (i * 1, 1)) [.val (.int .u64 0), .val (.int .u64 0)] ps).map .agg) ∧
    tSz Try.prog 25 = some 2 ∧
    tAgg Try.prog 25 = some true ∧
    tBytes Try.prog 25 = some 16 ∧
    tZero Try.prog 25 = some [(.int .u64 0), (.int .u64 0)] ∧
    tSlice Try.prog 25 = none ∧
    tIface Try.prog 25 = some false ∧
    tCls Try.prog 25 = .other ∧
    tField Try.prog 25 0 = some (0, 23) ∧
    tField Try.prog 25 1 = some (1, 23) ∧
    (∀ ps, aBuild Try.prog 25 ps = (aFill ([(0, 1), (1, 1)][·]?) [.val (.int .u64 0), .val (.int .u64 0)] ps).map .agg) ∧
    tSz Try.prog 35 = some 3 ∧
    tAgg Try.prog 35 = some true ∧
    tBytes Try.prog 35 = some 24 ∧
    tZero Try.prog 35 = some [(.int .u64 0), (.int .u64 0), (.int .u64 0)] ∧
    tSlice Try.prog 35 = none ∧
    tIface Try.prog 35 = some false ∧
    tCls Try.prog 35 = .other ∧
    tField Try.prog 35 0 = some (0, 23) ∧
    tField Try.prog 35 1 = some (1, 23) ∧
    tField Try.prog 35 2 = some (2, 23) ∧
    (∀ ps, aBuild Try.prog 35 ps = (aFill ([(0, 1), (1, 1), (2, 1)][·]?) [.val (.int .u64 0), .val (.int .u64 0), .val (.int .u64 0)] ps).map .agg) ∧
    tSz Try.prog 80 = some 5 ∧
    tAgg Try.prog 80 = some true ∧
    tBytes Try.prog 80 = some 40 ∧
    tZero Try.prog 80 = some [(.int .u64 0), (.int .u64 0), (.int .u64 0), (.int .i64 0), (.bool false)] ∧
    tSlice Try.prog 80 = none ∧
    tIface Try.prog 80 = some false ∧
    tCls Try.prog 80 = .other ∧
    tField Try.prog 80 0 = some (0, 35) ∧
    tField Try.prog 80 1 = some (3, 3) ∧
    tField Try.prog 80 2 = some (4, 4) ∧
    (∀ ps, aBuild Try.prog 80 ps = (aFill ([(0, 3), (3, 1), (4, 1)][·]?) [.val (.int .u64 0), .val (.int .u64 0), .val (.int .u64 0), .val (.int .i64 0), .val (.bool false)] ps).map .agg) ∧
    tSz Try.prog 38 = some 6 ∧
    tAgg Try.prog 38 = some true ∧
    tBytes Try.prog 38 = some 64 ∧
    tZero Try.prog 38 = some [(.int .u64 0), (.int .u64 0), (.int .u64 0), (.int .u64 0), (.int .i64 0), (.slice none 0 0)] ∧
    tSlice Try.prog 38 = none ∧
    tIface Try.prog 38 = some false ∧
    tCls Try.prog 38 = .other ∧
    tField Try.prog 38 0 = some (0, 23) ∧
    tField Try.prog 38 1 = some (1, 35) ∧
    tField Try.prog 38 2 = some (4, 3) ∧
    tField Try.prog 38 3 = some (5, 36) ∧
    (∀ ps, aBuild Try.prog 38 ps = (aFill ([(0, 1), (1, 3), (4, 1), (5, 1)][·]?) [.val (.int .u64 0), .val (.int .u64 0), .val (.int .u64 0), .val (.int .u64 0), .val (.int .i64 0), .val (.slice none 0 0)] ps).map .agg) ∧
    tSz Try.prog 39 = some 12 ∧
    tAgg Try.prog 39 = some true ∧
    tBytes Try.prog 39 = some 128 ∧
    tZero Try.prog 39 = some [(.int .u64 0), (.int .u64 0), (.int .u64 0), (.int .u64 0), (.int .i64 0), (.slice none 0 0), (.int .u64 0), (.int .u64 0), (.int .u64 0), (.int .u64 0), (.int .i64 0), (.slice none 0 0)] ∧
    tSlice Try.prog 39 = none ∧
    tArray Try.prog 39 = some (2, 38) ∧
    Try.prog.underlying 39 = some (.array 2 38) ∧
    tIface Try.prog 39 = some false ∧
    tCls Try.prog 39 = .other ∧
    (∀ ps, aBuild Try.prog 39 ps = (aFill (fun i => some (i * 6, 6)) [.val (.int .u64 0), .val (.int .u64 0), .val (.int .u64 0), .val (.int .u64 0), .val (.int .i64 0), .val (.slice none 0 0), .val (.int .u64 0), .val (.int .u64 0), .val (.int .u64 0), .val (.int .u64 0), .val (.int .i64 0), .val (.slice none 0 0)] ps).map .agg) ∧
    tSz Try.prog 40 = some 6 ∧
    tAgg Try.prog 40 = some true ∧
    tBytes Try.prog 40 = some 48 ∧
    tZero Try.prog 40 = some [(.int .u64 0), (.int .u64 0), (.int .u64 0), (.int .u64 0), (.int .u64 0), (.int .u64 0)] ∧
    tSlice Try.prog 40 = none ∧
    tArray Try.prog 40 = some (2, 35) ∧
    Try.prog.underlying 40 = some (.array 2 35) ∧
    tIface Try.prog 40 = some false ∧
    tCls Try.prog 40 = .other ∧
    (∀ ps, aBuild Try.prog 40 ps = (aFill (fun i => some (i * 3, 3)) [.val (.int .u64 0), .val (.int .u64 0), .val (.int .u64 0), .val (.int .u64 0), .val (.int .u64 0), .val (.int .u64 0)] ps).map .agg) ∧
    tSz Try.prog 42 = some 22 ∧
    tAgg Try.prog 42 = some true ∧
    tBytes Try.prog 42 = some 208 ∧
    tZero Try.prog 42 = some [(.int .u64 0), (.int .u64 0), (.int .u64 0), (.int .u64 0), (.int .u64 0), (.int .u64 0), (.int .u64 0), (.int .u64 0), (.int .i64 0), (.slice none 0 0), (.int .u64 0), (.int .u64 0), (.int .u64 0), (.int .u64 0), (.int .i64 0), (.slice none 0 0), (.int .u64 0), (.int .u64 0), (.int .u64 0), (.int .u64 0), (.int .u64 0), (.int .u64 0)] ∧
    tSlice Try.prog 42 = none ∧
    tIface Try.prog 42 = some false ∧
    tCls Try.prog 42 = .other ∧
    tField Try.prog 42 0 = some (0, 23) ∧
    tField Try.prog 42 1 = some (1, 23) ∧
    tField Try.prog 42 2 = some (2, 23) ∧
    tField Try.prog 42 3 = some (3, 23) ∧
    tField Try.prog 42 4 = some (4, 39) ∧
    tField Try.prog 42 5 = some (16, 40) ∧
    (∀ ps, aBuild Try.prog 42 ps = (aFill ([(0, 1), (1, 1), (2, 1), (3, 1), (4, 12), (16, 6)][·]?) [.val (.int .u64 0), .val (.int .u64 0), .val (.int .u64 0), .val (.int .u64 0), .val (.int .u64 0), .val (.int .u64 0), .val (.int .u64 0), .val (.int .u64 0), .val (.int .i64 0), .val (.slice none 0 0), .val (.int .u64 0), .val (.int .u64 0), .val (.int .u64 0), .val (.int .u64 0), .val (.int .i64 0), .val (.slice none 0 0), .val (.int .u64 0), .val (.int .u64 0), .val (.int .u64 0), .val (.int .u64 0), .val (.int .u64 0), .val (.int .u64 0)] ps).map .agg) ∧
    tSz Try.prog 30 = some 19 ∧
    tAgg Try.prog 30 = some true ∧
    tBytes Try.prog 30 = some 152 ∧
    tZero Try.prog 30 = some [(.int .u64 0), (.int .u64 0), (.int .u64 0), (.int .u64 0), (.int .u64 0), (.int .u64 0), (.int .u64 0), (.int .u64 0), (.int .u64 0), (.int .u64 0), (.int .u64 0), (.int .u64 0), (.int .u64 0), (.int .u64 0), (.int .u64 0), (.int .u64 0), (.int .u64 0), (.int .u64 0), (.int .u64 0)] ∧
    tSlice Try.prog 30 = none ∧
    tIface Try.prog 30 = some false ∧
    tCls Try.prog 30 = .other ∧
    tField Try.prog 30 0 = some (0, 23) ∧
    tField Try.prog 30 1 = some (1, 23) ∧
    tField Try.prog 30 2 = some (2, 23) ∧
    tField Try.prog 30 3 = some (3, 23) ∧
    tField Try.prog 30 4 = some (4, 23) ∧
    tField Try.prog 30 5 = some (5, 25) ∧
    tField Try.prog 30 6 = some (7, 23) ∧
    tField Try.prog 30 7 = some (8, 27) ∧
    tField Try.prog 30 8 = some (11, 28) ∧
    (∀ ps, aBuild Try.prog 30 ps = (aFill ([(0, 1), (1, 1), (2, 1), (3, 1), (4, 1), (5, 2), (7, 1), (8, 3), (11, 8)][·]?) [.val (.int .u64 0), .val (.int .u64 0), .val (.int .u64 0), .val (.int .u64 0), .val (.int .u64 0), .val (.int .u64 0), .val (.int .u64 0), .val (.int .u64 0), .val (.int .u64 0), .val (.int .u64 0), .val (.int .u64 0), .val (.int .u64 0), .val (.int .u64 0), .val (.int .u64 0), .val (.int .u64 0), .val (.int .u64 0), .val (.int .u64 0), .val (.int .u64 0), .val (.int .u64 0)] ps).map .agg) ∧
    tSz Try.prog 27 = some 3 ∧
    tAgg Try.prog 27 = some true ∧
    tBytes Try.prog 27 = some 24 ∧
    tZero Try.prog 27 = some [(.int .u64 0), (.int .u64 0), (.int .u64 0)] ∧
    tSlice Try.prog 27 = none ∧
    tIface Try.prog 27 = some false ∧
    tCls Try.prog 27 = .other ∧
    tField Try.prog 27 0 = some (0, 23) ∧
    tField Try.prog 27 1 = some (1, 25) ∧
    (∀ ps, aBuild Try.prog 27 ps = (aFill ([(0, 1), (1, 2)][·]?) [.val (.int .u64 0), .val (.int .u64 0), .val (.int .u64 0)] ps).map .agg) ∧
    tSz Try.prog 28 = some 8 ∧
    tAgg Try.prog 28 = some true ∧
    tBytes Try.prog 28 = some 64 ∧
    tZero Try.prog 28 = some [(.int .u64 0), (.int .u64 0), (.int .u64 0), (.int .u64 0), (.int .u64 0), (.int .u64 0), (.int .u64 0), (.int .u64 0)] ∧
    tSlice Try.prog 28 = none ∧
    tArray Try.prog 28 = some (8, 23) ∧
    Try.prog.underlying 28 = some (.array 8 23) ∧
    tIface Try.prog 28 = some false ∧
    tCls Try.prog 28 = .other ∧
    (∀ ps, aBuild Try.prog 28 ps = (aFill (fun i => some (i * 1, 1)) [.val (.int .u64 0), .val (.int .u64 0), .val (.int .u64 0), .val (.int .u64 0), .val (.int .u64 0), .val (.int .u64 0), .val (.int .u64 0), .val (.int .u64 0)] ps).map .agg) ∧
    tSz Try.prog 23 = some 1 ∧
    tAgg Try.prog 23 = some false ∧
    tBytes Try.prog 23 = some 8 ∧
    tZero Try.prog 23 = some [(.int .u64 0)] ∧
    tSlice Try.prog 23 = none ∧
    tInt Try.prog 23 = some .u64 ∧
    Try.prog.underlying 23 = some (.int .u64) ∧
    tIface Try.prog 23 = some false ∧
    tCls Try.prog 23 = .other ∧
    tSz Try.prog 3 = some 1 ∧
    tAgg Try.prog 3 = some false ∧
    tBytes Try.prog 3 = some 8 ∧
    tZero Try.prog 3 = some [(.int .i64 0)] ∧
    tSlice Try.prog 3 = none ∧
    tInt Try.prog 3 = some .i64 ∧
    Try.prog.underlying 3 = some (.int .i64) ∧
    tIface Try.prog 3 = some false ∧
    tCls Try.prog 3 = .other ∧
    tSz Try.prog 4 = some 1 ∧
    tAgg Try.prog 4 = some false ∧
    tBytes Try.prog 4 = some 1 ∧
    tZero Try.prog 4 = some [(.bool false)] ∧
    tSlice Try.prog 4 = none ∧
    tIface Try.prog 4 = some false ∧
    tCls Try.prog 4 = .bool ∧
    tSz Try.prog 22 = some 1 ∧
    tAgg Try.prog 22 = some false ∧
    tBytes Try.prog 22 = some 24 ∧
    tZero Try.prog 22 = some [(.slice none 0 0)] ∧
    tSlice Try.prog 22 = some 69 ∧
    Try.prog.underlying 22 = some (.slice 69) ∧
    tIface Try.prog 22 = some false ∧
    tCls Try.prog 22 = .slice ∧
    tSz Try.prog 48 = some 1 ∧
    tAgg Try.prog 48 = some false ∧
    tBytes Try.prog 48 = some 24 ∧
    tZero Try.prog 48 = some [(.slice none 0 0)] ∧
    tSlice Try.prog 48 = some 80 ∧
    Try.prog.underlying 48 = some (.slice 80) ∧
    tIface Try.prog 48 = some false ∧
    tCls Try.prog 48 = .slice ∧
    tSz Try.prog 36 = some 1 ∧
    tAgg Try.prog 36 = some false ∧
    tBytes Try.prog 36 = some 24 ∧
    tZero Try.prog 36 = some [(.slice none 0 0)] ∧
    tSlice Try.prog 36 = some 23 ∧
    Try.prog.underlying 36 = some (.slice 23) ∧
    tIface Try.prog 36 = some false ∧
    tCls Try.prog 36 = .slice ∧
    tSz Try.prog 50 = some 1 ∧
    tAgg Try.prog 50 = some false ∧
    tBytes Try.prog 50 = some 24 ∧
    tZero Try.prog 50 = some [(.slice none 0 0)] ∧
    tSlice Try.prog 50 = some 3 ∧
    Try.prog.underlying 50 = some (.slice 3) ∧
    tIface Try.prog 50 = some false ∧
    tCls Try.prog 50 = .slice ∧
    tSz Try.prog 57 = some 1 ∧
    tAgg Try.prog 57 = some false ∧
    tBytes Try.prog 57 = some 24 ∧
    tZero Try.prog 57 = some [(.slice none 0 0)] ∧
    tSlice Try.prog 57 = some 5 ∧
    Try.prog.underlying 57 = some (.slice 5) ∧
    tIface Try.prog 57 = some false ∧
    tCls Try.prog 57 = .slice
theorem tfw : TFw :=
  ⟨rfl, rfl, rfl, rfl, rfl, rfl, rfl, rfl, rfl, rfl, rfl, rfl, rfl, rfl, rfl, rfl, rfl, rfl, rfl, fun _ => rfl, rfl, rfl, rfl, rfl, rfl, rfl, rfl, rfl, rfl, fun _ => rfl, rfl, rfl, rfl, rfl, rfl, rfl, rfl, rfl, rfl, fun _ => rfl, rfl, rfl, rfl, rfl, rfl, rfl, rfl, rfl, rfl, fun _ => rfl, rfl, rfl, rfl, rfl, rfl, rfl, rfl, rfl, rfl, fun _ => rfl, rfl, rfl, rfl, rfl, rfl, rfl, rfl, rfl, rfl, rfl, fun _ => rfl, rfl, rfl, rfl, rfl, rfl, rfl, rfl, rfl, rfl, rfl, fun _ => rfl, rfl, rfl, rfl, rfl, rfl, rfl, rfl, rfl, rfl, rfl, rfl, fun _ => rfl, rfl, rfl, rfl, rfl, rfl, rfl, rfl, rfl, rfl, fun _ => rfl, rfl, rfl, rfl, rfl, rfl, rfl, rfl, rfl, rfl, fun _ => rfl, rfl, rfl, rfl, rfl, rfl, rfl, rfl, rfl, rfl, rfl, rfl, rfl, rfl, fun _ => rfl, rfl, rfl, rfl, rfl, rfl, rfl, rfl, rfl, rfl, rfl, rfl, rfl, rfl, rfl, rfl, rfl, fun _ => rfl, rfl, rfl, rfl, rfl, rfl, rfl, rfl, rfl, rfl, fun _ => rfl, rfl, rfl, rfl, rfl, rfl, rfl, rfl, rfl, rfl, fun _ => rfl, rfl, rfl, rfl, rfl, rfl, rfl, rfl, rfl, rfl, rfl, rfl, rfl, rfl, rfl, rfl, rfl, rfl, rfl, rfl, rfl, rfl, rfl, rfl, rfl, rfl, rfl, rfl, rfl, rfl, rfl, rfl, rfl, rfl, rfl, rfl, rfl, rfl, rfl, rfl, rfl, rfl, rfl, rfl, rfl, rfl, rfl, rfl, rfl, rfl, rfl, rfl, rfl, rfl, rfl, rfl, rfl, rfl, rfl, rfl, rfl, rfl, rfl, rfl, rfl, rfl⟩
/-- a transaction; of what is not read no more is told than that it is there -/
structure Tx where
  a : AV
  b : AV
  c : AV
  d : AV
  e : AV
  f : AV
  g : AV
  h : AV
  e0 : Int
  e1 : Int
  m0 : Int
  m1 : Int
  s0 : Sd
  s1 : Sd
  q0 : AV
  q1 : AV
  q2 : AV
  q3 : AV
  q4 : AV
  q5 : AV
  q6 : AV
  q7 : AV
  q8 : AV
  q9 : AV
  q10 : AV
  q11 : AV
  q12 : AV
  q13 : AV
abbrev txc (t : Tx) : List AV := [t.a, t.b, t.c, t.d, t.e, t.f, t.g, t.h, u t.e0, u t.e1, u t.m0, u t.m1, u t.s0.1.1, u t.s0.1.2, sl8 t.s0.2, u t.s1.1.1, u t.s1.1.2, sl8 t.s1.2, t.q0, t.q1, t.q2, t.q3, t.q4, t.q5, t.q6, t.q7, t.q8, t.q9, t.q10, t.q11, t.q12, t.q13]
theorem txc_len (t : Tx) : (txc t).length = 32 := rfl
abbrev wTx (t : Tx) : Prop := w64 t.e0 ∧ w64 t.e1 ∧ w64 t.m0 ∧ w64 t.m1 ∧ wE t.s0.1 ∧ dig t.s0.2 ∧ wE t.s1.1 ∧ dig t.s1.2
def longT (t : Tx) : Bool := decide ((t.s0.2.length : Int) > 200) || decide ((t.s1.2.length : Int) > 200)
def lightH (L : List Tx) : Bool := if 12 < L.length then false else !(L.any longT)
def endedH (L : List Tx) (e : Int) : Bool := L.any fun t => t.e0 == e || t.e1 == e
theorem tx_at {L r : List Tx} {k : Nat} {t : Tx} (h : L.drop k = t :: r) : (fm txc L).drop (k * 32) = txc t ++ fm txc r := fm_drop txc_len h
theorem any_app {α : Type} (p : α → Bool) {L r : List α} {k : Nat} {t : α} (h : L.drop k = t :: r) : (L.take (k + 1)).any p = ((L.take k).any p || p t) := by
  have hk := dconsq h
  rw [List.take_add_one, hk.2.2]
  simp [List.any_append]
theorem any_full {α : Type} (p : α → Bool) {L : List α} {k : Nat} (h : L.length ≤ k) : (L.take k).any p = L.any p := by rw [List.take_of_length_le h]
theorem any_mem {α : Type} (p : α → Bool) {L r : List α} {k : Nat} {t : α} (h : L.drop k = t :: r) (hp : p t = true) : L.any p = true :=
  List.any_eq_true.2 ⟨t, List.mem_of_getElem? (dconsq h).2.2, hp⟩
set_option maxHeartbeats 4000000 in
theorem obollaw21_ended_c {L : List Tx} {e : Int} (lL : L.length < 1000000) : Fn Try.prog 25 [slF txc L, u e] [] (fun r h_ => r = bo (endedH L e)) := by
  refine Fn.enter Try.func25 Try.ntmps25 rfl (h := ?_)
  have tf := tfw
  have ot_ : (false || true) = true := rfl
  have t0 : Int.toNat 0 = 0 := rfl
  have t1 : Int.toNat 1 = 1 := rfl
  have z0 : (0:Int) ≤ 0 := by decide
  have z1 : (0:Int) ≤ 1 := by decide
  have y0 : (0:Int) < ((2:Nat):Int) := by decide
  have y1 : (1:Int) < ((2:Nat):Int) := by decide
  repeat refine AW.seq ?_
  refine AW.reg ?_
  iterate 1 refine AOL.s1 (h := ?_)
  refine AOL.nil ?_
  refine AW.kq [0, 1] (h := ?_)
  repeat refine AW.seq ?_
  refine AW.reg ?_
  iterate 1 refine AOL.s1 (h := ?_)
  refine AOL.nil ?_
  refine AW.kq [0, 1, 5] (h := ?_)
  repeat refine AW.seq ?_
  refine AW.block ?_
  repeat refine AW.seq ?_
  refine AW.loopK [0, 1, 5] (fun n' s => ∃ (j : Nat) (r : List Tx), s = ⟨30, [(0, slF txc L), (1, u e), (5, i j)], []⟩ ∧ L.drop j = r ∧ j ≤ L.length ∧ n' = r.length ∧ ((L.take j).any fun t => t.e0 == e || t.e1 == e) = false) (L.length) ?_ ?_
  · exact ⟨0, L, rfl, rfl, Nat.zero_le _, rfl, rfl⟩
  rintro n' s ⟨j, r, rfl, hr, hj, rfl, ha⟩
  repeat refine AW.seq ?_
  refine AW.reg ?_
  iterate 4 refine AOL.s1 (h := ?_)
  refine AOL.nil ?_
  refine AW.kq [0, 1, 5, 9] (h := ?_)
  repeat refine AW.seq ?_
  refine AW.cond rfl (fun c_ => ?_) (fun c_ => ?_)
  · have hj3 : j < L.length := by simp at c_; omega
    obtain ⟨t, r, rfl⟩ := ends_cons hr hj (by simpa using c_)
    have hd := dconsq hr
    have e4 : IntKind.i64.wrap ((j:Int) + 1) = ((j + 1 : Nat) : Int) := by rw [wrapI_o (by omega) (by omega)]; omega
    have ht := tx_at hr
    have j0 : (0:Int) ≤ (j:Nat) := by omega
    have l0 : (j:Int) < L.length := by omega
    have ap := any_app (fun t : Tx => t.e0 == e || t.e1 == e) hr
    have am := fun h => any_mem (fun t : Tx => t.e0 == e || t.e1 == e) hr h
    rw [ha, Bool.false_or] at ap
    obtain ⟨_, hr1, _⟩ := hd
    clear c_ hr ha
    refine AW.skip ?_
    repeat refine AW.seq ?_
    refine AW.block ?_
    repeat refine AW.seq ?_
    refine AW.reg ?_
    iterate 9 refine AOL.s1 (h := ?_)
    refine AOL.kq [0, 1, 5, 20] (h := ?_)
    refine AOL.or 20 29 (os' := ?_) (x := ?_) (h1 := ?_) (h0 := ?_) (h := ?_)
    rotate_left 2
    iterate 2
      · intro hb_ K' hK; (iterate 9 refine AOL.s1 (h := ?_)); refine AOL.kq [0, 1, 5, 29] (h := ?_); exact hK
    refine AOL.nil ?_
    refine AW.kq [0, 1, 5, 29] (h := ?_)
    repeat refine AW.seq ?_
    refine AW.cond rfl (fun d_ => ?_) (fun d_ => ?_)
    · have hb : endedH L e = true := am d_
      rw [hb]
      repeat refine AW.seq ?_
      refine AW.reg ?_
      iterate 1 refine AOL.s1 (h := ?_)
      refine AOL.nil ?_
      refine AW.kq [4] (h := ?_)
      repeat refine AW.seq ?_
      refine AW.ret ?_
      refine ⟨_, [], rfl, HOk.nil _, ?_⟩
      rfl
    clear am
    refine AW.skip ?_
    repeat refine AW.seq ?_
    refine AW.reg ?_
    iterate 3 refine AOL.s1 (h := ?_)
    refine AOL.nil ?_
    exact ⟨r.length, by simp only [List.length_cons]; omega, j + 1, r, rfl, hr1, hj3, rfl, by rw [ap]; exact d_⟩
  · obtain rfl := ends_nil hr (by simpa using c_)
    have lj := dnilq hr hj
    rw [any_full _ (by omega)] at ha
    have hb : endedH L e = false := ha
    rw [hb]
    repeat refine AW.seq ?_
    refine AW.exit ?_
    repeat (first | refine Kseq.ex ?_ | refine Kloop.ex ?_ | refine Kblock.miss (by decide) ?_)
    refine Kblock.hit ?_
    refine AW.kq [] (h := ?_)
    repeat refine AW.seq ?_
    refine AW.reg ?_
    iterate 1 refine AOL.s1 (h := ?_)
    refine AOL.nil ?_
    refine AW.kq [4] (h := ?_)
    repeat refine AW.seq ?_
    refine AW.ret ?_
    refine ⟨_, [], rfl, HOk.nil _, ?_⟩
    rfl
set_option maxHeartbeats 4000000 in
theorem obollaw21_light_c {L : List Tx} : Fn Try.prog 5 [slF txc L] [] (fun r h_ => r = bo (lightH L)) := by
  refine Fn.enter Try.func5 Try.ntmps5 rfl (h := ?_)
  have tf := tfw
  have ot_ : (false || true) = true := rfl
  have t0 : Int.toNat 0 = 0 := rfl
  have t1 : Int.toNat 1 = 1 := rfl
  have z0 : (0:Int) ≤ 0 := by decide
  have z1 : (0:Int) ≤ 1 := by decide
  have y0 : (0:Int) < ((2:Nat):Int) := by decide
  have y1 : (1:Int) < ((2:Nat):Int) := by decide
  repeat refine AW.seq ?_
  refine AW.reg ?_
  iterate 1 refine AOL.s1 (h := ?_)
  refine AOL.nil ?_
  refine AW.kq [0] (h := ?_)
  repeat refine AW.seq ?_
  refine AW.reg ?_
  iterate 3 refine AOL.s1 (h := ?_)
  refine AOL.nil ?_
  refine AW.kq [0, 6] (h := ?_)
  repeat refine AW.seq ?_
  refine AW.cond rfl (fun c_ => ?_) (fun c_ => ?_)
  · have hl : 12 < L.length := by simp at c_; omega
    have hb : lightH L = false := if_pos hl
    rw [hb]
    repeat refine AW.seq ?_
    refine AW.reg ?_
    iterate 1 refine AOL.s1 (h := ?_)
    refine AOL.nil ?_
    refine AW.kq [2] (h := ?_)
    repeat refine AW.seq ?_
    refine AW.ret ?_
    refine ⟨_, [], rfl, HOk.nil _, ?_⟩
    rfl
  have hl : ¬ 12 < L.length := by simp at c_; omega
  have hb : lightH L = !(L.any longT) := if_neg hl
  clear c_
  rw [hb]
  refine AW.skip ?_
  repeat refine AW.seq ?_
  refine AW.reg ?_
  iterate 1 refine AOL.s1 (h := ?_)
  refine AOL.nil ?_
  refine AW.kq [0, 3] (h := ?_)
  repeat refine AW.seq ?_
  refine AW.block ?_
  repeat refine AW.seq ?_
  refine AW.loopK [0, 3] (fun n' s => ∃ (j : Nat) (r : List Tx), s = ⟨33, [(0, slF txc L), (3, i j)], []⟩ ∧ L.drop j = r ∧ j ≤ L.length ∧ n' = r.length ∧ ((L.take j).any longT) = false) (L.length) ?_ ?_
  · exact ⟨0, L, rfl, rfl, Nat.zero_le _, rfl, rfl⟩
  rintro n' s ⟨j, r, rfl, hr, hj, rfl, ha⟩
  repeat refine AW.seq ?_
  refine AW.reg ?_
  iterate 4 refine AOL.s1 (h := ?_)
  refine AOL.nil ?_
  refine AW.kq [0, 3, 10] (h := ?_)
  repeat refine AW.seq ?_
  refine AW.cond rfl (fun c_ => ?_) (fun c_ => ?_)
  · have hj3 : j < L.length := by simp at c_; omega
    obtain ⟨t, r, rfl⟩ := ends_cons hr hj (by simpa using c_)
    have hd := dconsq hr
    have e4 : IntKind.i64.wrap ((j:Int) + 1) = ((j + 1 : Nat) : Int) := by rw [wrapI_o (by omega) (by omega)]; omega
    have ht := tx_at hr
    have j0 : (0:Int) ≤ (j:Nat) := by omega
    have l0 : (j:Int) < L.length := by omega
    have ap := any_app longT hr
    have am := fun h => any_mem longT hr h
    rw [ha, Bool.false_or] at ap
    obtain ⟨_, hr1, _⟩ := hd
    clear c_ hr ha
    refine AW.skip ?_
    repeat refine AW.seq ?_
    refine AW.block ?_
    repeat refine AW.seq ?_
    refine AW.reg ?_
    iterate 10 refine AOL.s1 (h := ?_)
    refine AOL.kq [0, 3, 22] (h := ?_)
    refine AOL.or 22 32 (os' := ?_) (x := ?_) (h1 := ?_) (h0 := ?_) (h := ?_)
    rotate_left 2
    iterate 2
      · intro hb_ K' hK; (iterate 10 refine AOL.s1 (h := ?_)); refine AOL.kq [0, 3, 32] (h := ?_); exact hK
    refine AOL.nil ?_
    refine AW.kq [0, 3, 32] (h := ?_)
    repeat refine AW.seq ?_
    refine AW.cond rfl (fun d_ => ?_) (fun d_ => ?_)
    · have hb : L.any longT = true := am d_
      rw [hb]
      repeat refine AW.seq ?_
      refine AW.reg ?_
      iterate 1 refine AOL.s1 (h := ?_)
      refine AOL.nil ?_
      refine AW.kq [2] (h := ?_)
      repeat refine AW.seq ?_
      refine AW.ret ?_
      refine ⟨_, [], rfl, HOk.nil _, ?_⟩
      rfl
    clear am
    refine AW.skip ?_
    repeat refine AW.seq ?_
    refine AW.reg ?_
    iterate 3 refine AOL.s1 (h := ?_)
    refine AOL.nil ?_
    exact ⟨r.length, by simp only [List.length_cons]; omega, j + 1, r, rfl, hr1, hj3, rfl, by rw [ap]; exact d_⟩
  · obtain rfl := ends_nil hr (by simpa using c_)
    have lj := dnilq hr hj
    rw [any_full _ (by omega)] at ha
    rw [ha]
    repeat refine AW.seq ?_
    refine AW.exit ?_
    repeat (first | refine Kseq.ex ?_ | refine Kloop.ex ?_ | refine Kblock.miss (by decide) ?_)
    refine Kblock.hit ?_
    refine AW.kq [] (h := ?_)
    repeat refine AW.seq ?_
    refine AW.reg ?_
    iterate 1 refine AOL.s1 (h := ?_)
    refine AOL.nil ?_
    refine AW.kq [2] (h := ?_)
    repeat refine AW.seq ?_
    refine AW.ret ?_
    refine ⟨_, [], rfl, HOk.nil _, ?_⟩
    rfl
def pathH (L : List Int) (d : Nat) (a : Nat) : List Int := (List.range d).map fun k => atH L k (if (a / 2 ^ k) % 2 = 1 then a / 2 ^ k - 1 else a / 2 ^ k + 1)
def pathS (L : List Int) (a : Nat) : Nat → List Int
  | 0 => []
  | k + 1 => pathS L a k ++ [atH L k (if (a / 2 ^ k) % 2 = 1 then a / 2 ^ k - 1 else a / 2 ^ k + 1)]
theorem pathS_len (L : List Int) (a : Nat) : ∀ k, (pathS L a k).length = k
  | 0 => rfl
  | k + 1 => by rw [pathS, List.length_append, pathS_len L a k]; rfl
theorem shr_i {a k : Nat} (hk : k ≤ 16) : (a:Int).fdiv (2 ^ min k IntKind.i64.bits) = ((a / 2 ^ k : Nat) : Int) := by
  have eb : IntKind.i64.bits = 64 := rfl
  have e : min k IntKind.i64.bits = k := by rw [eb]; omega
  rw [e, Int.fdiv_eq_ediv_of_nonneg _ (Int.le_of_lt (Int.pow_pos (by decide)))]
  simp
set_option maxHeartbeats 4000000 in
theorem obollaw21_path_c {L : List Int} {d a : Nat} (hL : wV L) (lL : L.length < 1000000) (hd : d ≤ 3) (ha : a < 1000) : Fn Try.prog 22 [ul L, i d, i a] [] (Tells (.ref 1000 0 d 1) [(1000, ⟨23, false, fm u1 (pathS L a d)⟩)]) := by
  refine Fn.enter Try.func22 Try.ntmps22 rfl (h := ?_)
  have tf := tfw
  have ot_ : (false || true) = true := rfl
  repeat refine AW.seq ?_
  refine AW.reg ?_
  iterate 1 refine AOL.s1 (h := ?_)
  refine AOL.nil ?_
  refine AW.kq [0, 1, 2] (h := ?_)
  repeat refine AW.seq ?_
  refine AW.reg ?_
  iterate 1 refine AOL.s1 (h := ?_)
  refine AOL.nil ?_
  refine AW.kq [0, 1, 2, 7] (h := ?_)
  repeat refine AW.seq ?_
  refine AW.reg ?_
  iterate 1 refine AOL.s1 (h := ?_)
  refine AOL.nil ?_
  refine AW.kq [0, 1, 2, 7, 8] (h := ?_)
  refine AW.born 7 1112 23 1 (.inl rfl) (h := ?_)
  repeat refine AW.seq ?_
  refine AW.block ?_
  repeat refine AW.seq ?_
  refine AW.loopK [0, 1, 2, 7, 8] (fun n' s => ∃ (k : Nat), s = ⟨34, [(0, ul L), (1, i d), (2, i a), (7, .ref 1112 0 k 1), (8, i k)], [(1112, ⟨23, false, fm u1 (pathS L a k)⟩)]⟩ ∧ k + n' = d) (d) ?_ ?_
  · exact ⟨0, rfl, by omega⟩
  rintro n' s ⟨k, rfl, hk⟩
  repeat refine AW.seq ?_
  refine AW.reg ?_
  iterate 3 refine AOL.s1 (h := ?_)
  refine AOL.nil ?_
  refine AW.kq [0, 1, 2, 7, 8, 13] (h := ?_)
  repeat refine AW.seq ?_
  refine AW.cond rfl (fun c_ => ?_) (fun c_ => ?_)
  · have k1 : k < d := by simp at c_; omega
    obtain ⟨n, rfl⟩ : ∃ m, n' = m + 1 := ⟨n' - 1, by omega⟩
    have k2 : IntKind.i64.wrap ((k : Int) + 1) = ((k + 1 : Nat) : Int) := by rw [wrapI_o (by omega) (by omega)]; omega
    have hs := shr_i (a := a) (k := k) (by omega)
    have g0 : ¬ (k:Int) < 0 := by omega
    have hq : a / 2 ^ k ≤ a := Nat.div_le_self _ _
    have hS : pathS L a (k + 1) = pathS L a k ++ [atH L k (if (a / 2 ^ k) % 2 = 1 then a / 2 ^ k - 1 else a / 2 ^ k + 1)] := rfl
    generalize a / 2 ^ k = q at *
    have w0 : IntKind.i64.wrap (q:Int) = (q:Int) := wrapI_o (by omega) (by omega)
    have w1 : IntKind.i64.wrap ((q:Int) + 1) = ((q + 1 : Nat) : Int) := by rw [wrapI_o (by omega) (by omega)]; omega
    have w2 : Int.tmod (q:Int) 2 = ((q % 2 : Nat) : Int) := by rw [tmod_nn (by omega)]; omega
    have lP := pathS_len L a k
    clear c_
    refine AW.skip ?_
    repeat refine AW.seq ?_
    refine AW.block ?_
    repeat refine AW.seq ?_
    refine AW.reg ?_
    iterate 4 refine AOL.s1 (h := ?_)
    refine AOL.nil ?_
    refine AW.kq [0, 1, 2, 7, 8, 9] (h := ?_)
    repeat refine AW.seq ?_
    refine AW.reg ?_
    iterate 3 refine AOL.s1 (h := ?_)
    refine AOL.nil ?_
    refine AW.kq [0, 1, 2, 7, 8, 9, 10] (h := ?_)
    repeat refine AW.seq ?_
    refine AW.reg ?_
    iterate 3 refine AOL.s1 (h := ?_)
    refine AOL.nil ?_
    refine AW.kq [0, 1, 2, 7, 8, 9, 10, 23] (h := ?_)
    repeat refine AW.seq ?_
    refine AW.midK [0, 1, 2, 7, 8, 10] (fun t => ∃ b : Nat, t = ⟨34, [(0, ul L), (1, i d), (2, i a), (7, .ref 1112 0 k 1), (8, i k), (10, i b)], [(1112, ⟨23, false, fm u1 (pathS L a k)⟩)]⟩ ∧ b ≤ 1001 ∧ (if q % 2 = 1 then q - 1 else q + 1) = b) ?_ ?_
    · refine AW.cond rfl (fun d_ => ?_) (fun d_ => ?_)
      · have d1 : q % 2 = 1 := by simp at d_; omega
        have w3 : IntKind.i64.wrap ((q:Int) - 1) = ((q - 1 : Nat) : Int) := by rw [wrapI_o (by omega) (by omega)]; omega
        repeat refine AW.seq ?_
        refine AW.reg ?_
        iterate 3 refine AOL.s1 (h := ?_)
        refine AOL.nil ?_
        exact ⟨_, rfl, by omega, if_pos d1⟩
      · have d1 : ¬ q % 2 = 1 := by simp at d_; omega
        refine AW.skip ?_
        exact ⟨_, rfl, by omega, if_neg d1⟩
    rintro t ⟨b, rfl, hb, hb2⟩
    rw [hb2] at hS
    have hp : (b + 1) * 2 ^ k ≤ 1099511627776 := by
      have : k = 0 ∨ k = 1 ∨ k = 2 := by omega
      rcases this with rfl | rfl | rfl <;> omega
    have cA := obolref16_At_c hL (by omega) k b (by omega) hp
    have f1 : (fm u1 (pathS L a k)).length = k := by rw [fm_len u1_len, lP, Nat.mul_one]
    have f3 : (k + 1) * 8 ≤ 140737488355328 := by omega
    have f5 : k ≤ 140737488355327 := by omega
    have f6 : k ≤ 4611686018427387903 := by omega
    have f7 : ∀ v, fm u1 (pathS L a k) ++ [u v] = fm u1 (pathS L a k ++ [v]) := fun v => fm_snoc (f := u1) _ v
    replace hS : id (_ = _) := hS
    clear hb2 hs
    repeat refine AW.seq ?_
    refine AW.reg ?_
    iterate 4 refine AOL.s1 (h := ?_)
    refine AOL.callD rfl (cA) (by kernel_rfl) rfl rfl (h := ?_)
    iterate 3 refine AOL.s1 (h := ?_)
    refine AOL.nil ?_
    repeat refine AW.seq ?_
    refine AW.let 1496 (h := ?_)
    refine AW.reg ?_
    iterate 3 refine AOL.s1 (h := ?_)
    refine AOL.nil ?_
    exact ⟨n, by omega, k + 1, by rw [show _ = _ from hS]; rfl, by omega⟩
  · obtain rfl : k = d := by simp at c_; omega
    repeat refine AW.seq ?_
    refine AW.exit ?_
    repeat (first | refine Kseq.ex ?_ | refine Kloop.ex ?_ | refine Kblock.miss (by decide) ?_)
    refine Kblock.hit ?_
    refine AW.kq [7] (h := ?_)
    repeat refine AW.seq ?_
    refine AW.reg ?_
    iterate 2 refine AOL.s1 (h := ?_)
    refine AOL.nil ?_
    refine AW.kq [6] (h := ?_)
    repeat refine AW.seq ?_
    refine AW.ret ?_
    refine ⟨_, [(1112, _)], rfl, (fun p_ hp_ => by simp only [List.mem_singleton] at hp_; subst hp_; first | exact List.mem_cons_self | exact List.mem_cons_of_mem _ List.mem_cons_self | exact List.mem_cons_of_mem _ (List.mem_cons_of_mem _ List.mem_cons_self)), ?_⟩
    refine Tells.one 1112 (by decide) ?_
    first | rfl | exact frees_fm (fun _ => rfl) _ | exact a64_free _ | exact by8_free _
    skip
end Go.Proofs.Ythajlelljnkdiaa.E.M

