/- Facts on the types of the translation, for simp; by program. -/
import Derived.Test.YtmamhpbblicaeaaAxN
import Derived.Test.YtmamhpbblicaeaaProg
import Derived.KernelRfl
set_option linter.unusedSimpArgs false
set_option maxRecDepth 20000
namespace Go.Proofs.Ytmamhpbblicaeaa.Ax
open Go Go.Proofs

attribute [simp] Try.underlying2
@[simp] theorem cells_2 : Try.prog.cellsOf 2 = 1 := by kernel_rfl
@[simp] theorem bytes_2 : Try.prog.bytesOf 2 = 8 := by kernel_rfl
@[simp] theorem zval_2 : zval Try.prog 2 = some (.int .i64 0) := by kernel_rfl
@[simp] theorem aggT_2 : aggT Try.prog 2 = some false := by kernel_rfl
@[simp] theorem info_2 : (Try.prog.info? 2).isSome = true := by kernel_rfl
attribute [simp] Try.underlying3
@[simp] theorem cells_3 : Try.prog.cellsOf 3 = 1 := by kernel_rfl
@[simp] theorem bytes_3 : Try.prog.bytesOf 3 = 8 := by kernel_rfl
@[simp] theorem zval_3 : zval Try.prog 3 = some (.int .i64 0) := by kernel_rfl
@[simp] theorem aggT_3 : aggT Try.prog 3 = some false := by kernel_rfl
@[simp] theorem info_3 : (Try.prog.info? 3).isSome = true := by kernel_rfl
attribute [simp] Try.underlying4
@[simp] theorem cells_4 : Try.prog.cellsOf 4 = 1 := by kernel_rfl
@[simp] theorem bytes_4 : Try.prog.bytesOf 4 = 1 := by kernel_rfl
@[simp] theorem zval_4 : zval Try.prog 4 = some (.bool false) := by kernel_rfl
@[simp] theorem aggT_4 : aggT Try.prog 4 = some false := by kernel_rfl
@[simp] theorem info_4 : (Try.prog.info? 4).isSome = true := by kernel_rfl
attribute [simp] Try.underlying5
@[simp] theorem cells_5 : Try.prog.cellsOf 5 = 1 := by kernel_rfl
@[simp] theorem bytes_5 : Try.prog.bytesOf 5 = 1 := by kernel_rfl
@[simp] theorem zval_5 : zval Try.prog 5 = some (.int .u8 0) := by kernel_rfl
@[simp] theorem aggT_5 : aggT Try.prog 5 = some false := by kernel_rfl
@[simp] theorem info_5 : (Try.prog.info? 5).isSome = true := by kernel_rfl
attribute [simp] Try.underlying6
@[simp] theorem cells_6 : Try.prog.cellsOf 6 = 1 := by kernel_rfl
@[simp] theorem bytes_6 : Try.prog.bytesOf 6 = 1 := by kernel_rfl
@[simp] theorem zval_6 : zval Try.prog 6 = some (.int .u8 0) := by kernel_rfl
@[simp] theorem aggT_6 : aggT Try.prog 6 = some false := by kernel_rfl
@[simp] theorem info_6 : (Try.prog.info? 6).isSome = true := by kernel_rfl
attribute [simp] Try.underlying7
@[simp] theorem cells_7 : Try.prog.cellsOf 7 = 4 := by kernel_rfl
@[simp] theorem bytes_7 : Try.prog.bytesOf 7 = 24 := by kernel_rfl
@[simp] theorem zval_7 : zval Try.prog 7 = some (.agg [.int .i64 0, .int .i64 0, .bool false, .int .u8 0]) := by kernel_rfl
@[simp] theorem aggT_7 : aggT Try.prog 7 = some true := by kernel_rfl
@[simp] theorem info_7 : (Try.prog.info? 7).isSome = true := by kernel_rfl
attribute [simp] Try.underlying8
@[simp] theorem cells_8 : Try.prog.cellsOf 8 = 4 := by kernel_rfl
@[simp] theorem bytes_8 : Try.prog.bytesOf 8 = 24 := by kernel_rfl
@[simp] theorem zval_8 : zval Try.prog 8 = some (.agg [.int .i64 0, .int .i64 0, .bool false, .int .u8 0]) := by kernel_rfl
@[simp] theorem aggT_8 : aggT Try.prog 8 = some true := by kernel_rfl
@[simp] theorem info_8 : (Try.prog.info? 8).isSome = true := by kernel_rfl
attribute [simp] Try.underlying9
@[simp] theorem cells_9 : Try.prog.cellsOf 9 = 1 := by kernel_rfl
@[simp] theorem bytes_9 : Try.prog.bytesOf 9 = 16 := by kernel_rfl
@[simp] theorem zval_9 : zval Try.prog 9 = some (.str ⟨#[]⟩) := by kernel_rfl
@[simp] theorem aggT_9 : aggT Try.prog 9 = some false := by kernel_rfl
@[simp] theorem info_9 : (Try.prog.info? 9).isSome = true := by kernel_rfl
attribute [simp] Try.underlying10
@[simp] theorem cells_10 : Try.prog.cellsOf 10 = 1 := by kernel_rfl
@[simp] theorem bytes_10 : Try.prog.bytesOf 10 = 16 := by kernel_rfl
@[simp] theorem zval_10 : zval Try.prog 10 = some (.str ⟨#[]⟩) := by kernel_rfl
@[simp] theorem aggT_10 : aggT Try.prog 10 = some false := by kernel_rfl
@[simp] theorem info_10 : (Try.prog.info? 10).isSome = true := by kernel_rfl
attribute [simp] Try.underlying11
@[simp] theorem cells_11 : Try.prog.cellsOf 11 = 1 := by kernel_rfl
@[simp] theorem bytes_11 : Try.prog.bytesOf 11 = 16 := by kernel_rfl
@[simp] theorem zval_11 : zval Try.prog 11 = some (.str ⟨#[]⟩) := by kernel_rfl
@[simp] theorem aggT_11 : aggT Try.prog 11 = some false := by kernel_rfl
@[simp] theorem info_11 : (Try.prog.info? 11).isSome = true := by kernel_rfl
attribute [simp] Try.underlying12
@[simp] theorem cells_12 : Try.prog.cellsOf 12 = 1 := by kernel_rfl
@[simp] theorem bytes_12 : Try.prog.bytesOf 12 = 8 := by kernel_rfl
@[simp] theorem zval_12 : zval Try.prog 12 = some (.int .u64 0) := by kernel_rfl
@[simp] theorem aggT_12 : aggT Try.prog 12 = some false := by kernel_rfl
@[simp] theorem info_12 : (Try.prog.info? 12).isSome = true := by kernel_rfl
attribute [simp] Try.underlying13
@[simp] theorem cells_13 : Try.prog.cellsOf 13 = 2 := by kernel_rfl
@[simp] theorem bytes_13 : Try.prog.bytesOf 13 = 24 := by kernel_rfl
@[simp] theorem zval_13 : zval Try.prog 13 = some (.agg [.str ⟨#[]⟩, .int .u64 0]) := by kernel_rfl
@[simp] theorem aggT_13 : aggT Try.prog 13 = some true := by kernel_rfl
@[simp] theorem info_13 : (Try.prog.info? 13).isSome = true := by kernel_rfl
attribute [simp] Try.underlying14
@[simp] theorem cells_14 : Try.prog.cellsOf 14 = 2 := by kernel_rfl
@[simp] theorem bytes_14 : Try.prog.bytesOf 14 = 24 := by kernel_rfl
@[simp] theorem zval_14 : zval Try.prog 14 = some (.agg [.str ⟨#[]⟩, .int .u64 0]) := by kernel_rfl
@[simp] theorem aggT_14 : aggT Try.prog 14 = some true := by kernel_rfl
@[simp] theorem info_14 : (Try.prog.info? 14).isSome = true := by kernel_rfl
attribute [simp] Try.underlying15
@[simp] theorem cells_15 : Try.prog.cellsOf 15 = 1 := by kernel_rfl
@[simp] theorem bytes_15 : Try.prog.bytesOf 15 = 8 := by kernel_rfl
@[simp] theorem zval_15 : zval Try.prog 15 = some (.nilp) := by kernel_rfl
@[simp] theorem aggT_15 : aggT Try.prog 15 = some false := by kernel_rfl
@[simp] theorem info_15 : (Try.prog.info? 15).isSome = true := by kernel_rfl
attribute [simp] Try.underlying16
@[simp] theorem cells_16 : Try.prog.cellsOf 16 = 1 := by kernel_rfl
@[simp] theorem bytes_16 : Try.prog.bytesOf 16 = 8 := by kernel_rfl
@[simp] theorem zval_16 : zval Try.prog 16 = some (.nilp) := by kernel_rfl
@[simp] theorem aggT_16 : aggT Try.prog 16 = some false := by kernel_rfl
@[simp] theorem info_16 : (Try.prog.info? 16).isSome = true := by kernel_rfl
attribute [simp] Try.underlying17
@[simp] theorem cells_17 : Try.prog.cellsOf 17 = 1 := by kernel_rfl
@[simp] theorem bytes_17 : Try.prog.bytesOf 17 = 8 := by kernel_rfl
@[simp] theorem zval_17 : zval Try.prog 17 = some (.nilp) := by kernel_rfl
@[simp] theorem aggT_17 : aggT Try.prog 17 = some false := by kernel_rfl
@[simp] theorem info_17 : (Try.prog.info? 17).isSome = true := by kernel_rfl
attribute [simp] Try.underlying18
@[simp] theorem cells_18 : Try.prog.cellsOf 18 = 1 := by kernel_rfl
@[simp] theorem bytes_18 : Try.prog.bytesOf 18 = 8 := by kernel_rfl
@[simp] theorem zval_18 : zval Try.prog 18 = some (.agg [.nilp]) := by kernel_rfl
@[simp] theorem aggT_18 : aggT Try.prog 18 = some true := by kernel_rfl
@[simp] theorem info_18 : (Try.prog.info? 18).isSome = true := by kernel_rfl
attribute [simp] Try.underlying19
@[simp] theorem cells_19 : Try.prog.cellsOf 19 = 1 := by kernel_rfl
@[simp] theorem bytes_19 : Try.prog.bytesOf 19 = 8 := by kernel_rfl
@[simp] theorem zval_19 : zval Try.prog 19 = some (.agg [.nilp]) := by kernel_rfl
@[simp] theorem aggT_19 : aggT Try.prog 19 = some true := by kernel_rfl
@[simp] theorem info_19 : (Try.prog.info? 19).isSome = true := by kernel_rfl
attribute [simp] Try.underlying20
@[simp] theorem cells_20 : Try.prog.cellsOf 20 = 1 := by kernel_rfl
@[simp] theorem bytes_20 : Try.prog.bytesOf 20 = 16 := by kernel_rfl
@[simp] theorem zval_20 : zval Try.prog 20 = some (.nilif) := by kernel_rfl
@[simp] theorem aggT_20 : aggT Try.prog 20 = some false := by kernel_rfl
@[simp] theorem info_20 : (Try.prog.info? 20).isSome = true := by kernel_rfl
attribute [simp] Try.underlying21
@[simp] theorem cells_21 : Try.prog.cellsOf 21 = 1 := by kernel_rfl
@[simp] theorem bytes_21 : Try.prog.bytesOf 21 = 4 := by kernel_rfl
@[simp] theorem zval_21 : zval Try.prog 21 = some (.int .i32 0) := by kernel_rfl
@[simp] theorem aggT_21 : aggT Try.prog 21 = some false := by kernel_rfl
@[simp] theorem info_21 : (Try.prog.info? 21).isSome = true := by kernel_rfl
attribute [simp] Try.underlying22
@[simp] theorem cells_22 : Try.prog.cellsOf 22 = 1 := by kernel_rfl
@[simp] theorem bytes_22 : Try.prog.bytesOf 22 = 24 := by kernel_rfl
@[simp] theorem zval_22 : zval Try.prog 22 = some (.nils) := by kernel_rfl
@[simp] theorem aggT_22 : aggT Try.prog 22 = some false := by kernel_rfl
@[simp] theorem info_22 : (Try.prog.info? 22).isSome = true := by kernel_rfl
attribute [simp] Try.underlying23
@[simp] theorem cells_23 : Try.prog.cellsOf 23 = 3 := by kernel_rfl
@[simp] theorem bytes_23 : Try.prog.bytesOf 23 = 40 := by kernel_rfl
@[simp] theorem zval_23 : zval Try.prog 23 = some (.agg [.int .i64 0, .int .i64 0, .nils]) := by kernel_rfl
@[simp] theorem aggT_23 : aggT Try.prog 23 = some true := by kernel_rfl
@[simp] theorem info_23 : (Try.prog.info? 23).isSome = true := by kernel_rfl
attribute [simp] Try.underlying24
@[simp] theorem cells_24 : Try.prog.cellsOf 24 = 3 := by kernel_rfl
@[simp] theorem bytes_24 : Try.prog.bytesOf 24 = 40 := by kernel_rfl
@[simp] theorem zval_24 : zval Try.prog 24 = some (.agg [.int .i64 0, .int .i64 0, .nils]) := by kernel_rfl
@[simp] theorem aggT_24 : aggT Try.prog 24 = some true := by kernel_rfl
@[simp] theorem info_24 : (Try.prog.info? 24).isSome = true := by kernel_rfl
attribute [simp] Try.underlying25
@[simp] theorem cells_25 : Try.prog.cellsOf 25 = 1 := by kernel_rfl
@[simp] theorem bytes_25 : Try.prog.bytesOf 25 = 24 := by kernel_rfl
@[simp] theorem zval_25 : zval Try.prog 25 = some (.nils) := by kernel_rfl
@[simp] theorem aggT_25 : aggT Try.prog 25 = some false := by kernel_rfl
@[simp] theorem info_25 : (Try.prog.info? 25).isSome = true := by kernel_rfl
attribute [simp] Try.underlying26
@[simp] theorem cells_26 : Try.prog.cellsOf 26 = 1 := by kernel_rfl
@[simp] theorem bytes_26 : Try.prog.bytesOf 26 = 8 := by kernel_rfl
@[simp] theorem zval_26 : zval Try.prog 26 = some (.int .i64 0) := by kernel_rfl
@[simp] theorem aggT_26 : aggT Try.prog 26 = some false := by kernel_rfl
@[simp] theorem info_26 : (Try.prog.info? 26).isSome = true := by kernel_rfl
attribute [simp] Try.underlying32
@[simp] theorem cells_32 : Try.prog.cellsOf 32 = 1 := by kernel_rfl
@[simp] theorem bytes_32 : Try.prog.bytesOf 32 = 8 := by kernel_rfl
@[simp] theorem zval_32 : zval Try.prog 32 = some (.nilp) := by kernel_rfl
@[simp] theorem aggT_32 : aggT Try.prog 32 = some false := by kernel_rfl
@[simp] theorem info_32 : (Try.prog.info? 32).isSome = true := by kernel_rfl
attribute [simp] Try.underlying33
@[simp] theorem cells_33 : Try.prog.cellsOf 33 = 2 := by kernel_rfl
@[simp] theorem bytes_33 : Try.prog.bytesOf 33 = 32 := by kernel_rfl
@[simp] theorem zval_33 : zval Try.prog 33 = some (.agg [.nils, .int .i64 0]) := by kernel_rfl
@[simp] theorem aggT_33 : aggT Try.prog 33 = some true := by kernel_rfl
@[simp] theorem info_33 : (Try.prog.info? 33).isSome = true := by kernel_rfl
attribute [simp] Try.underlying34
@[simp] theorem cells_34 : Try.prog.cellsOf 34 = 2 := by kernel_rfl
@[simp] theorem bytes_34 : Try.prog.bytesOf 34 = 32 := by kernel_rfl
@[simp] theorem zval_34 : zval Try.prog 34 = some (.agg [.nils, .int .i64 0]) := by kernel_rfl
@[simp] theorem aggT_34 : aggT Try.prog 34 = some true := by kernel_rfl
@[simp] theorem info_34 : (Try.prog.info? 34).isSome = true := by kernel_rfl
attribute [simp] Try.underlying38
@[simp] theorem cells_38 : Try.prog.cellsOf 38 = 3 := by kernel_rfl
@[simp] theorem bytes_38 : Try.prog.bytesOf 38 = 40 := by kernel_rfl
@[simp] theorem zval_38 : zval Try.prog 38 = some (.agg [.nils, .int .i64 0, .int .i64 0]) := by kernel_rfl
@[simp] theorem aggT_38 : aggT Try.prog 38 = some true := by kernel_rfl
@[simp] theorem info_38 : (Try.prog.info? 38).isSome = true := by kernel_rfl
attribute [simp] Try.underlying39
@[simp] theorem cells_39 : Try.prog.cellsOf 39 = 3 := by kernel_rfl
@[simp] theorem bytes_39 : Try.prog.bytesOf 39 = 40 := by kernel_rfl
@[simp] theorem zval_39 : zval Try.prog 39 = some (.agg [.nils, .int .i64 0, .int .i64 0]) := by kernel_rfl
@[simp] theorem aggT_39 : aggT Try.prog 39 = some true := by kernel_rfl
@[simp] theorem info_39 : (Try.prog.info? 39).isSome = true := by kernel_rfl
attribute [simp] Try.underlying41
@[simp] theorem cells_41 : Try.prog.cellsOf 41 = 6 := by kernel_rfl
@[simp] theorem bytes_41 : Try.prog.bytesOf 41 = 64 := by kernel_rfl
@[simp] theorem zval_41 : zval Try.prog 41 = some (.agg [.int .i64 0, .int .i64 0, .nils, .int .i64 0, .int .i64 0, .int .i64 0]) := by kernel_rfl
@[simp] theorem aggT_41 : aggT Try.prog 41 = some true := by kernel_rfl
@[simp] theorem info_41 : (Try.prog.info? 41).isSome = true := by kernel_rfl
attribute [simp] Try.underlying42
@[simp] theorem cells_42 : Try.prog.cellsOf 42 = 6 := by kernel_rfl
@[simp] theorem bytes_42 : Try.prog.bytesOf 42 = 64 := by kernel_rfl
@[simp] theorem zval_42 : zval Try.prog 42 = some (.agg [.int .i64 0, .int .i64 0, .nils, .int .i64 0, .int .i64 0, .int .i64 0]) := by kernel_rfl
@[simp] theorem aggT_42 : aggT Try.prog 42 = some true := by kernel_rfl
@[simp] theorem info_42 : (Try.prog.info? 42).isSome = true := by kernel_rfl
attribute [simp] Try.underlying55
@[simp] theorem cells_55 : Try.prog.cellsOf 55 = 1 := by kernel_rfl
@[simp] theorem bytes_55 : Try.prog.bytesOf 55 = 8 := by kernel_rfl
@[simp] theorem zval_55 : zval Try.prog 55 = some (.nilf) := by kernel_rfl
@[simp] theorem aggT_55 : aggT Try.prog 55 = some false := by kernel_rfl
@[simp] theorem info_55 : (Try.prog.info? 55).isSome = true := by kernel_rfl
attribute [simp] Try.underlying65
@[simp] theorem cells_65 : Try.prog.cellsOf 65 = 1 := by kernel_rfl
@[simp] theorem bytes_65 : Try.prog.bytesOf 65 = 16 := by kernel_rfl
@[simp] theorem zval_65 : zval Try.prog 65 = some (.nilif) := by kernel_rfl
@[simp] theorem aggT_65 : aggT Try.prog 65 = some false := by kernel_rfl
@[simp] theorem info_65 : (Try.prog.info? 65).isSome = true := by kernel_rfl
attribute [simp] Try.underlying66
@[simp] theorem cells_66 : Try.prog.cellsOf 66 = 1 := by kernel_rfl
@[simp] theorem bytes_66 : Try.prog.bytesOf 66 = 16 := by kernel_rfl
@[simp] theorem zval_66 : zval Try.prog 66 = some (.nilif) := by kernel_rfl
@[simp] theorem aggT_66 : aggT Try.prog 66 = some false := by kernel_rfl
@[simp] theorem info_66 : (Try.prog.info? 66).isSome = true := by kernel_rfl
attribute [simp] Try.underlying68
@[simp] theorem cells_68 : Try.prog.cellsOf 68 = 6 := by kernel_rfl
@[simp] theorem bytes_68 : Try.prog.bytesOf 68 = 80 := by kernel_rfl
@[simp] theorem zval_68 : zval Try.prog 68 = some (.agg [.int .i64 0, .int .i64 0, .nils, .int .i64 0, .int .i64 0, .nils]) := by kernel_rfl
@[simp] theorem aggT_68 : aggT Try.prog 68 = some true := by kernel_rfl
@[simp] theorem info_68 : (Try.prog.info? 68).isSome = true := by kernel_rfl
attribute [simp] Try.underlying69
@[simp] theorem cells_69 : Try.prog.cellsOf 69 = 6 := by kernel_rfl
@[simp] theorem bytes_69 : Try.prog.bytesOf 69 = 80 := by kernel_rfl
@[simp] theorem zval_69 : zval Try.prog 69 = some (.agg [.int .i64 0, .int .i64 0, .nils, .int .i64 0, .int .i64 0, .nils]) := by kernel_rfl
@[simp] theorem aggT_69 : aggT Try.prog 69 = some true := by kernel_rfl
@[simp] theorem info_69 : (Try.prog.info? 69).isSome = true := by kernel_rfl
attribute [simp] Try.underlying70
@[simp] theorem cells_70 : Try.prog.cellsOf 70 = 6 := by kernel_rfl
@[simp] theorem bytes_70 : Try.prog.bytesOf 70 = 80 := by kernel_rfl
@[simp] theorem zval_70 : zval Try.prog 70 = some (.agg [.int .i64 0, .int .i64 0, .nils, .int .i64 0, .int .i64 0, .nils]) := by kernel_rfl
@[simp] theorem aggT_70 : aggT Try.prog 70 = some true := by kernel_rfl
@[simp] theorem info_70 : (Try.prog.info? 70).isSome = true := by kernel_rfl
attribute [simp] Try.underlying71
@[simp] theorem cells_71 : Try.prog.cellsOf 71 = 4 := by kernel_rfl
@[simp] theorem bytes_71 : Try.prog.bytesOf 71 = 48 := by kernel_rfl
@[simp] theorem zval_71 : zval Try.prog 71 = some (.agg [.int .i64 0, .int .i64 0, .int .i64 0, .nils]) := by kernel_rfl
@[simp] theorem aggT_71 : aggT Try.prog 71 = some true := by kernel_rfl
@[simp] theorem info_71 : (Try.prog.info? 71).isSome = true := by kernel_rfl
attribute [simp] Try.underlying72
@[simp] theorem cells_72 : Try.prog.cellsOf 72 = 4 := by kernel_rfl
@[simp] theorem bytes_72 : Try.prog.bytesOf 72 = 48 := by kernel_rfl
@[simp] theorem zval_72 : zval Try.prog 72 = some (.agg [.int .i64 0, .int .i64 0, .int .i64 0, .nils]) := by kernel_rfl
@[simp] theorem aggT_72 : aggT Try.prog 72 = some true := by kernel_rfl
@[simp] theorem info_72 : (Try.prog.info? 72).isSome = true := by kernel_rfl
attribute [simp] Try.underlying73
@[simp] theorem cells_73 : Try.prog.cellsOf 73 = 3 := by kernel_rfl
@[simp] theorem bytes_73 : Try.prog.bytesOf 73 = 24 := by kernel_rfl
@[simp] theorem zval_73 : zval Try.prog 73 = some (.agg [.int .i64 0, .int .i64 0, .int .i64 0]) := by kernel_rfl
@[simp] theorem aggT_73 : aggT Try.prog 73 = some true := by kernel_rfl
@[simp] theorem info_73 : (Try.prog.info? 73).isSome = true := by kernel_rfl
attribute [simp] Try.underlying74
@[simp] theorem cells_74 : Try.prog.cellsOf 74 = 3 := by kernel_rfl
@[simp] theorem bytes_74 : Try.prog.bytesOf 74 = 24 := by kernel_rfl
@[simp] theorem zval_74 : zval Try.prog 74 = some (.agg [.int .i64 0, .int .i64 0, .int .i64 0]) := by kernel_rfl
@[simp] theorem aggT_74 : aggT Try.prog 74 = some true := by kernel_rfl
@[simp] theorem info_74 : (Try.prog.info? 74).isSome = true := by kernel_rfl
attribute [simp] Try.underlying78
@[simp] theorem cells_78 : Try.prog.cellsOf 78 = 1 := by kernel_rfl
@[simp] theorem bytes_78 : Try.prog.bytesOf 78 = 24 := by kernel_rfl
@[simp] theorem zval_78 : zval Try.prog 78 = some (.nils) := by kernel_rfl
@[simp] theorem aggT_78 : aggT Try.prog 78 = some false := by kernel_rfl
@[simp] theorem info_78 : (Try.prog.info? 78).isSome = true := by kernel_rfl
attribute [simp] Try.underlying83
@[simp] theorem cells_83 : Try.prog.cellsOf 83 = 4 := by kernel_rfl
@[simp] theorem bytes_83 : Try.prog.bytesOf 83 = 40 := by kernel_rfl
@[simp] theorem zval_83 : zval Try.prog 83 = some (.agg [.nilp, .nilp, .nilp, .str ⟨#[]⟩]) := by kernel_rfl
@[simp] theorem aggT_83 : aggT Try.prog 83 = some true := by kernel_rfl
@[simp] theorem info_83 : (Try.prog.info? 83).isSome = true := by kernel_rfl
attribute [simp] Try.underlying84
@[simp] theorem cells_84 : Try.prog.cellsOf 84 = 4 := by kernel_rfl
@[simp] theorem bytes_84 : Try.prog.bytesOf 84 = 40 := by kernel_rfl
@[simp] theorem zval_84 : zval Try.prog 84 = some (.agg [.nilp, .nilp, .nilp, .str ⟨#[]⟩]) := by kernel_rfl
@[simp] theorem aggT_84 : aggT Try.prog 84 = some true := by kernel_rfl
@[simp] theorem info_84 : (Try.prog.info? 84).isSome = true := by kernel_rfl
attribute [simp] Try.underlying85
@[simp] theorem cells_85 : Try.prog.cellsOf 85 = 0 := by kernel_rfl
@[simp] theorem bytes_85 : Try.prog.bytesOf 85 = 0 := by kernel_rfl
@[simp] theorem zval_85 : zval Try.prog 85 = some (.agg []) := by kernel_rfl
@[simp] theorem aggT_85 : aggT Try.prog 85 = some true := by kernel_rfl
@[simp] theorem info_85 : (Try.prog.info? 85).isSome = true := by kernel_rfl
attribute [simp] Try.underlying86
@[simp] theorem cells_86 : Try.prog.cellsOf 86 = 0 := by kernel_rfl
@[simp] theorem bytes_86 : Try.prog.bytesOf 86 = 0 := by kernel_rfl
@[simp] theorem zval_86 : zval Try.prog 86 = some (.agg []) := by kernel_rfl
@[simp] theorem aggT_86 : aggT Try.prog 86 = some true := by kernel_rfl
@[simp] theorem info_86 : (Try.prog.info? 86).isSome = true := by kernel_rfl
attribute [simp] Try.underlying87
@[simp] theorem cells_87 : Try.prog.cellsOf 87 = 0 := by kernel_rfl
@[simp] theorem bytes_87 : Try.prog.bytesOf 87 = 0 := by kernel_rfl
@[simp] theorem zval_87 : zval Try.prog 87 = some (.agg []) := by kernel_rfl
@[simp] theorem aggT_87 : aggT Try.prog 87 = some true := by kernel_rfl
@[simp] theorem info_87 : (Try.prog.info? 87).isSome = true := by kernel_rfl
attribute [simp] Try.underlying89
@[simp] theorem cells_89 : Try.prog.cellsOf 89 = 1 := by kernel_rfl
@[simp] theorem bytes_89 : Try.prog.bytesOf 89 = 4 := by kernel_rfl
@[simp] theorem zval_89 : zval Try.prog 89 = some (.int .u32 0) := by kernel_rfl
@[simp] theorem aggT_89 : aggT Try.prog 89 = some false := by kernel_rfl
@[simp] theorem info_89 : (Try.prog.info? 89).isSome = true := by kernel_rfl
attribute [simp] Try.underlying90
@[simp] theorem cells_90 : Try.prog.cellsOf 90 = 1 := by kernel_rfl
@[simp] theorem bytes_90 : Try.prog.bytesOf 90 = 1 := by kernel_rfl
@[simp] theorem zval_90 : zval Try.prog 90 = some (.int .u8 0) := by kernel_rfl
@[simp] theorem aggT_90 : aggT Try.prog 90 = some false := by kernel_rfl
@[simp] theorem info_90 : (Try.prog.info? 90).isSome = true := by kernel_rfl
attribute [simp] Try.underlying91
@[simp] theorem cells_91 : Try.prog.cellsOf 91 = 1 := by kernel_rfl
@[simp] theorem bytes_91 : Try.prog.bytesOf 91 = 1 := by kernel_rfl
@[simp] theorem zval_91 : zval Try.prog 91 = some (.int .u8 0) := by kernel_rfl
@[simp] theorem aggT_91 : aggT Try.prog 91 = some false := by kernel_rfl
@[simp] theorem info_91 : (Try.prog.info? 91).isSome = true := by kernel_rfl
attribute [simp] Try.underlying93
@[simp] theorem cells_93 : Try.prog.cellsOf 93 = 1 := by kernel_rfl
@[simp] theorem bytes_93 : Try.prog.bytesOf 93 = 8 := by kernel_rfl
@[simp] theorem zval_93 : zval Try.prog 93 = some (.nilp) := by kernel_rfl
@[simp] theorem aggT_93 : aggT Try.prog 93 = some false := by kernel_rfl
@[simp] theorem info_93 : (Try.prog.info? 93).isSome = true := by kernel_rfl
attribute [simp] Try.underlying94
@[simp] theorem cells_94 : Try.prog.cellsOf 94 = 1 := by kernel_rfl
@[simp] theorem bytes_94 : Try.prog.bytesOf 94 = 4 := by kernel_rfl
@[simp] theorem zval_94 : zval Try.prog 94 = some (.int .i32 0) := by kernel_rfl
@[simp] theorem aggT_94 : aggT Try.prog 94 = some false := by kernel_rfl
@[simp] theorem info_94 : (Try.prog.info? 94).isSome = true := by kernel_rfl
attribute [simp] Try.underlying95
@[simp] theorem cells_95 : Try.prog.cellsOf 95 = 1 := by kernel_rfl
@[simp] theorem bytes_95 : Try.prog.bytesOf 95 = 4 := by kernel_rfl
@[simp] theorem zval_95 : zval Try.prog 95 = some (.int .i32 0) := by kernel_rfl
@[simp] theorem aggT_95 : aggT Try.prog 95 = some false := by kernel_rfl
@[simp] theorem info_95 : (Try.prog.info? 95).isSome = true := by kernel_rfl
attribute [simp] Try.underlying96
@[simp] theorem cells_96 : Try.prog.cellsOf 96 = 11 := by kernel_rfl
@[simp] theorem bytes_96 : Try.prog.bytesOf 96 = 48 := by kernel_rfl
@[simp] theorem zval_96 : zval Try.prog 96 = some (.agg [.int .u64 0, .int .u64 0, .int .u32 0, .int .u8 0, .int .u8 0, .int .u8 0, .int .u8 0, .nilf, .nilp, .int .i32 0, .int .i32 0]) := by kernel_rfl
@[simp] theorem aggT_96 : aggT Try.prog 96 = some true := by kernel_rfl
@[simp] theorem info_96 : (Try.prog.info? 96).isSome = true := by kernel_rfl
attribute [simp] Try.underlying97
@[simp] theorem cells_97 : Try.prog.cellsOf 97 = 11 := by kernel_rfl
@[simp] theorem bytes_97 : Try.prog.bytesOf 97 = 48 := by kernel_rfl
@[simp] theorem zval_97 : zval Try.prog 97 = some (.agg [.int .u64 0, .int .u64 0, .int .u32 0, .int .u8 0, .int .u8 0, .int .u8 0, .int .u8 0, .nilf, .nilp, .int .i32 0, .int .i32 0]) := by kernel_rfl
@[simp] theorem aggT_97 : aggT Try.prog 97 = some true := by kernel_rfl
@[simp] theorem info_97 : (Try.prog.info? 97).isSome = true := by kernel_rfl
attribute [simp] Try.underlying99
@[simp] theorem cells_99 : Try.prog.cellsOf 99 = 1 := by kernel_rfl
@[simp] theorem bytes_99 : Try.prog.bytesOf 99 = 8 := by kernel_rfl
@[simp] theorem zval_99 : zval Try.prog 99 = some (.nilp) := by kernel_rfl
@[simp] theorem aggT_99 : aggT Try.prog 99 = some false := by kernel_rfl
@[simp] theorem info_99 : (Try.prog.info? 99).isSome = true := by kernel_rfl
theorem mixed : Try.prog.follows .mixedOrders = true := by kernel_rfl
end Go.Proofs.Ytmamhpbblicaeaa.Ax
