/- Facts on the types of the translation, for simp; by program. -/
import Derived.Test.YtibfdebhbibfpaaGreatAxN
import Derived.Test.YtibfdebhbibfpaaGreatProg
import Derived.KernelRfl
set_option linter.unusedSimpArgs false
set_option maxRecDepth 20000
namespace Go.Proofs.YtibfdebhbibfpaaGreat.Ax
open Go Go.Proofs

attribute [simp] Tryz.underlying2
@[simp] theorem cells_2 : Tryz.prog.cellsOf 2 = 1 := by kernel_rfl
@[simp] theorem bytes_2 : Tryz.prog.bytesOf 2 = 8 := by kernel_rfl
@[simp] theorem zval_2 : zval Tryz.prog 2 = some (.int .i64 0) := by kernel_rfl
@[simp] theorem aggT_2 : aggT Tryz.prog 2 = some false := by kernel_rfl
@[simp] theorem info_2 : (Tryz.prog.info? 2).isSome = true := by kernel_rfl
attribute [simp] Tryz.underlying3
@[simp] theorem cells_3 : Tryz.prog.cellsOf 3 = 1 := by kernel_rfl
@[simp] theorem bytes_3 : Tryz.prog.bytesOf 3 = 8 := by kernel_rfl
@[simp] theorem zval_3 : zval Tryz.prog 3 = some (.int .i64 0) := by kernel_rfl
@[simp] theorem aggT_3 : aggT Tryz.prog 3 = some false := by kernel_rfl
@[simp] theorem info_3 : (Tryz.prog.info? 3).isSome = true := by kernel_rfl
attribute [simp] Tryz.underlying4
@[simp] theorem cells_4 : Tryz.prog.cellsOf 4 = 1 := by kernel_rfl
@[simp] theorem bytes_4 : Tryz.prog.bytesOf 4 = 1 := by kernel_rfl
@[simp] theorem zval_4 : zval Tryz.prog 4 = some (.bool false) := by kernel_rfl
@[simp] theorem aggT_4 : aggT Tryz.prog 4 = some false := by kernel_rfl
@[simp] theorem info_4 : (Tryz.prog.info? 4).isSome = true := by kernel_rfl
attribute [simp] Tryz.underlying5
@[simp] theorem cells_5 : Tryz.prog.cellsOf 5 = 1 := by kernel_rfl
@[simp] theorem bytes_5 : Tryz.prog.bytesOf 5 = 1 := by kernel_rfl
@[simp] theorem zval_5 : zval Tryz.prog 5 = some (.int .u8 0) := by kernel_rfl
@[simp] theorem aggT_5 : aggT Tryz.prog 5 = some false := by kernel_rfl
@[simp] theorem info_5 : (Tryz.prog.info? 5).isSome = true := by kernel_rfl
attribute [simp] Tryz.underlying6
@[simp] theorem cells_6 : Tryz.prog.cellsOf 6 = 1 := by kernel_rfl
@[simp] theorem bytes_6 : Tryz.prog.bytesOf 6 = 1 := by kernel_rfl
@[simp] theorem zval_6 : zval Tryz.prog 6 = some (.int .u8 0) := by kernel_rfl
@[simp] theorem aggT_6 : aggT Tryz.prog 6 = some false := by kernel_rfl
@[simp] theorem info_6 : (Tryz.prog.info? 6).isSome = true := by kernel_rfl
attribute [simp] Tryz.underlying7
@[simp] theorem cells_7 : Tryz.prog.cellsOf 7 = 4 := by kernel_rfl
@[simp] theorem bytes_7 : Tryz.prog.bytesOf 7 = 24 := by kernel_rfl
@[simp] theorem zval_7 : zval Tryz.prog 7 = some (.agg [.int .i64 0, .int .i64 0, .bool false, .int .u8 0]) := by kernel_rfl
@[simp] theorem aggT_7 : aggT Tryz.prog 7 = some true := by kernel_rfl
@[simp] theorem info_7 : (Tryz.prog.info? 7).isSome = true := by kernel_rfl
attribute [simp] Tryz.underlying8
@[simp] theorem cells_8 : Tryz.prog.cellsOf 8 = 4 := by kernel_rfl
@[simp] theorem bytes_8 : Tryz.prog.bytesOf 8 = 24 := by kernel_rfl
@[simp] theorem zval_8 : zval Tryz.prog 8 = some (.agg [.int .i64 0, .int .i64 0, .bool false, .int .u8 0]) := by kernel_rfl
@[simp] theorem aggT_8 : aggT Tryz.prog 8 = some true := by kernel_rfl
@[simp] theorem info_8 : (Tryz.prog.info? 8).isSome = true := by kernel_rfl
attribute [simp] Tryz.underlying9
@[simp] theorem cells_9 : Tryz.prog.cellsOf 9 = 1 := by kernel_rfl
@[simp] theorem bytes_9 : Tryz.prog.bytesOf 9 = 16 := by kernel_rfl
@[simp] theorem zval_9 : zval Tryz.prog 9 = some (.str ⟨#[]⟩) := by kernel_rfl
@[simp] theorem aggT_9 : aggT Tryz.prog 9 = some false := by kernel_rfl
@[simp] theorem info_9 : (Tryz.prog.info? 9).isSome = true := by kernel_rfl
attribute [simp] Tryz.underlying10
@[simp] theorem cells_10 : Tryz.prog.cellsOf 10 = 1 := by kernel_rfl
@[simp] theorem bytes_10 : Tryz.prog.bytesOf 10 = 16 := by kernel_rfl
@[simp] theorem zval_10 : zval Tryz.prog 10 = some (.str ⟨#[]⟩) := by kernel_rfl
@[simp] theorem aggT_10 : aggT Tryz.prog 10 = some false := by kernel_rfl
@[simp] theorem info_10 : (Tryz.prog.info? 10).isSome = true := by kernel_rfl
attribute [simp] Tryz.underlying11
@[simp] theorem cells_11 : Tryz.prog.cellsOf 11 = 1 := by kernel_rfl
@[simp] theorem bytes_11 : Tryz.prog.bytesOf 11 = 16 := by kernel_rfl
@[simp] theorem zval_11 : zval Tryz.prog 11 = some (.str ⟨#[]⟩) := by kernel_rfl
@[simp] theorem aggT_11 : aggT Tryz.prog 11 = some false := by kernel_rfl
@[simp] theorem info_11 : (Tryz.prog.info? 11).isSome = true := by kernel_rfl
attribute [simp] Tryz.underlying12
@[simp] theorem cells_12 : Tryz.prog.cellsOf 12 = 1 := by kernel_rfl
@[simp] theorem bytes_12 : Tryz.prog.bytesOf 12 = 8 := by kernel_rfl
@[simp] theorem zval_12 : zval Tryz.prog 12 = some (.int .u64 0) := by kernel_rfl
@[simp] theorem aggT_12 : aggT Tryz.prog 12 = some false := by kernel_rfl
@[simp] theorem info_12 : (Tryz.prog.info? 12).isSome = true := by kernel_rfl
attribute [simp] Tryz.underlying13
@[simp] theorem cells_13 : Tryz.prog.cellsOf 13 = 2 := by kernel_rfl
@[simp] theorem bytes_13 : Tryz.prog.bytesOf 13 = 24 := by kernel_rfl
@[simp] theorem zval_13 : zval Tryz.prog 13 = some (.agg [.str ⟨#[]⟩, .int .u64 0]) := by kernel_rfl
@[simp] theorem aggT_13 : aggT Tryz.prog 13 = some true := by kernel_rfl
@[simp] theorem info_13 : (Tryz.prog.info? 13).isSome = true := by kernel_rfl
attribute [simp] Tryz.underlying14
@[simp] theorem cells_14 : Tryz.prog.cellsOf 14 = 2 := by kernel_rfl
@[simp] theorem bytes_14 : Tryz.prog.bytesOf 14 = 24 := by kernel_rfl
@[simp] theorem zval_14 : zval Tryz.prog 14 = some (.agg [.str ⟨#[]⟩, .int .u64 0]) := by kernel_rfl
@[simp] theorem aggT_14 : aggT Tryz.prog 14 = some true := by kernel_rfl
@[simp] theorem info_14 : (Tryz.prog.info? 14).isSome = true := by kernel_rfl
attribute [simp] Tryz.underlying15
@[simp] theorem cells_15 : Tryz.prog.cellsOf 15 = 1 := by kernel_rfl
@[simp] theorem bytes_15 : Tryz.prog.bytesOf 15 = 8 := by kernel_rfl
@[simp] theorem zval_15 : zval Tryz.prog 15 = some (.nilp) := by kernel_rfl
@[simp] theorem aggT_15 : aggT Tryz.prog 15 = some false := by kernel_rfl
@[simp] theorem info_15 : (Tryz.prog.info? 15).isSome = true := by kernel_rfl
attribute [simp] Tryz.underlying16
@[simp] theorem cells_16 : Tryz.prog.cellsOf 16 = 1 := by kernel_rfl
@[simp] theorem bytes_16 : Tryz.prog.bytesOf 16 = 8 := by kernel_rfl
@[simp] theorem zval_16 : zval Tryz.prog 16 = some (.nilp) := by kernel_rfl
@[simp] theorem aggT_16 : aggT Tryz.prog 16 = some false := by kernel_rfl
@[simp] theorem info_16 : (Tryz.prog.info? 16).isSome = true := by kernel_rfl
attribute [simp] Tryz.underlying17
@[simp] theorem cells_17 : Tryz.prog.cellsOf 17 = 1 := by kernel_rfl
@[simp] theorem bytes_17 : Tryz.prog.bytesOf 17 = 8 := by kernel_rfl
@[simp] theorem zval_17 : zval Tryz.prog 17 = some (.nilp) := by kernel_rfl
@[simp] theorem aggT_17 : aggT Tryz.prog 17 = some false := by kernel_rfl
@[simp] theorem info_17 : (Tryz.prog.info? 17).isSome = true := by kernel_rfl
attribute [simp] Tryz.underlying18
@[simp] theorem cells_18 : Tryz.prog.cellsOf 18 = 1 := by kernel_rfl
@[simp] theorem bytes_18 : Tryz.prog.bytesOf 18 = 8 := by kernel_rfl
@[simp] theorem zval_18 : zval Tryz.prog 18 = some (.agg [.nilp]) := by kernel_rfl
@[simp] theorem aggT_18 : aggT Tryz.prog 18 = some true := by kernel_rfl
@[simp] theorem info_18 : (Tryz.prog.info? 18).isSome = true := by kernel_rfl
attribute [simp] Tryz.underlying19
@[simp] theorem cells_19 : Tryz.prog.cellsOf 19 = 1 := by kernel_rfl
@[simp] theorem bytes_19 : Tryz.prog.bytesOf 19 = 8 := by kernel_rfl
@[simp] theorem zval_19 : zval Tryz.prog 19 = some (.agg [.nilp]) := by kernel_rfl
@[simp] theorem aggT_19 : aggT Tryz.prog 19 = some true := by kernel_rfl
@[simp] theorem info_19 : (Tryz.prog.info? 19).isSome = true := by kernel_rfl
attribute [simp] Tryz.underlying20
@[simp] theorem cells_20 : Tryz.prog.cellsOf 20 = 1 := by kernel_rfl
@[simp] theorem bytes_20 : Tryz.prog.bytesOf 20 = 16 := by kernel_rfl
@[simp] theorem zval_20 : zval Tryz.prog 20 = some (.nilif) := by kernel_rfl
@[simp] theorem aggT_20 : aggT Tryz.prog 20 = some false := by kernel_rfl
@[simp] theorem info_20 : (Tryz.prog.info? 20).isSome = true := by kernel_rfl
attribute [simp] Tryz.underlying21
@[simp] theorem cells_21 : Tryz.prog.cellsOf 21 = 1 := by kernel_rfl
@[simp] theorem bytes_21 : Tryz.prog.bytesOf 21 = 4 := by kernel_rfl
@[simp] theorem zval_21 : zval Tryz.prog 21 = some (.int .i32 0) := by kernel_rfl
@[simp] theorem aggT_21 : aggT Tryz.prog 21 = some false := by kernel_rfl
@[simp] theorem info_21 : (Tryz.prog.info? 21).isSome = true := by kernel_rfl
attribute [simp] Tryz.underlying22
@[simp] theorem cells_22 : Tryz.prog.cellsOf 22 = 1 := by kernel_rfl
@[simp] theorem bytes_22 : Tryz.prog.bytesOf 22 = 24 := by kernel_rfl
@[simp] theorem zval_22 : zval Tryz.prog 22 = some (.nils) := by kernel_rfl
@[simp] theorem aggT_22 : aggT Tryz.prog 22 = some false := by kernel_rfl
@[simp] theorem info_22 : (Tryz.prog.info? 22).isSome = true := by kernel_rfl
attribute [simp] Tryz.underlying23
@[simp] theorem cells_23 : Tryz.prog.cellsOf 23 = 2 := by kernel_rfl
@[simp] theorem bytes_23 : Tryz.prog.bytesOf 23 = 32 := by kernel_rfl
@[simp] theorem zval_23 : zval Tryz.prog 23 = some (.agg [.nils, .int .i64 0]) := by kernel_rfl
@[simp] theorem aggT_23 : aggT Tryz.prog 23 = some true := by kernel_rfl
@[simp] theorem info_23 : (Tryz.prog.info? 23).isSome = true := by kernel_rfl
attribute [simp] Tryz.underlying24
@[simp] theorem cells_24 : Tryz.prog.cellsOf 24 = 2 := by kernel_rfl
@[simp] theorem bytes_24 : Tryz.prog.bytesOf 24 = 32 := by kernel_rfl
@[simp] theorem zval_24 : zval Tryz.prog 24 = some (.agg [.nils, .int .i64 0]) := by kernel_rfl
@[simp] theorem aggT_24 : aggT Tryz.prog 24 = some true := by kernel_rfl
@[simp] theorem info_24 : (Tryz.prog.info? 24).isSome = true := by kernel_rfl
attribute [simp] Tryz.underlying25
@[simp] theorem cells_25 : Tryz.prog.cellsOf 25 = 3 := by kernel_rfl
@[simp] theorem bytes_25 : Tryz.prog.bytesOf 25 = 40 := by kernel_rfl
@[simp] theorem zval_25 : zval Tryz.prog 25 = some (.agg [.int .i64 0, .int .i64 0, .nils]) := by kernel_rfl
@[simp] theorem aggT_25 : aggT Tryz.prog 25 = some true := by kernel_rfl
@[simp] theorem info_25 : (Tryz.prog.info? 25).isSome = true := by kernel_rfl
attribute [simp] Tryz.underlying26
@[simp] theorem cells_26 : Tryz.prog.cellsOf 26 = 3 := by kernel_rfl
@[simp] theorem bytes_26 : Tryz.prog.bytesOf 26 = 40 := by kernel_rfl
@[simp] theorem zval_26 : zval Tryz.prog 26 = some (.agg [.int .i64 0, .int .i64 0, .nils]) := by kernel_rfl
@[simp] theorem aggT_26 : aggT Tryz.prog 26 = some true := by kernel_rfl
@[simp] theorem info_26 : (Tryz.prog.info? 26).isSome = true := by kernel_rfl
attribute [simp] Tryz.underlying27
@[simp] theorem cells_27 : Tryz.prog.cellsOf 27 = 1 := by kernel_rfl
@[simp] theorem bytes_27 : Tryz.prog.bytesOf 27 = 8 := by kernel_rfl
@[simp] theorem zval_27 : zval Tryz.prog 27 = some (.int .i64 0) := by kernel_rfl
@[simp] theorem aggT_27 : aggT Tryz.prog 27 = some false := by kernel_rfl
@[simp] theorem info_27 : (Tryz.prog.info? 27).isSome = true := by kernel_rfl
attribute [simp] Tryz.underlying32
@[simp] theorem cells_32 : Tryz.prog.cellsOf 32 = 1 := by kernel_rfl
@[simp] theorem bytes_32 : Tryz.prog.bytesOf 32 = 24 := by kernel_rfl
@[simp] theorem zval_32 : zval Tryz.prog 32 = some (.nils) := by kernel_rfl
@[simp] theorem aggT_32 : aggT Tryz.prog 32 = some false := by kernel_rfl
@[simp] theorem info_32 : (Tryz.prog.info? 32).isSome = true := by kernel_rfl
attribute [simp] Tryz.underlying43
@[simp] theorem cells_43 : Tryz.prog.cellsOf 43 = 1 := by kernel_rfl
@[simp] theorem bytes_43 : Tryz.prog.bytesOf 43 = 24 := by kernel_rfl
@[simp] theorem zval_43 : zval Tryz.prog 43 = some (.nils) := by kernel_rfl
@[simp] theorem aggT_43 : aggT Tryz.prog 43 = some false := by kernel_rfl
@[simp] theorem info_43 : (Tryz.prog.info? 43).isSome = true := by kernel_rfl
attribute [simp] Tryz.underlying44
@[simp] theorem cells_44 : Tryz.prog.cellsOf 44 = 3 := by kernel_rfl
@[simp] theorem bytes_44 : Tryz.prog.bytesOf 44 = 56 := by kernel_rfl
@[simp] theorem zval_44 : zval Tryz.prog 44 = some (.agg [.int .i64 0, .nils, .nils]) := by kernel_rfl
@[simp] theorem aggT_44 : aggT Tryz.prog 44 = some true := by kernel_rfl
@[simp] theorem info_44 : (Tryz.prog.info? 44).isSome = true := by kernel_rfl
attribute [simp] Tryz.underlying45
@[simp] theorem cells_45 : Tryz.prog.cellsOf 45 = 3 := by kernel_rfl
@[simp] theorem bytes_45 : Tryz.prog.bytesOf 45 = 56 := by kernel_rfl
@[simp] theorem zval_45 : zval Tryz.prog 45 = some (.agg [.int .i64 0, .nils, .nils]) := by kernel_rfl
@[simp] theorem aggT_45 : aggT Tryz.prog 45 = some true := by kernel_rfl
@[simp] theorem info_45 : (Tryz.prog.info? 45).isSome = true := by kernel_rfl
attribute [simp] Tryz.underlying49
@[simp] theorem cells_49 : Tryz.prog.cellsOf 49 = 1 := by kernel_rfl
@[simp] theorem bytes_49 : Tryz.prog.bytesOf 49 = 24 := by kernel_rfl
@[simp] theorem zval_49 : zval Tryz.prog 49 = some (.nils) := by kernel_rfl
@[simp] theorem aggT_49 : aggT Tryz.prog 49 = some false := by kernel_rfl
@[simp] theorem info_49 : (Tryz.prog.info? 49).isSome = true := by kernel_rfl
attribute [simp] Tryz.underlying58
@[simp] theorem cells_58 : Tryz.prog.cellsOf 58 = 6 := by kernel_rfl
@[simp] theorem bytes_58 : Tryz.prog.bytesOf 58 = 64 := by kernel_rfl
@[simp] theorem zval_58 : zval Tryz.prog 58 = some (.agg [.int .i64 0, .int .i64 0, .nils, .int .i64 0, .int .i64 0, .int .i64 0]) := by kernel_rfl
@[simp] theorem aggT_58 : aggT Tryz.prog 58 = some true := by kernel_rfl
@[simp] theorem info_58 : (Tryz.prog.info? 58).isSome = true := by kernel_rfl
attribute [simp] Tryz.underlying59
@[simp] theorem cells_59 : Tryz.prog.cellsOf 59 = 6 := by kernel_rfl
@[simp] theorem bytes_59 : Tryz.prog.bytesOf 59 = 64 := by kernel_rfl
@[simp] theorem zval_59 : zval Tryz.prog 59 = some (.agg [.int .i64 0, .int .i64 0, .nils, .int .i64 0, .int .i64 0, .int .i64 0]) := by kernel_rfl
@[simp] theorem aggT_59 : aggT Tryz.prog 59 = some true := by kernel_rfl
@[simp] theorem info_59 : (Tryz.prog.info? 59).isSome = true := by kernel_rfl
attribute [simp] Tryz.underlying66
@[simp] theorem cells_66 : Tryz.prog.cellsOf 66 = 1 := by kernel_rfl
@[simp] theorem bytes_66 : Tryz.prog.bytesOf 66 = 8 := by kernel_rfl
@[simp] theorem zval_66 : zval Tryz.prog 66 = some (.nilf) := by kernel_rfl
@[simp] theorem aggT_66 : aggT Tryz.prog 66 = some false := by kernel_rfl
@[simp] theorem info_66 : (Tryz.prog.info? 66).isSome = true := by kernel_rfl
attribute [simp] Tryz.underlying67
@[simp] theorem cells_67 : Tryz.prog.cellsOf 67 = 1 := by kernel_rfl
@[simp] theorem bytes_67 : Tryz.prog.bytesOf 67 = 8 := by kernel_rfl
@[simp] theorem zval_67 : zval Tryz.prog 67 = some (.nilf) := by kernel_rfl
@[simp] theorem aggT_67 : aggT Tryz.prog 67 = some false := by kernel_rfl
@[simp] theorem info_67 : (Tryz.prog.info? 67).isSome = true := by kernel_rfl
attribute [simp] Tryz.underlying68
@[simp] theorem cells_68 : Tryz.prog.cellsOf 68 = 5 := by kernel_rfl
@[simp] theorem bytes_68 : Tryz.prog.bytesOf 68 = 48 := by kernel_rfl
@[simp] theorem zval_68 : zval Tryz.prog 68 = some (.agg [.int .i64 0, .str ⟨#[]⟩, .bool false, .nilf, .nilf]) := by kernel_rfl
@[simp] theorem aggT_68 : aggT Tryz.prog 68 = some true := by kernel_rfl
@[simp] theorem info_68 : (Tryz.prog.info? 68).isSome = true := by kernel_rfl
attribute [simp] Tryz.underlying69
@[simp] theorem cells_69 : Tryz.prog.cellsOf 69 = 5 := by kernel_rfl
@[simp] theorem bytes_69 : Tryz.prog.bytesOf 69 = 48 := by kernel_rfl
@[simp] theorem zval_69 : zval Tryz.prog 69 = some (.agg [.int .i64 0, .str ⟨#[]⟩, .bool false, .nilf, .nilf]) := by kernel_rfl
@[simp] theorem aggT_69 : aggT Tryz.prog 69 = some true := by kernel_rfl
@[simp] theorem info_69 : (Tryz.prog.info? 69).isSome = true := by kernel_rfl
attribute [simp] Tryz.underlying78
@[simp] theorem cells_78 : Tryz.prog.cellsOf 78 = 5 := by kernel_rfl
@[simp] theorem bytes_78 : Tryz.prog.bytesOf 78 = 56 := by kernel_rfl
@[simp] theorem zval_78 : zval Tryz.prog 78 = some (.agg [.bool false, .int .i64 0, .int .i64 0, .nils, .int .i64 0]) := by kernel_rfl
@[simp] theorem aggT_78 : aggT Tryz.prog 78 = some true := by kernel_rfl
@[simp] theorem info_78 : (Tryz.prog.info? 78).isSome = true := by kernel_rfl
attribute [simp] Tryz.underlying79
@[simp] theorem cells_79 : Tryz.prog.cellsOf 79 = 5 := by kernel_rfl
@[simp] theorem bytes_79 : Tryz.prog.bytesOf 79 = 56 := by kernel_rfl
@[simp] theorem zval_79 : zval Tryz.prog 79 = some (.agg [.bool false, .int .i64 0, .int .i64 0, .nils, .int .i64 0]) := by kernel_rfl
@[simp] theorem aggT_79 : aggT Tryz.prog 79 = some true := by kernel_rfl
@[simp] theorem info_79 : (Tryz.prog.info? 79).isSome = true := by kernel_rfl
attribute [simp] Tryz.underlying82
@[simp] theorem cells_82 : Tryz.prog.cellsOf 82 = 1 := by kernel_rfl
@[simp] theorem bytes_82 : Tryz.prog.bytesOf 82 = 24 := by kernel_rfl
@[simp] theorem zval_82 : zval Tryz.prog 82 = some (.nils) := by kernel_rfl
@[simp] theorem aggT_82 : aggT Tryz.prog 82 = some false := by kernel_rfl
@[simp] theorem info_82 : (Tryz.prog.info? 82).isSome = true := by kernel_rfl
attribute [simp] Tryz.underlying89
@[simp] theorem cells_89 : Tryz.prog.cellsOf 89 = 1 := by kernel_rfl
@[simp] theorem bytes_89 : Tryz.prog.bytesOf 89 = 24 := by kernel_rfl
@[simp] theorem zval_89 : zval Tryz.prog 89 = some (.nils) := by kernel_rfl
@[simp] theorem aggT_89 : aggT Tryz.prog 89 = some false := by kernel_rfl
@[simp] theorem info_89 : (Tryz.prog.info? 89).isSome = true := by kernel_rfl
attribute [simp] Tryz.underlying90
@[simp] theorem cells_90 : Tryz.prog.cellsOf 90 = 1 := by kernel_rfl
@[simp] theorem bytes_90 : Tryz.prog.bytesOf 90 = 8 := by kernel_rfl
@[simp] theorem zval_90 : zval Tryz.prog 90 = some (.nilp) := by kernel_rfl
@[simp] theorem aggT_90 : aggT Tryz.prog 90 = some false := by kernel_rfl
@[simp] theorem info_90 : (Tryz.prog.info? 90).isSome = true := by kernel_rfl
attribute [simp] Tryz.underlying91
@[simp] theorem cells_91 : Tryz.prog.cellsOf 91 = 2 := by kernel_rfl
@[simp] theorem bytes_91 : Tryz.prog.bytesOf 91 = 32 := by kernel_rfl
@[simp] theorem zval_91 : zval Tryz.prog 91 = some (.agg [.nils, .int .i64 0]) := by kernel_rfl
@[simp] theorem aggT_91 : aggT Tryz.prog 91 = some true := by kernel_rfl
@[simp] theorem info_91 : (Tryz.prog.info? 91).isSome = true := by kernel_rfl
attribute [simp] Tryz.underlying92
@[simp] theorem cells_92 : Tryz.prog.cellsOf 92 = 2 := by kernel_rfl
@[simp] theorem bytes_92 : Tryz.prog.bytesOf 92 = 32 := by kernel_rfl
@[simp] theorem zval_92 : zval Tryz.prog 92 = some (.agg [.nils, .int .i64 0]) := by kernel_rfl
@[simp] theorem aggT_92 : aggT Tryz.prog 92 = some true := by kernel_rfl
@[simp] theorem info_92 : (Tryz.prog.info? 92).isSome = true := by kernel_rfl
attribute [simp] Tryz.underlying95
@[simp] theorem cells_95 : Tryz.prog.cellsOf 95 = 1 := by kernel_rfl
@[simp] theorem bytes_95 : Tryz.prog.bytesOf 95 = 8 := by kernel_rfl
@[simp] theorem zval_95 : zval Tryz.prog 95 = some (.nilf) := by kernel_rfl
@[simp] theorem aggT_95 : aggT Tryz.prog 95 = some false := by kernel_rfl
@[simp] theorem info_95 : (Tryz.prog.info? 95).isSome = true := by kernel_rfl
attribute [simp] Tryz.underlying100
@[simp] theorem cells_100 : Tryz.prog.cellsOf 100 = 3 := by kernel_rfl
@[simp] theorem bytes_100 : Tryz.prog.bytesOf 100 = 40 := by kernel_rfl
@[simp] theorem zval_100 : zval Tryz.prog 100 = some (.agg [.nils, .int .i64 0, .int .i64 0]) := by kernel_rfl
@[simp] theorem aggT_100 : aggT Tryz.prog 100 = some true := by kernel_rfl
@[simp] theorem info_100 : (Tryz.prog.info? 100).isSome = true := by kernel_rfl
attribute [simp] Tryz.underlying101
@[simp] theorem cells_101 : Tryz.prog.cellsOf 101 = 3 := by kernel_rfl
@[simp] theorem bytes_101 : Tryz.prog.bytesOf 101 = 40 := by kernel_rfl
@[simp] theorem zval_101 : zval Tryz.prog 101 = some (.agg [.nils, .int .i64 0, .int .i64 0]) := by kernel_rfl
@[simp] theorem aggT_101 : aggT Tryz.prog 101 = some true := by kernel_rfl
@[simp] theorem info_101 : (Tryz.prog.info? 101).isSome = true := by kernel_rfl
attribute [simp] Tryz.underlying111
@[simp] theorem cells_111 : Tryz.prog.cellsOf 111 = 1 := by kernel_rfl
@[simp] theorem bytes_111 : Tryz.prog.bytesOf 111 = 24 := by kernel_rfl
@[simp] theorem zval_111 : zval Tryz.prog 111 = some (.nils) := by kernel_rfl
@[simp] theorem aggT_111 : aggT Tryz.prog 111 = some false := by kernel_rfl
@[simp] theorem info_111 : (Tryz.prog.info? 111).isSome = true := by kernel_rfl
attribute [simp] Tryz.underlying129
@[simp] theorem cells_129 : Tryz.prog.cellsOf 129 = 1 := by kernel_rfl
@[simp] theorem bytes_129 : Tryz.prog.bytesOf 129 = 8 := by kernel_rfl
@[simp] theorem zval_129 : zval Tryz.prog 129 = some (.int .u64 0) := by kernel_rfl
@[simp] theorem aggT_129 : aggT Tryz.prog 129 = some false := by kernel_rfl
@[simp] theorem info_129 : (Tryz.prog.info? 129).isSome = true := by kernel_rfl
attribute [simp] Tryz.underlying138
@[simp] theorem cells_138 : Tryz.prog.cellsOf 138 = 3 := by kernel_rfl
@[simp] theorem bytes_138 : Tryz.prog.bytesOf 138 = 40 := by kernel_rfl
@[simp] theorem zval_138 : zval Tryz.prog 138 = some (.agg [.int .i64 0, .int .i64 0, .nils]) := by kernel_rfl
@[simp] theorem aggT_138 : aggT Tryz.prog 138 = some true := by kernel_rfl
@[simp] theorem info_138 : (Tryz.prog.info? 138).isSome = true := by kernel_rfl
attribute [simp] Tryz.underlying139
@[simp] theorem cells_139 : Tryz.prog.cellsOf 139 = 3 := by kernel_rfl
@[simp] theorem bytes_139 : Tryz.prog.bytesOf 139 = 40 := by kernel_rfl
@[simp] theorem zval_139 : zval Tryz.prog 139 = some (.agg [.int .i64 0, .int .i64 0, .nils]) := by kernel_rfl
@[simp] theorem aggT_139 : aggT Tryz.prog 139 = some true := by kernel_rfl
@[simp] theorem info_139 : (Tryz.prog.info? 139).isSome = true := by kernel_rfl
attribute [simp] Tryz.underlying141
@[simp] theorem cells_141 : Tryz.prog.cellsOf 141 = 1 := by kernel_rfl
@[simp] theorem bytes_141 : Tryz.prog.bytesOf 141 = 8 := by kernel_rfl
@[simp] theorem zval_141 : zval Tryz.prog 141 = some (.nilp) := by kernel_rfl
@[simp] theorem aggT_141 : aggT Tryz.prog 141 = some false := by kernel_rfl
@[simp] theorem info_141 : (Tryz.prog.info? 141).isSome = true := by kernel_rfl
attribute [simp] Tryz.underlying147
@[simp] theorem cells_147 : Tryz.prog.cellsOf 147 = 64 := by kernel_rfl
@[simp] theorem bytes_147 : Tryz.prog.bytesOf 147 = 512 := by kernel_rfl
@[simp] theorem zval_147 : zval Tryz.prog 147 = some (.agg [.int .i64 0, .int .i64 0, .int .i64 0, .int .i64 0, .int .i64 0, .int .i64 0, .int .i64 0, .int .i64 0, .int .i64 0, .int .i64 0, .int .i64 0, .int .i64 0, .int .i64 0, .int .i64 0, .int .i64 0, .int .i64 0, .int .i64 0, .int .i64 0, .int .i64 0, .int .i64 0, .int .i64 0, .int .i64 0, .int .i64 0, .int .i64 0, .int .i64 0, .int .i64 0, .int .i64 0, .int .i64 0, .int .i64 0, .int .i64 0, .int .i64 0, .int .i64 0, .int .i64 0, .int .i64 0, .int .i64 0, .int .i64 0, .int .i64 0, .int .i64 0, .int .i64 0, .int .i64 0, .int .i64 0, .int .i64 0, .int .i64 0, .int .i64 0, .int .i64 0, .int .i64 0, .int .i64 0, .int .i64 0, .int .i64 0, .int .i64 0, .int .i64 0, .int .i64 0, .int .i64 0, .int .i64 0, .int .i64 0, .int .i64 0, .int .i64 0, .int .i64 0, .int .i64 0, .int .i64 0, .int .i64 0, .int .i64 0, .int .i64 0, .int .i64 0]) := by kernel_rfl
@[simp] theorem aggT_147 : aggT Tryz.prog 147 = some true := by kernel_rfl
@[simp] theorem info_147 : (Tryz.prog.info? 147).isSome = true := by kernel_rfl
attribute [simp] Tryz.underlying148
@[simp] theorem cells_148 : Tryz.prog.cellsOf 148 = 68 := by kernel_rfl
@[simp] theorem bytes_148 : Tryz.prog.bytesOf 148 = 576 := by kernel_rfl
@[simp] theorem zval_148 : zval Tryz.prog 148 = some (.agg [.int .i64 0, .nils, .nils, .int .i64 0, .int .i64 0, .int .i64 0, .int .i64 0, .int .i64 0, .int .i64 0, .int .i64 0, .int .i64 0, .int .i64 0, .int .i64 0, .int .i64 0, .int .i64 0, .int .i64 0, .int .i64 0, .int .i64 0, .int .i64 0, .int .i64 0, .int .i64 0, .int .i64 0, .int .i64 0, .int .i64 0, .int .i64 0, .int .i64 0, .int .i64 0, .int .i64 0, .int .i64 0, .int .i64 0, .int .i64 0, .int .i64 0, .int .i64 0, .int .i64 0, .int .i64 0, .int .i64 0, .int .i64 0, .int .i64 0, .int .i64 0, .int .i64 0, .int .i64 0, .int .i64 0, .int .i64 0, .int .i64 0, .int .i64 0, .int .i64 0, .int .i64 0, .int .i64 0, .int .i64 0, .int .i64 0, .int .i64 0, .int .i64 0, .int .i64 0, .int .i64 0, .int .i64 0, .int .i64 0, .int .i64 0, .int .i64 0, .int .i64 0, .int .i64 0, .int .i64 0, .int .i64 0, .int .i64 0, .int .i64 0, .int .i64 0, .int .i64 0, .int .i64 0, .int .i64 0]) := by kernel_rfl
@[simp] theorem aggT_148 : aggT Tryz.prog 148 = some true := by kernel_rfl
@[simp] theorem info_148 : (Tryz.prog.info? 148).isSome = true := by kernel_rfl
attribute [simp] Tryz.underlying149
@[simp] theorem cells_149 : Tryz.prog.cellsOf 149 = 68 := by kernel_rfl
@[simp] theorem bytes_149 : Tryz.prog.bytesOf 149 = 576 := by kernel_rfl
@[simp] theorem zval_149 : zval Tryz.prog 149 = some (.agg [.int .i64 0, .nils, .nils, .int .i64 0, .int .i64 0, .int .i64 0, .int .i64 0, .int .i64 0, .int .i64 0, .int .i64 0, .int .i64 0, .int .i64 0, .int .i64 0, .int .i64 0, .int .i64 0, .int .i64 0, .int .i64 0, .int .i64 0, .int .i64 0, .int .i64 0, .int .i64 0, .int .i64 0, .int .i64 0, .int .i64 0, .int .i64 0, .int .i64 0, .int .i64 0, .int .i64 0, .int .i64 0, .int .i64 0, .int .i64 0, .int .i64 0, .int .i64 0, .int .i64 0, .int .i64 0, .int .i64 0, .int .i64 0, .int .i64 0, .int .i64 0, .int .i64 0, .int .i64 0, .int .i64 0, .int .i64 0, .int .i64 0, .int .i64 0, .int .i64 0, .int .i64 0, .int .i64 0, .int .i64 0, .int .i64 0, .int .i64 0, .int .i64 0, .int .i64 0, .int .i64 0, .int .i64 0, .int .i64 0, .int .i64 0, .int .i64 0, .int .i64 0, .int .i64 0, .int .i64 0, .int .i64 0, .int .i64 0, .int .i64 0, .int .i64 0, .int .i64 0, .int .i64 0, .int .i64 0]) := by kernel_rfl
@[simp] theorem aggT_149 : aggT Tryz.prog 149 = some true := by kernel_rfl
@[simp] theorem info_149 : (Tryz.prog.info? 149).isSome = true := by kernel_rfl
attribute [simp] Tryz.underlying159
@[simp] theorem cells_159 : Tryz.prog.cellsOf 159 = 1 := by kernel_rfl
@[simp] theorem bytes_159 : Tryz.prog.bytesOf 159 = 8 := by kernel_rfl
@[simp] theorem zval_159 : zval Tryz.prog 159 = some (.nilf) := by kernel_rfl
@[simp] theorem aggT_159 : aggT Tryz.prog 159 = some false := by kernel_rfl
@[simp] theorem info_159 : (Tryz.prog.info? 159).isSome = true := by kernel_rfl
attribute [simp] Tryz.underlying170
@[simp] theorem cells_170 : Tryz.prog.cellsOf 170 = 1 := by kernel_rfl
@[simp] theorem bytes_170 : Tryz.prog.bytesOf 170 = 8 := by kernel_rfl
@[simp] theorem zval_170 : zval Tryz.prog 170 = some (.int .u64 0) := by kernel_rfl
@[simp] theorem aggT_170 : aggT Tryz.prog 170 = some false := by kernel_rfl
@[simp] theorem info_170 : (Tryz.prog.info? 170).isSome = true := by kernel_rfl
attribute [simp] Tryz.underlying176
@[simp] theorem cells_176 : Tryz.prog.cellsOf 176 = 3 := by kernel_rfl
@[simp] theorem bytes_176 : Tryz.prog.bytesOf 176 = 24 := by kernel_rfl
@[simp] theorem zval_176 : zval Tryz.prog 176 = some (.agg [.int .i64 0, .int .i64 0, .int .i64 0]) := by kernel_rfl
@[simp] theorem aggT_176 : aggT Tryz.prog 176 = some true := by kernel_rfl
@[simp] theorem info_176 : (Tryz.prog.info? 176).isSome = true := by kernel_rfl
attribute [simp] Tryz.underlying177
@[simp] theorem cells_177 : Tryz.prog.cellsOf 177 = 3 := by kernel_rfl
@[simp] theorem bytes_177 : Tryz.prog.bytesOf 177 = 24 := by kernel_rfl
@[simp] theorem zval_177 : zval Tryz.prog 177 = some (.agg [.int .i64 0, .int .i64 0, .int .i64 0]) := by kernel_rfl
@[simp] theorem aggT_177 : aggT Tryz.prog 177 = some true := by kernel_rfl
@[simp] theorem info_177 : (Tryz.prog.info? 177).isSome = true := by kernel_rfl
attribute [simp] Tryz.underlying185
@[simp] theorem cells_185 : Tryz.prog.cellsOf 185 = 4 := by kernel_rfl
@[simp] theorem bytes_185 : Tryz.prog.bytesOf 185 = 48 := by kernel_rfl
@[simp] theorem zval_185 : zval Tryz.prog 185 = some (.agg [.int .i64 0, .int .i64 0, .int .i64 0, .nils]) := by kernel_rfl
@[simp] theorem aggT_185 : aggT Tryz.prog 185 = some true := by kernel_rfl
@[simp] theorem info_185 : (Tryz.prog.info? 185).isSome = true := by kernel_rfl
attribute [simp] Tryz.underlying186
@[simp] theorem cells_186 : Tryz.prog.cellsOf 186 = 4 := by kernel_rfl
@[simp] theorem bytes_186 : Tryz.prog.bytesOf 186 = 48 := by kernel_rfl
@[simp] theorem zval_186 : zval Tryz.prog 186 = some (.agg [.int .i64 0, .int .i64 0, .int .i64 0, .nils]) := by kernel_rfl
@[simp] theorem aggT_186 : aggT Tryz.prog 186 = some true := by kernel_rfl
@[simp] theorem info_186 : (Tryz.prog.info? 186).isSome = true := by kernel_rfl
attribute [simp] Tryz.underlying187
@[simp] theorem cells_187 : Tryz.prog.cellsOf 187 = 1 := by kernel_rfl
@[simp] theorem bytes_187 : Tryz.prog.bytesOf 187 = 24 := by kernel_rfl
@[simp] theorem zval_187 : zval Tryz.prog 187 = some (.nils) := by kernel_rfl
@[simp] theorem aggT_187 : aggT Tryz.prog 187 = some false := by kernel_rfl
@[simp] theorem info_187 : (Tryz.prog.info? 187).isSome = true := by kernel_rfl
attribute [simp] Tryz.underlying191
@[simp] theorem cells_191 : Tryz.prog.cellsOf 191 = 1 := by kernel_rfl
@[simp] theorem bytes_191 : Tryz.prog.bytesOf 191 = 8 := by kernel_rfl
@[simp] theorem zval_191 : zval Tryz.prog 191 = some (.nilf) := by kernel_rfl
@[simp] theorem aggT_191 : aggT Tryz.prog 191 = some false := by kernel_rfl
@[simp] theorem info_191 : (Tryz.prog.info? 191).isSome = true := by kernel_rfl
attribute [simp] Tryz.underlying194
@[simp] theorem cells_194 : Tryz.prog.cellsOf 194 = 1 := by kernel_rfl
@[simp] theorem bytes_194 : Tryz.prog.bytesOf 194 = 16 := by kernel_rfl
@[simp] theorem zval_194 : zval Tryz.prog 194 = some (.nilif) := by kernel_rfl
@[simp] theorem aggT_194 : aggT Tryz.prog 194 = some false := by kernel_rfl
@[simp] theorem info_194 : (Tryz.prog.info? 194).isSome = true := by kernel_rfl
attribute [simp] Tryz.underlying195
@[simp] theorem cells_195 : Tryz.prog.cellsOf 195 = 1 := by kernel_rfl
@[simp] theorem bytes_195 : Tryz.prog.bytesOf 195 = 16 := by kernel_rfl
@[simp] theorem zval_195 : zval Tryz.prog 195 = some (.nilif) := by kernel_rfl
@[simp] theorem aggT_195 : aggT Tryz.prog 195 = some false := by kernel_rfl
@[simp] theorem info_195 : (Tryz.prog.info? 195).isSome = true := by kernel_rfl
attribute [simp] Tryz.underlying197
@[simp] theorem cells_197 : Tryz.prog.cellsOf 197 = 6 := by kernel_rfl
@[simp] theorem bytes_197 : Tryz.prog.bytesOf 197 = 80 := by kernel_rfl
@[simp] theorem zval_197 : zval Tryz.prog 197 = some (.agg [.int .i64 0, .int .i64 0, .nils, .int .i64 0, .int .i64 0, .nils]) := by kernel_rfl
@[simp] theorem aggT_197 : aggT Tryz.prog 197 = some true := by kernel_rfl
@[simp] theorem info_197 : (Tryz.prog.info? 197).isSome = true := by kernel_rfl
attribute [simp] Tryz.underlying198
@[simp] theorem cells_198 : Tryz.prog.cellsOf 198 = 6 := by kernel_rfl
@[simp] theorem bytes_198 : Tryz.prog.bytesOf 198 = 80 := by kernel_rfl
@[simp] theorem zval_198 : zval Tryz.prog 198 = some (.agg [.int .i64 0, .int .i64 0, .nils, .int .i64 0, .int .i64 0, .nils]) := by kernel_rfl
@[simp] theorem aggT_198 : aggT Tryz.prog 198 = some true := by kernel_rfl
@[simp] theorem info_198 : (Tryz.prog.info? 198).isSome = true := by kernel_rfl
attribute [simp] Tryz.underlying199
@[simp] theorem cells_199 : Tryz.prog.cellsOf 199 = 6 := by kernel_rfl
@[simp] theorem bytes_199 : Tryz.prog.bytesOf 199 = 80 := by kernel_rfl
@[simp] theorem zval_199 : zval Tryz.prog 199 = some (.agg [.int .i64 0, .int .i64 0, .nils, .int .i64 0, .int .i64 0, .nils]) := by kernel_rfl
@[simp] theorem aggT_199 : aggT Tryz.prog 199 = some true := by kernel_rfl
@[simp] theorem info_199 : (Tryz.prog.info? 199).isSome = true := by kernel_rfl
attribute [simp] Tryz.underlying200
@[simp] theorem cells_200 : Tryz.prog.cellsOf 200 = 4 := by kernel_rfl
@[simp] theorem bytes_200 : Tryz.prog.bytesOf 200 = 48 := by kernel_rfl
@[simp] theorem zval_200 : zval Tryz.prog 200 = some (.agg [.int .i64 0, .int .i64 0, .int .i64 0, .nils]) := by kernel_rfl
@[simp] theorem aggT_200 : aggT Tryz.prog 200 = some true := by kernel_rfl
@[simp] theorem info_200 : (Tryz.prog.info? 200).isSome = true := by kernel_rfl
attribute [simp] Tryz.underlying201
@[simp] theorem cells_201 : Tryz.prog.cellsOf 201 = 4 := by kernel_rfl
@[simp] theorem bytes_201 : Tryz.prog.bytesOf 201 = 48 := by kernel_rfl
@[simp] theorem zval_201 : zval Tryz.prog 201 = some (.agg [.int .i64 0, .int .i64 0, .int .i64 0, .nils]) := by kernel_rfl
@[simp] theorem aggT_201 : aggT Tryz.prog 201 = some true := by kernel_rfl
@[simp] theorem info_201 : (Tryz.prog.info? 201).isSome = true := by kernel_rfl
attribute [simp] Tryz.underlying203
@[simp] theorem cells_203 : Tryz.prog.cellsOf 203 = 1 := by kernel_rfl
@[simp] theorem bytes_203 : Tryz.prog.bytesOf 203 = 8 := by kernel_rfl
@[simp] theorem zval_203 : zval Tryz.prog 203 = some (.nilp) := by kernel_rfl
@[simp] theorem aggT_203 : aggT Tryz.prog 203 = some false := by kernel_rfl
@[simp] theorem info_203 : (Tryz.prog.info? 203).isSome = true := by kernel_rfl
attribute [simp] Tryz.underlying204
@[simp] theorem cells_204 : Tryz.prog.cellsOf 204 = 192 := by kernel_rfl
@[simp] theorem bytes_204 : Tryz.prog.bytesOf 204 = 2560 := by kernel_rfl
@[simp] theorem zval_204 : zval Tryz.prog 204 = some (.agg [.int .i64 0, .int .i64 0, .nils, .int .i64 0, .int .i64 0, .nils, .int .i64 0, .int .i64 0, .nils, .int .i64 0, .int .i64 0, .nils, .int .i64 0, .int .i64 0, .nils, .int .i64 0, .int .i64 0, .nils, .int .i64 0, .int .i64 0, .nils, .int .i64 0, .int .i64 0, .nils, .int .i64 0, .int .i64 0, .nils, .int .i64 0, .int .i64 0, .nils, .int .i64 0, .int .i64 0, .nils, .int .i64 0, .int .i64 0, .nils, .int .i64 0, .int .i64 0, .nils, .int .i64 0, .int .i64 0, .nils, .int .i64 0, .int .i64 0, .nils, .int .i64 0, .int .i64 0, .nils, .int .i64 0, .int .i64 0, .nils, .int .i64 0, .int .i64 0, .nils, .int .i64 0, .int .i64 0, .nils, .int .i64 0, .int .i64 0, .nils, .int .i64 0, .int .i64 0, .nils, .int .i64 0, .int .i64 0, .nils, .int .i64 0, .int .i64 0, .nils, .int .i64 0, .int .i64 0, .nils, .int .i64 0, .int .i64 0, .nils, .int .i64 0, .int .i64 0, .nils, .int .i64 0, .int .i64 0, .nils, .int .i64 0, .int .i64 0, .nils, .int .i64 0, .int .i64 0, .nils, .int .i64 0, .int .i64 0, .nils, .int .i64 0, .int .i64 0, .nils, .int .i64 0, .int .i64 0, .nils, .int .i64 0, .int .i64 0, .nils, .int .i64 0, .int .i64 0, .nils, .int .i64 0, .int .i64 0, .nils, .int .i64 0, .int .i64 0, .nils, .int .i64 0, .int .i64 0, .nils, .int .i64 0, .int .i64 0, .nils, .int .i64 0, .int .i64 0, .nils, .int .i64 0, .int .i64 0, .nils, .int .i64 0, .int .i64 0, .nils, .int .i64 0, .int .i64 0, .nils, .int .i64 0, .int .i64 0, .nils, .int .i64 0, .int .i64 0, .nils, .int .i64 0, .int .i64 0, .nils, .int .i64 0, .int .i64 0, .nils, .int .i64 0, .int .i64 0, .nils, .int .i64 0, .int .i64 0, .nils, .int .i64 0, .int .i64 0, .nils, .int .i64 0, .int .i64 0, .nils, .int .i64 0, .int .i64 0, .nils, .int .i64 0, .int .i64 0, .nils, .int .i64 0, .int .i64 0, .nils, .int .i64 0, .int .i64 0, .nils, .int .i64 0, .int .i64 0, .nils, .int .i64 0, .int .i64 0, .nils, .int .i64 0, .int .i64 0, .nils, .int .i64 0, .int .i64 0, .nils, .int .i64 0, .int .i64 0, .nils, .int .i64 0, .int .i64 0, .nils, .int .i64 0, .int .i64 0, .nils, .int .i64 0, .int .i64 0, .nils, .int .i64 0, .int .i64 0, .nils, .int .i64 0, .int .i64 0, .nils]) := by kernel_rfl
@[simp] theorem aggT_204 : aggT Tryz.prog 204 = some true := by kernel_rfl
@[simp] theorem info_204 : (Tryz.prog.info? 204).isSome = true := by kernel_rfl
attribute [simp] Tryz.underlying205
@[simp] theorem cells_205 : Tryz.prog.cellsOf 205 = 193 := by kernel_rfl
@[simp] theorem bytes_205 : Tryz.prog.bytesOf 205 = 2568 := by kernel_rfl
@[simp] theorem zval_205 : zval Tryz.prog 205 = some (.agg [.int .u64 0, .int .i64 0, .int .i64 0, .nils, .int .i64 0, .int .i64 0, .nils, .int .i64 0, .int .i64 0, .nils, .int .i64 0, .int .i64 0, .nils, .int .i64 0, .int .i64 0, .nils, .int .i64 0, .int .i64 0, .nils, .int .i64 0, .int .i64 0, .nils, .int .i64 0, .int .i64 0, .nils, .int .i64 0, .int .i64 0, .nils, .int .i64 0, .int .i64 0, .nils, .int .i64 0, .int .i64 0, .nils, .int .i64 0, .int .i64 0, .nils, .int .i64 0, .int .i64 0, .nils, .int .i64 0, .int .i64 0, .nils, .int .i64 0, .int .i64 0, .nils, .int .i64 0, .int .i64 0, .nils, .int .i64 0, .int .i64 0, .nils, .int .i64 0, .int .i64 0, .nils, .int .i64 0, .int .i64 0, .nils, .int .i64 0, .int .i64 0, .nils, .int .i64 0, .int .i64 0, .nils, .int .i64 0, .int .i64 0, .nils, .int .i64 0, .int .i64 0, .nils, .int .i64 0, .int .i64 0, .nils, .int .i64 0, .int .i64 0, .nils, .int .i64 0, .int .i64 0, .nils, .int .i64 0, .int .i64 0, .nils, .int .i64 0, .int .i64 0, .nils, .int .i64 0, .int .i64 0, .nils, .int .i64 0, .int .i64 0, .nils, .int .i64 0, .int .i64 0, .nils, .int .i64 0, .int .i64 0, .nils, .int .i64 0, .int .i64 0, .nils, .int .i64 0, .int .i64 0, .nils, .int .i64 0, .int .i64 0, .nils, .int .i64 0, .int .i64 0, .nils, .int .i64 0, .int .i64 0, .nils, .int .i64 0, .int .i64 0, .nils, .int .i64 0, .int .i64 0, .nils, .int .i64 0, .int .i64 0, .nils, .int .i64 0, .int .i64 0, .nils, .int .i64 0, .int .i64 0, .nils, .int .i64 0, .int .i64 0, .nils, .int .i64 0, .int .i64 0, .nils, .int .i64 0, .int .i64 0, .nils, .int .i64 0, .int .i64 0, .nils, .int .i64 0, .int .i64 0, .nils, .int .i64 0, .int .i64 0, .nils, .int .i64 0, .int .i64 0, .nils, .int .i64 0, .int .i64 0, .nils, .int .i64 0, .int .i64 0, .nils, .int .i64 0, .int .i64 0, .nils, .int .i64 0, .int .i64 0, .nils, .int .i64 0, .int .i64 0, .nils, .int .i64 0, .int .i64 0, .nils, .int .i64 0, .int .i64 0, .nils, .int .i64 0, .int .i64 0, .nils, .int .i64 0, .int .i64 0, .nils, .int .i64 0, .int .i64 0, .nils, .int .i64 0, .int .i64 0, .nils, .int .i64 0, .int .i64 0, .nils, .int .i64 0, .int .i64 0, .nils, .int .i64 0, .int .i64 0, .nils, .int .i64 0, .int .i64 0, .nils]) := by kernel_rfl
@[simp] theorem aggT_205 : aggT Tryz.prog 205 = some true := by kernel_rfl
@[simp] theorem info_205 : (Tryz.prog.info? 205).isSome = true := by kernel_rfl
attribute [simp] Tryz.underlying206
@[simp] theorem cells_206 : Tryz.prog.cellsOf 206 = 193 := by kernel_rfl
@[simp] theorem bytes_206 : Tryz.prog.bytesOf 206 = 2568 := by kernel_rfl
@[simp] theorem zval_206 : zval Tryz.prog 206 = some (.agg [.int .u64 0, .int .i64 0, .int .i64 0, .nils, .int .i64 0, .int .i64 0, .nils, .int .i64 0, .int .i64 0, .nils, .int .i64 0, .int .i64 0, .nils, .int .i64 0, .int .i64 0, .nils, .int .i64 0, .int .i64 0, .nils, .int .i64 0, .int .i64 0, .nils, .int .i64 0, .int .i64 0, .nils, .int .i64 0, .int .i64 0, .nils, .int .i64 0, .int .i64 0, .nils, .int .i64 0, .int .i64 0, .nils, .int .i64 0, .int .i64 0, .nils, .int .i64 0, .int .i64 0, .nils, .int .i64 0, .int .i64 0, .nils, .int .i64 0, .int .i64 0, .nils, .int .i64 0, .int .i64 0, .nils, .int .i64 0, .int .i64 0, .nils, .int .i64 0, .int .i64 0, .nils, .int .i64 0, .int .i64 0, .nils, .int .i64 0, .int .i64 0, .nils, .int .i64 0, .int .i64 0, .nils, .int .i64 0, .int .i64 0, .nils, .int .i64 0, .int .i64 0, .nils, .int .i64 0, .int .i64 0, .nils, .int .i64 0, .int .i64 0, .nils, .int .i64 0, .int .i64 0, .nils, .int .i64 0, .int .i64 0, .nils, .int .i64 0, .int .i64 0, .nils, .int .i64 0, .int .i64 0, .nils, .int .i64 0, .int .i64 0, .nils, .int .i64 0, .int .i64 0, .nils, .int .i64 0, .int .i64 0, .nils, .int .i64 0, .int .i64 0, .nils, .int .i64 0, .int .i64 0, .nils, .int .i64 0, .int .i64 0, .nils, .int .i64 0, .int .i64 0, .nils, .int .i64 0, .int .i64 0, .nils, .int .i64 0, .int .i64 0, .nils, .int .i64 0, .int .i64 0, .nils, .int .i64 0, .int .i64 0, .nils, .int .i64 0, .int .i64 0, .nils, .int .i64 0, .int .i64 0, .nils, .int .i64 0, .int .i64 0, .nils, .int .i64 0, .int .i64 0, .nils, .int .i64 0, .int .i64 0, .nils, .int .i64 0, .int .i64 0, .nils, .int .i64 0, .int .i64 0, .nils, .int .i64 0, .int .i64 0, .nils, .int .i64 0, .int .i64 0, .nils, .int .i64 0, .int .i64 0, .nils, .int .i64 0, .int .i64 0, .nils, .int .i64 0, .int .i64 0, .nils, .int .i64 0, .int .i64 0, .nils, .int .i64 0, .int .i64 0, .nils, .int .i64 0, .int .i64 0, .nils, .int .i64 0, .int .i64 0, .nils, .int .i64 0, .int .i64 0, .nils, .int .i64 0, .int .i64 0, .nils, .int .i64 0, .int .i64 0, .nils, .int .i64 0, .int .i64 0, .nils, .int .i64 0, .int .i64 0, .nils, .int .i64 0, .int .i64 0, .nils, .int .i64 0, .int .i64 0, .nils, .int .i64 0, .int .i64 0, .nils]) := by kernel_rfl
@[simp] theorem aggT_206 : aggT Tryz.prog 206 = some true := by kernel_rfl
@[simp] theorem info_206 : (Tryz.prog.info? 206).isSome = true := by kernel_rfl
attribute [simp] Tryz.underlying214
@[simp] theorem cells_214 : Tryz.prog.cellsOf 214 = 4 := by kernel_rfl
@[simp] theorem bytes_214 : Tryz.prog.bytesOf 214 = 40 := by kernel_rfl
@[simp] theorem zval_214 : zval Tryz.prog 214 = some (.agg [.nilp, .nilp, .nilp, .str ⟨#[]⟩]) := by kernel_rfl
@[simp] theorem aggT_214 : aggT Tryz.prog 214 = some true := by kernel_rfl
@[simp] theorem info_214 : (Tryz.prog.info? 214).isSome = true := by kernel_rfl
attribute [simp] Tryz.underlying215
@[simp] theorem cells_215 : Tryz.prog.cellsOf 215 = 4 := by kernel_rfl
@[simp] theorem bytes_215 : Tryz.prog.bytesOf 215 = 40 := by kernel_rfl
@[simp] theorem zval_215 : zval Tryz.prog 215 = some (.agg [.nilp, .nilp, .nilp, .str ⟨#[]⟩]) := by kernel_rfl
@[simp] theorem aggT_215 : aggT Tryz.prog 215 = some true := by kernel_rfl
@[simp] theorem info_215 : (Tryz.prog.info? 215).isSome = true := by kernel_rfl
attribute [simp] Tryz.underlying216
@[simp] theorem cells_216 : Tryz.prog.cellsOf 216 = 0 := by kernel_rfl
@[simp] theorem bytes_216 : Tryz.prog.bytesOf 216 = 0 := by kernel_rfl
@[simp] theorem zval_216 : zval Tryz.prog 216 = some (.agg []) := by kernel_rfl
@[simp] theorem aggT_216 : aggT Tryz.prog 216 = some true := by kernel_rfl
@[simp] theorem info_216 : (Tryz.prog.info? 216).isSome = true := by kernel_rfl
attribute [simp] Tryz.underlying217
@[simp] theorem cells_217 : Tryz.prog.cellsOf 217 = 0 := by kernel_rfl
@[simp] theorem bytes_217 : Tryz.prog.bytesOf 217 = 0 := by kernel_rfl
@[simp] theorem zval_217 : zval Tryz.prog 217 = some (.agg []) := by kernel_rfl
@[simp] theorem aggT_217 : aggT Tryz.prog 217 = some true := by kernel_rfl
@[simp] theorem info_217 : (Tryz.prog.info? 217).isSome = true := by kernel_rfl
attribute [simp] Tryz.underlying218
@[simp] theorem cells_218 : Tryz.prog.cellsOf 218 = 0 := by kernel_rfl
@[simp] theorem bytes_218 : Tryz.prog.bytesOf 218 = 0 := by kernel_rfl
@[simp] theorem zval_218 : zval Tryz.prog 218 = some (.agg []) := by kernel_rfl
@[simp] theorem aggT_218 : aggT Tryz.prog 218 = some true := by kernel_rfl
@[simp] theorem info_218 : (Tryz.prog.info? 218).isSome = true := by kernel_rfl
attribute [simp] Tryz.underlying220
@[simp] theorem cells_220 : Tryz.prog.cellsOf 220 = 1 := by kernel_rfl
@[simp] theorem bytes_220 : Tryz.prog.bytesOf 220 = 4 := by kernel_rfl
@[simp] theorem zval_220 : zval Tryz.prog 220 = some (.int .u32 0) := by kernel_rfl
@[simp] theorem aggT_220 : aggT Tryz.prog 220 = some false := by kernel_rfl
@[simp] theorem info_220 : (Tryz.prog.info? 220).isSome = true := by kernel_rfl
attribute [simp] Tryz.underlying221
@[simp] theorem cells_221 : Tryz.prog.cellsOf 221 = 1 := by kernel_rfl
@[simp] theorem bytes_221 : Tryz.prog.bytesOf 221 = 1 := by kernel_rfl
@[simp] theorem zval_221 : zval Tryz.prog 221 = some (.int .u8 0) := by kernel_rfl
@[simp] theorem aggT_221 : aggT Tryz.prog 221 = some false := by kernel_rfl
@[simp] theorem info_221 : (Tryz.prog.info? 221).isSome = true := by kernel_rfl
attribute [simp] Tryz.underlying222
@[simp] theorem cells_222 : Tryz.prog.cellsOf 222 = 1 := by kernel_rfl
@[simp] theorem bytes_222 : Tryz.prog.bytesOf 222 = 1 := by kernel_rfl
@[simp] theorem zval_222 : zval Tryz.prog 222 = some (.int .u8 0) := by kernel_rfl
@[simp] theorem aggT_222 : aggT Tryz.prog 222 = some false := by kernel_rfl
@[simp] theorem info_222 : (Tryz.prog.info? 222).isSome = true := by kernel_rfl
attribute [simp] Tryz.underlying224
@[simp] theorem cells_224 : Tryz.prog.cellsOf 224 = 1 := by kernel_rfl
@[simp] theorem bytes_224 : Tryz.prog.bytesOf 224 = 8 := by kernel_rfl
@[simp] theorem zval_224 : zval Tryz.prog 224 = some (.nilp) := by kernel_rfl
@[simp] theorem aggT_224 : aggT Tryz.prog 224 = some false := by kernel_rfl
@[simp] theorem info_224 : (Tryz.prog.info? 224).isSome = true := by kernel_rfl
attribute [simp] Tryz.underlying225
@[simp] theorem cells_225 : Tryz.prog.cellsOf 225 = 1 := by kernel_rfl
@[simp] theorem bytes_225 : Tryz.prog.bytesOf 225 = 4 := by kernel_rfl
@[simp] theorem zval_225 : zval Tryz.prog 225 = some (.int .i32 0) := by kernel_rfl
@[simp] theorem aggT_225 : aggT Tryz.prog 225 = some false := by kernel_rfl
@[simp] theorem info_225 : (Tryz.prog.info? 225).isSome = true := by kernel_rfl
attribute [simp] Tryz.underlying226
@[simp] theorem cells_226 : Tryz.prog.cellsOf 226 = 1 := by kernel_rfl
@[simp] theorem bytes_226 : Tryz.prog.bytesOf 226 = 4 := by kernel_rfl
@[simp] theorem zval_226 : zval Tryz.prog 226 = some (.int .i32 0) := by kernel_rfl
@[simp] theorem aggT_226 : aggT Tryz.prog 226 = some false := by kernel_rfl
@[simp] theorem info_226 : (Tryz.prog.info? 226).isSome = true := by kernel_rfl
attribute [simp] Tryz.underlying227
@[simp] theorem cells_227 : Tryz.prog.cellsOf 227 = 11 := by kernel_rfl
@[simp] theorem bytes_227 : Tryz.prog.bytesOf 227 = 48 := by kernel_rfl
@[simp] theorem zval_227 : zval Tryz.prog 227 = some (.agg [.int .u64 0, .int .u64 0, .int .u32 0, .int .u8 0, .int .u8 0, .int .u8 0, .int .u8 0, .nilf, .nilp, .int .i32 0, .int .i32 0]) := by kernel_rfl
@[simp] theorem aggT_227 : aggT Tryz.prog 227 = some true := by kernel_rfl
@[simp] theorem info_227 : (Tryz.prog.info? 227).isSome = true := by kernel_rfl
attribute [simp] Tryz.underlying228
@[simp] theorem cells_228 : Tryz.prog.cellsOf 228 = 11 := by kernel_rfl
@[simp] theorem bytes_228 : Tryz.prog.bytesOf 228 = 48 := by kernel_rfl
@[simp] theorem zval_228 : zval Tryz.prog 228 = some (.agg [.int .u64 0, .int .u64 0, .int .u32 0, .int .u8 0, .int .u8 0, .int .u8 0, .int .u8 0, .nilf, .nilp, .int .i32 0, .int .i32 0]) := by kernel_rfl
@[simp] theorem aggT_228 : aggT Tryz.prog 228 = some true := by kernel_rfl
@[simp] theorem info_228 : (Tryz.prog.info? 228).isSome = true := by kernel_rfl
attribute [simp] Tryz.underlying230
@[simp] theorem cells_230 : Tryz.prog.cellsOf 230 = 1 := by kernel_rfl
@[simp] theorem bytes_230 : Tryz.prog.bytesOf 230 = 8 := by kernel_rfl
@[simp] theorem zval_230 : zval Tryz.prog 230 = some (.nilp) := by kernel_rfl
@[simp] theorem aggT_230 : aggT Tryz.prog 230 = some false := by kernel_rfl
@[simp] theorem info_230 : (Tryz.prog.info? 230).isSome = true := by kernel_rfl
theorem mixed : Tryz.prog.follows .mixedOrders = true := by kernel_rfl
end Go.Proofs.YtibfdebhbibfpaaGreat.Ax
