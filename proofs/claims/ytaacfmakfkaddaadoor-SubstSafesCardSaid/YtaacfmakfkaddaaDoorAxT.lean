/- Facts on the types of the translation, for simp; by program. -/
import Derived.Test.YtaacfmakfkaddaaDoorAxN
import Derived.Test.YtaacfmakfkaddaaDoorProg
import Derived.KernelRfl
set_option linter.unusedSimpArgs false
set_option maxRecDepth 20000
namespace Go.Proofs.YtaacfmakfkaddaaDoor.Ax
open Go Go.Proofs

attribute [simp] Tryd.underlying2
@[simp] theorem cells_2 : Tryd.prog.cellsOf 2 = 1 := by kernel_rfl
@[simp] theorem bytes_2 : Tryd.prog.bytesOf 2 = 8 := by kernel_rfl
@[simp] theorem zval_2 : zval Tryd.prog 2 = some (.int .i64 0) := by kernel_rfl
@[simp] theorem aggT_2 : aggT Tryd.prog 2 = some false := by kernel_rfl
@[simp] theorem info_2 : (Tryd.prog.info? 2).isSome = true := by kernel_rfl
attribute [simp] Tryd.underlying3
@[simp] theorem cells_3 : Tryd.prog.cellsOf 3 = 1 := by kernel_rfl
@[simp] theorem bytes_3 : Tryd.prog.bytesOf 3 = 8 := by kernel_rfl
@[simp] theorem zval_3 : zval Tryd.prog 3 = some (.int .i64 0) := by kernel_rfl
@[simp] theorem aggT_3 : aggT Tryd.prog 3 = some false := by kernel_rfl
@[simp] theorem info_3 : (Tryd.prog.info? 3).isSome = true := by kernel_rfl
attribute [simp] Tryd.underlying4
@[simp] theorem cells_4 : Tryd.prog.cellsOf 4 = 1 := by kernel_rfl
@[simp] theorem bytes_4 : Tryd.prog.bytesOf 4 = 1 := by kernel_rfl
@[simp] theorem zval_4 : zval Tryd.prog 4 = some (.bool false) := by kernel_rfl
@[simp] theorem aggT_4 : aggT Tryd.prog 4 = some false := by kernel_rfl
@[simp] theorem info_4 : (Tryd.prog.info? 4).isSome = true := by kernel_rfl
attribute [simp] Tryd.underlying5
@[simp] theorem cells_5 : Tryd.prog.cellsOf 5 = 1 := by kernel_rfl
@[simp] theorem bytes_5 : Tryd.prog.bytesOf 5 = 1 := by kernel_rfl
@[simp] theorem zval_5 : zval Tryd.prog 5 = some (.int .u8 0) := by kernel_rfl
@[simp] theorem aggT_5 : aggT Tryd.prog 5 = some false := by kernel_rfl
@[simp] theorem info_5 : (Tryd.prog.info? 5).isSome = true := by kernel_rfl
attribute [simp] Tryd.underlying6
@[simp] theorem cells_6 : Tryd.prog.cellsOf 6 = 1 := by kernel_rfl
@[simp] theorem bytes_6 : Tryd.prog.bytesOf 6 = 1 := by kernel_rfl
@[simp] theorem zval_6 : zval Tryd.prog 6 = some (.int .u8 0) := by kernel_rfl
@[simp] theorem aggT_6 : aggT Tryd.prog 6 = some false := by kernel_rfl
@[simp] theorem info_6 : (Tryd.prog.info? 6).isSome = true := by kernel_rfl
attribute [simp] Tryd.underlying7
@[simp] theorem cells_7 : Tryd.prog.cellsOf 7 = 4 := by kernel_rfl
@[simp] theorem bytes_7 : Tryd.prog.bytesOf 7 = 24 := by kernel_rfl
@[simp] theorem zval_7 : zval Tryd.prog 7 = some (.agg [.int .i64 0, .int .i64 0, .bool false, .int .u8 0]) := by kernel_rfl
@[simp] theorem aggT_7 : aggT Tryd.prog 7 = some true := by kernel_rfl
@[simp] theorem info_7 : (Tryd.prog.info? 7).isSome = true := by kernel_rfl
attribute [simp] Tryd.underlying8
@[simp] theorem cells_8 : Tryd.prog.cellsOf 8 = 4 := by kernel_rfl
@[simp] theorem bytes_8 : Tryd.prog.bytesOf 8 = 24 := by kernel_rfl
@[simp] theorem zval_8 : zval Tryd.prog 8 = some (.agg [.int .i64 0, .int .i64 0, .bool false, .int .u8 0]) := by kernel_rfl
@[simp] theorem aggT_8 : aggT Tryd.prog 8 = some true := by kernel_rfl
@[simp] theorem info_8 : (Tryd.prog.info? 8).isSome = true := by kernel_rfl
attribute [simp] Tryd.underlying9
@[simp] theorem cells_9 : Tryd.prog.cellsOf 9 = 1 := by kernel_rfl
@[simp] theorem bytes_9 : Tryd.prog.bytesOf 9 = 16 := by kernel_rfl
@[simp] theorem zval_9 : zval Tryd.prog 9 = some (.str ⟨#[]⟩) := by kernel_rfl
@[simp] theorem aggT_9 : aggT Tryd.prog 9 = some false := by kernel_rfl
@[simp] theorem info_9 : (Tryd.prog.info? 9).isSome = true := by kernel_rfl
attribute [simp] Tryd.underlying10
@[simp] theorem cells_10 : Tryd.prog.cellsOf 10 = 1 := by kernel_rfl
@[simp] theorem bytes_10 : Tryd.prog.bytesOf 10 = 16 := by kernel_rfl
@[simp] theorem zval_10 : zval Tryd.prog 10 = some (.str ⟨#[]⟩) := by kernel_rfl
@[simp] theorem aggT_10 : aggT Tryd.prog 10 = some false := by kernel_rfl
@[simp] theorem info_10 : (Tryd.prog.info? 10).isSome = true := by kernel_rfl
attribute [simp] Tryd.underlying11
@[simp] theorem cells_11 : Tryd.prog.cellsOf 11 = 1 := by kernel_rfl
@[simp] theorem bytes_11 : Tryd.prog.bytesOf 11 = 16 := by kernel_rfl
@[simp] theorem zval_11 : zval Tryd.prog 11 = some (.str ⟨#[]⟩) := by kernel_rfl
@[simp] theorem aggT_11 : aggT Tryd.prog 11 = some false := by kernel_rfl
@[simp] theorem info_11 : (Tryd.prog.info? 11).isSome = true := by kernel_rfl
attribute [simp] Tryd.underlying12
@[simp] theorem cells_12 : Tryd.prog.cellsOf 12 = 1 := by kernel_rfl
@[simp] theorem bytes_12 : Tryd.prog.bytesOf 12 = 8 := by kernel_rfl
@[simp] theorem zval_12 : zval Tryd.prog 12 = some (.int .u64 0) := by kernel_rfl
@[simp] theorem aggT_12 : aggT Tryd.prog 12 = some false := by kernel_rfl
@[simp] theorem info_12 : (Tryd.prog.info? 12).isSome = true := by kernel_rfl
attribute [simp] Tryd.underlying13
@[simp] theorem cells_13 : Tryd.prog.cellsOf 13 = 2 := by kernel_rfl
@[simp] theorem bytes_13 : Tryd.prog.bytesOf 13 = 24 := by kernel_rfl
@[simp] theorem zval_13 : zval Tryd.prog 13 = some (.agg [.str ⟨#[]⟩, .int .u64 0]) := by kernel_rfl
@[simp] theorem aggT_13 : aggT Tryd.prog 13 = some true := by kernel_rfl
@[simp] theorem info_13 : (Tryd.prog.info? 13).isSome = true := by kernel_rfl
attribute [simp] Tryd.underlying14
@[simp] theorem cells_14 : Tryd.prog.cellsOf 14 = 2 := by kernel_rfl
@[simp] theorem bytes_14 : Tryd.prog.bytesOf 14 = 24 := by kernel_rfl
@[simp] theorem zval_14 : zval Tryd.prog 14 = some (.agg [.str ⟨#[]⟩, .int .u64 0]) := by kernel_rfl
@[simp] theorem aggT_14 : aggT Tryd.prog 14 = some true := by kernel_rfl
@[simp] theorem info_14 : (Tryd.prog.info? 14).isSome = true := by kernel_rfl
attribute [simp] Tryd.underlying15
@[simp] theorem cells_15 : Tryd.prog.cellsOf 15 = 1 := by kernel_rfl
@[simp] theorem bytes_15 : Tryd.prog.bytesOf 15 = 8 := by kernel_rfl
@[simp] theorem zval_15 : zval Tryd.prog 15 = some (.nilp) := by kernel_rfl
@[simp] theorem aggT_15 : aggT Tryd.prog 15 = some false := by kernel_rfl
@[simp] theorem info_15 : (Tryd.prog.info? 15).isSome = true := by kernel_rfl
attribute [simp] Tryd.underlying16
@[simp] theorem cells_16 : Tryd.prog.cellsOf 16 = 1 := by kernel_rfl
@[simp] theorem bytes_16 : Tryd.prog.bytesOf 16 = 8 := by kernel_rfl
@[simp] theorem zval_16 : zval Tryd.prog 16 = some (.nilp) := by kernel_rfl
@[simp] theorem aggT_16 : aggT Tryd.prog 16 = some false := by kernel_rfl
@[simp] theorem info_16 : (Tryd.prog.info? 16).isSome = true := by kernel_rfl
attribute [simp] Tryd.underlying17
@[simp] theorem cells_17 : Tryd.prog.cellsOf 17 = 1 := by kernel_rfl
@[simp] theorem bytes_17 : Tryd.prog.bytesOf 17 = 8 := by kernel_rfl
@[simp] theorem zval_17 : zval Tryd.prog 17 = some (.nilp) := by kernel_rfl
@[simp] theorem aggT_17 : aggT Tryd.prog 17 = some false := by kernel_rfl
@[simp] theorem info_17 : (Tryd.prog.info? 17).isSome = true := by kernel_rfl
attribute [simp] Tryd.underlying18
@[simp] theorem cells_18 : Tryd.prog.cellsOf 18 = 1 := by kernel_rfl
@[simp] theorem bytes_18 : Tryd.prog.bytesOf 18 = 8 := by kernel_rfl
@[simp] theorem zval_18 : zval Tryd.prog 18 = some (.agg [.nilp]) := by kernel_rfl
@[simp] theorem aggT_18 : aggT Tryd.prog 18 = some true := by kernel_rfl
@[simp] theorem info_18 : (Tryd.prog.info? 18).isSome = true := by kernel_rfl
attribute [simp] Tryd.underlying19
@[simp] theorem cells_19 : Tryd.prog.cellsOf 19 = 1 := by kernel_rfl
@[simp] theorem bytes_19 : Tryd.prog.bytesOf 19 = 8 := by kernel_rfl
@[simp] theorem zval_19 : zval Tryd.prog 19 = some (.agg [.nilp]) := by kernel_rfl
@[simp] theorem aggT_19 : aggT Tryd.prog 19 = some true := by kernel_rfl
@[simp] theorem info_19 : (Tryd.prog.info? 19).isSome = true := by kernel_rfl
attribute [simp] Tryd.underlying20
@[simp] theorem cells_20 : Tryd.prog.cellsOf 20 = 1 := by kernel_rfl
@[simp] theorem bytes_20 : Tryd.prog.bytesOf 20 = 16 := by kernel_rfl
@[simp] theorem zval_20 : zval Tryd.prog 20 = some (.nilif) := by kernel_rfl
@[simp] theorem aggT_20 : aggT Tryd.prog 20 = some false := by kernel_rfl
@[simp] theorem info_20 : (Tryd.prog.info? 20).isSome = true := by kernel_rfl
attribute [simp] Tryd.underlying21
@[simp] theorem cells_21 : Tryd.prog.cellsOf 21 = 1 := by kernel_rfl
@[simp] theorem bytes_21 : Tryd.prog.bytesOf 21 = 4 := by kernel_rfl
@[simp] theorem zval_21 : zval Tryd.prog 21 = some (.int .i32 0) := by kernel_rfl
@[simp] theorem aggT_21 : aggT Tryd.prog 21 = some false := by kernel_rfl
@[simp] theorem info_21 : (Tryd.prog.info? 21).isSome = true := by kernel_rfl
attribute [simp] Tryd.underlying22
@[simp] theorem cells_22 : Tryd.prog.cellsOf 22 = 1 := by kernel_rfl
@[simp] theorem bytes_22 : Tryd.prog.bytesOf 22 = 24 := by kernel_rfl
@[simp] theorem zval_22 : zval Tryd.prog 22 = some (.nils) := by kernel_rfl
@[simp] theorem aggT_22 : aggT Tryd.prog 22 = some false := by kernel_rfl
@[simp] theorem info_22 : (Tryd.prog.info? 22).isSome = true := by kernel_rfl
attribute [simp] Tryd.underlying23
@[simp] theorem cells_23 : Tryd.prog.cellsOf 23 = 3 := by kernel_rfl
@[simp] theorem bytes_23 : Tryd.prog.bytesOf 23 = 40 := by kernel_rfl
@[simp] theorem zval_23 : zval Tryd.prog 23 = some (.agg [.int .i64 0, .int .i64 0, .nils]) := by kernel_rfl
@[simp] theorem aggT_23 : aggT Tryd.prog 23 = some true := by kernel_rfl
@[simp] theorem info_23 : (Tryd.prog.info? 23).isSome = true := by kernel_rfl
attribute [simp] Tryd.underlying24
@[simp] theorem cells_24 : Tryd.prog.cellsOf 24 = 3 := by kernel_rfl
@[simp] theorem bytes_24 : Tryd.prog.bytesOf 24 = 40 := by kernel_rfl
@[simp] theorem zval_24 : zval Tryd.prog 24 = some (.agg [.int .i64 0, .int .i64 0, .nils]) := by kernel_rfl
@[simp] theorem aggT_24 : aggT Tryd.prog 24 = some true := by kernel_rfl
@[simp] theorem info_24 : (Tryd.prog.info? 24).isSome = true := by kernel_rfl
attribute [simp] Tryd.underlying25
@[simp] theorem cells_25 : Tryd.prog.cellsOf 25 = 1 := by kernel_rfl
@[simp] theorem bytes_25 : Tryd.prog.bytesOf 25 = 8 := by kernel_rfl
@[simp] theorem zval_25 : zval Tryd.prog 25 = some (.int .i64 0) := by kernel_rfl
@[simp] theorem aggT_25 : aggT Tryd.prog 25 = some false := by kernel_rfl
@[simp] theorem info_25 : (Tryd.prog.info? 25).isSome = true := by kernel_rfl
attribute [simp] Tryd.underlying38
@[simp] theorem cells_38 : Tryd.prog.cellsOf 38 = 1 := by kernel_rfl
@[simp] theorem bytes_38 : Tryd.prog.bytesOf 38 = 8 := by kernel_rfl
@[simp] theorem zval_38 : zval Tryd.prog 38 = some (.int .u64 0) := by kernel_rfl
@[simp] theorem aggT_38 : aggT Tryd.prog 38 = some false := by kernel_rfl
@[simp] theorem info_38 : (Tryd.prog.info? 38).isSome = true := by kernel_rfl
attribute [simp] Tryd.underlying43
@[simp] theorem cells_43 : Tryd.prog.cellsOf 43 = 1 := by kernel_rfl
@[simp] theorem bytes_43 : Tryd.prog.bytesOf 43 = 24 := by kernel_rfl
@[simp] theorem zval_43 : zval Tryd.prog 43 = some (.nils) := by kernel_rfl
@[simp] theorem aggT_43 : aggT Tryd.prog 43 = some false := by kernel_rfl
@[simp] theorem info_43 : (Tryd.prog.info? 43).isSome = true := by kernel_rfl
attribute [simp] Tryd.underlying44
@[simp] theorem cells_44 : Tryd.prog.cellsOf 44 = 3 := by kernel_rfl
@[simp] theorem bytes_44 : Tryd.prog.bytesOf 44 = 56 := by kernel_rfl
@[simp] theorem zval_44 : zval Tryd.prog 44 = some (.agg [.int .i64 0, .nils, .nils]) := by kernel_rfl
@[simp] theorem aggT_44 : aggT Tryd.prog 44 = some true := by kernel_rfl
@[simp] theorem info_44 : (Tryd.prog.info? 44).isSome = true := by kernel_rfl
attribute [simp] Tryd.underlying45
@[simp] theorem cells_45 : Tryd.prog.cellsOf 45 = 3 := by kernel_rfl
@[simp] theorem bytes_45 : Tryd.prog.bytesOf 45 = 56 := by kernel_rfl
@[simp] theorem zval_45 : zval Tryd.prog 45 = some (.agg [.int .i64 0, .nils, .nils]) := by kernel_rfl
@[simp] theorem aggT_45 : aggT Tryd.prog 45 = some true := by kernel_rfl
@[simp] theorem info_45 : (Tryd.prog.info? 45).isSome = true := by kernel_rfl
attribute [simp] Tryd.underlying46
@[simp] theorem cells_46 : Tryd.prog.cellsOf 46 = 1 := by kernel_rfl
@[simp] theorem bytes_46 : Tryd.prog.bytesOf 46 = 24 := by kernel_rfl
@[simp] theorem zval_46 : zval Tryd.prog 46 = some (.nils) := by kernel_rfl
@[simp] theorem aggT_46 : aggT Tryd.prog 46 = some false := by kernel_rfl
@[simp] theorem info_46 : (Tryd.prog.info? 46).isSome = true := by kernel_rfl
attribute [simp] Tryd.underlying55
@[simp] theorem cells_55 : Tryd.prog.cellsOf 55 = 64 := by kernel_rfl
@[simp] theorem bytes_55 : Tryd.prog.bytesOf 55 = 512 := by kernel_rfl
@[simp] theorem zval_55 : zval Tryd.prog 55 = some (.agg [.int .i64 0, .int .i64 0, .int .i64 0, .int .i64 0, .int .i64 0, .int .i64 0, .int .i64 0, .int .i64 0, .int .i64 0, .int .i64 0, .int .i64 0, .int .i64 0, .int .i64 0, .int .i64 0, .int .i64 0, .int .i64 0, .int .i64 0, .int .i64 0, .int .i64 0, .int .i64 0, .int .i64 0, .int .i64 0, .int .i64 0, .int .i64 0, .int .i64 0, .int .i64 0, .int .i64 0, .int .i64 0, .int .i64 0, .int .i64 0, .int .i64 0, .int .i64 0, .int .i64 0, .int .i64 0, .int .i64 0, .int .i64 0, .int .i64 0, .int .i64 0, .int .i64 0, .int .i64 0, .int .i64 0, .int .i64 0, .int .i64 0, .int .i64 0, .int .i64 0, .int .i64 0, .int .i64 0, .int .i64 0, .int .i64 0, .int .i64 0, .int .i64 0, .int .i64 0, .int .i64 0, .int .i64 0, .int .i64 0, .int .i64 0, .int .i64 0, .int .i64 0, .int .i64 0, .int .i64 0, .int .i64 0, .int .i64 0, .int .i64 0, .int .i64 0]) := by kernel_rfl
@[simp] theorem aggT_55 : aggT Tryd.prog 55 = some true := by kernel_rfl
@[simp] theorem info_55 : (Tryd.prog.info? 55).isSome = true := by kernel_rfl
attribute [simp] Tryd.underlying56
@[simp] theorem cells_56 : Tryd.prog.cellsOf 56 = 64 := by kernel_rfl
@[simp] theorem bytes_56 : Tryd.prog.bytesOf 56 = 512 := by kernel_rfl
@[simp] theorem zval_56 : zval Tryd.prog 56 = some (.agg [.int .i64 0, .int .i64 0, .int .i64 0, .int .i64 0, .int .i64 0, .int .i64 0, .int .i64 0, .int .i64 0, .int .i64 0, .int .i64 0, .int .i64 0, .int .i64 0, .int .i64 0, .int .i64 0, .int .i64 0, .int .i64 0, .int .i64 0, .int .i64 0, .int .i64 0, .int .i64 0, .int .i64 0, .int .i64 0, .int .i64 0, .int .i64 0, .int .i64 0, .int .i64 0, .int .i64 0, .int .i64 0, .int .i64 0, .int .i64 0, .int .i64 0, .int .i64 0, .int .i64 0, .int .i64 0, .int .i64 0, .int .i64 0, .int .i64 0, .int .i64 0, .int .i64 0, .int .i64 0, .int .i64 0, .int .i64 0, .int .i64 0, .int .i64 0, .int .i64 0, .int .i64 0, .int .i64 0, .int .i64 0, .int .i64 0, .int .i64 0, .int .i64 0, .int .i64 0, .int .i64 0, .int .i64 0, .int .i64 0, .int .i64 0, .int .i64 0, .int .i64 0, .int .i64 0, .int .i64 0, .int .i64 0, .int .i64 0, .int .i64 0, .int .i64 0]) := by kernel_rfl
@[simp] theorem aggT_56 : aggT Tryd.prog 56 = some true := by kernel_rfl
@[simp] theorem info_56 : (Tryd.prog.info? 56).isSome = true := by kernel_rfl
attribute [simp] Tryd.underlying62
@[simp] theorem cells_62 : Tryd.prog.cellsOf 62 = 1 := by kernel_rfl
@[simp] theorem bytes_62 : Tryd.prog.bytesOf 62 = 8 := by kernel_rfl
@[simp] theorem zval_62 : zval Tryd.prog 62 = some (.nilp) := by kernel_rfl
@[simp] theorem aggT_62 : aggT Tryd.prog 62 = some false := by kernel_rfl
@[simp] theorem info_62 : (Tryd.prog.info? 62).isSome = true := by kernel_rfl
attribute [simp] Tryd.underlying63
@[simp] theorem cells_63 : Tryd.prog.cellsOf 63 = 192 := by kernel_rfl
@[simp] theorem bytes_63 : Tryd.prog.bytesOf 63 = 2560 := by kernel_rfl
@[simp] theorem zval_63 : zval Tryd.prog 63 = some (.agg [.int .i64 0, .int .i64 0, .nils, .int .i64 0, .int .i64 0, .nils, .int .i64 0, .int .i64 0, .nils, .int .i64 0, .int .i64 0, .nils, .int .i64 0, .int .i64 0, .nils, .int .i64 0, .int .i64 0, .nils, .int .i64 0, .int .i64 0, .nils, .int .i64 0, .int .i64 0, .nils, .int .i64 0, .int .i64 0, .nils, .int .i64 0, .int .i64 0, .nils, .int .i64 0, .int .i64 0, .nils, .int .i64 0, .int .i64 0, .nils, .int .i64 0, .int .i64 0, .nils, .int .i64 0, .int .i64 0, .nils, .int .i64 0, .int .i64 0, .nils, .int .i64 0, .int .i64 0, .nils, .int .i64 0, .int .i64 0, .nils, .int .i64 0, .int .i64 0, .nils, .int .i64 0, .int .i64 0, .nils, .int .i64 0, .int .i64 0, .nils, .int .i64 0, .int .i64 0, .nils, .int .i64 0, .int .i64 0, .nils, .int .i64 0, .int .i64 0, .nils, .int .i64 0, .int .i64 0, .nils, .int .i64 0, .int .i64 0, .nils, .int .i64 0, .int .i64 0, .nils, .int .i64 0, .int .i64 0, .nils, .int .i64 0, .int .i64 0, .nils, .int .i64 0, .int .i64 0, .nils, .int .i64 0, .int .i64 0, .nils, .int .i64 0, .int .i64 0, .nils, .int .i64 0, .int .i64 0, .nils, .int .i64 0, .int .i64 0, .nils, .int .i64 0, .int .i64 0, .nils, .int .i64 0, .int .i64 0, .nils, .int .i64 0, .int .i64 0, .nils, .int .i64 0, .int .i64 0, .nils, .int .i64 0, .int .i64 0, .nils, .int .i64 0, .int .i64 0, .nils, .int .i64 0, .int .i64 0, .nils, .int .i64 0, .int .i64 0, .nils, .int .i64 0, .int .i64 0, .nils, .int .i64 0, .int .i64 0, .nils, .int .i64 0, .int .i64 0, .nils, .int .i64 0, .int .i64 0, .nils, .int .i64 0, .int .i64 0, .nils, .int .i64 0, .int .i64 0, .nils, .int .i64 0, .int .i64 0, .nils, .int .i64 0, .int .i64 0, .nils, .int .i64 0, .int .i64 0, .nils, .int .i64 0, .int .i64 0, .nils, .int .i64 0, .int .i64 0, .nils, .int .i64 0, .int .i64 0, .nils, .int .i64 0, .int .i64 0, .nils, .int .i64 0, .int .i64 0, .nils, .int .i64 0, .int .i64 0, .nils, .int .i64 0, .int .i64 0, .nils, .int .i64 0, .int .i64 0, .nils, .int .i64 0, .int .i64 0, .nils, .int .i64 0, .int .i64 0, .nils, .int .i64 0, .int .i64 0, .nils, .int .i64 0, .int .i64 0, .nils, .int .i64 0, .int .i64 0, .nils, .int .i64 0, .int .i64 0, .nils]) := by kernel_rfl
@[simp] theorem aggT_63 : aggT Tryd.prog 63 = some true := by kernel_rfl
@[simp] theorem info_63 : (Tryd.prog.info? 63).isSome = true := by kernel_rfl
attribute [simp] Tryd.underlying64
@[simp] theorem cells_64 : Tryd.prog.cellsOf 64 = 193 := by kernel_rfl
@[simp] theorem bytes_64 : Tryd.prog.bytesOf 64 = 2568 := by kernel_rfl
@[simp] theorem zval_64 : zval Tryd.prog 64 = some (.agg [.int .u64 0, .int .i64 0, .int .i64 0, .nils, .int .i64 0, .int .i64 0, .nils, .int .i64 0, .int .i64 0, .nils, .int .i64 0, .int .i64 0, .nils, .int .i64 0, .int .i64 0, .nils, .int .i64 0, .int .i64 0, .nils, .int .i64 0, .int .i64 0, .nils, .int .i64 0, .int .i64 0, .nils, .int .i64 0, .int .i64 0, .nils, .int .i64 0, .int .i64 0, .nils, .int .i64 0, .int .i64 0, .nils, .int .i64 0, .int .i64 0, .nils, .int .i64 0, .int .i64 0, .nils, .int .i64 0, .int .i64 0, .nils, .int .i64 0, .int .i64 0, .nils, .int .i64 0, .int .i64 0, .nils, .int .i64 0, .int .i64 0, .nils, .int .i64 0, .int .i64 0, .nils, .int .i64 0, .int .i64 0, .nils, .int .i64 0, .int .i64 0, .nils, .int .i64 0, .int .i64 0, .nils, .int .i64 0, .int .i64 0, .nils, .int .i64 0, .int .i64 0, .nils, .int .i64 0, .int .i64 0, .nils, .int .i64 0, .int .i64 0, .nils, .int .i64 0, .int .i64 0, .nils, .int .i64 0, .int .i64 0, .nils, .int .i64 0, .int .i64 0, .nils, .int .i64 0, .int .i64 0, .nils, .int .i64 0, .int .i64 0, .nils, .int .i64 0, .int .i64 0, .nils, .int .i64 0, .int .i64 0, .nils, .int .i64 0, .int .i64 0, .nils, .int .i64 0, .int .i64 0, .nils, .int .i64 0, .int .i64 0, .nils, .int .i64 0, .int .i64 0, .nils, .int .i64 0, .int .i64 0, .nils, .int .i64 0, .int .i64 0, .nils, .int .i64 0, .int .i64 0, .nils, .int .i64 0, .int .i64 0, .nils, .int .i64 0, .int .i64 0, .nils, .int .i64 0, .int .i64 0, .nils, .int .i64 0, .int .i64 0, .nils, .int .i64 0, .int .i64 0, .nils, .int .i64 0, .int .i64 0, .nils, .int .i64 0, .int .i64 0, .nils, .int .i64 0, .int .i64 0, .nils, .int .i64 0, .int .i64 0, .nils, .int .i64 0, .int .i64 0, .nils, .int .i64 0, .int .i64 0, .nils, .int .i64 0, .int .i64 0, .nils, .int .i64 0, .int .i64 0, .nils, .int .i64 0, .int .i64 0, .nils, .int .i64 0, .int .i64 0, .nils, .int .i64 0, .int .i64 0, .nils, .int .i64 0, .int .i64 0, .nils, .int .i64 0, .int .i64 0, .nils, .int .i64 0, .int .i64 0, .nils, .int .i64 0, .int .i64 0, .nils, .int .i64 0, .int .i64 0, .nils, .int .i64 0, .int .i64 0, .nils, .int .i64 0, .int .i64 0, .nils, .int .i64 0, .int .i64 0, .nils, .int .i64 0, .int .i64 0, .nils]) := by kernel_rfl
@[simp] theorem aggT_64 : aggT Tryd.prog 64 = some true := by kernel_rfl
@[simp] theorem info_64 : (Tryd.prog.info? 64).isSome = true := by kernel_rfl
attribute [simp] Tryd.underlying65
@[simp] theorem cells_65 : Tryd.prog.cellsOf 65 = 193 := by kernel_rfl
@[simp] theorem bytes_65 : Tryd.prog.bytesOf 65 = 2568 := by kernel_rfl
@[simp] theorem zval_65 : zval Tryd.prog 65 = some (.agg [.int .u64 0, .int .i64 0, .int .i64 0, .nils, .int .i64 0, .int .i64 0, .nils, .int .i64 0, .int .i64 0, .nils, .int .i64 0, .int .i64 0, .nils, .int .i64 0, .int .i64 0, .nils, .int .i64 0, .int .i64 0, .nils, .int .i64 0, .int .i64 0, .nils, .int .i64 0, .int .i64 0, .nils, .int .i64 0, .int .i64 0, .nils, .int .i64 0, .int .i64 0, .nils, .int .i64 0, .int .i64 0, .nils, .int .i64 0, .int .i64 0, .nils, .int .i64 0, .int .i64 0, .nils, .int .i64 0, .int .i64 0, .nils, .int .i64 0, .int .i64 0, .nils, .int .i64 0, .int .i64 0, .nils, .int .i64 0, .int .i64 0, .nils, .int .i64 0, .int .i64 0, .nils, .int .i64 0, .int .i64 0, .nils, .int .i64 0, .int .i64 0, .nils, .int .i64 0, .int .i64 0, .nils, .int .i64 0, .int .i64 0, .nils, .int .i64 0, .int .i64 0, .nils, .int .i64 0, .int .i64 0, .nils, .int .i64 0, .int .i64 0, .nils, .int .i64 0, .int .i64 0, .nils, .int .i64 0, .int .i64 0, .nils, .int .i64 0, .int .i64 0, .nils, .int .i64 0, .int .i64 0, .nils, .int .i64 0, .int .i64 0, .nils, .int .i64 0, .int .i64 0, .nils, .int .i64 0, .int .i64 0, .nils, .int .i64 0, .int .i64 0, .nils, .int .i64 0, .int .i64 0, .nils, .int .i64 0, .int .i64 0, .nils, .int .i64 0, .int .i64 0, .nils, .int .i64 0, .int .i64 0, .nils, .int .i64 0, .int .i64 0, .nils, .int .i64 0, .int .i64 0, .nils, .int .i64 0, .int .i64 0, .nils, .int .i64 0, .int .i64 0, .nils, .int .i64 0, .int .i64 0, .nils, .int .i64 0, .int .i64 0, .nils, .int .i64 0, .int .i64 0, .nils, .int .i64 0, .int .i64 0, .nils, .int .i64 0, .int .i64 0, .nils, .int .i64 0, .int .i64 0, .nils, .int .i64 0, .int .i64 0, .nils, .int .i64 0, .int .i64 0, .nils, .int .i64 0, .int .i64 0, .nils, .int .i64 0, .int .i64 0, .nils, .int .i64 0, .int .i64 0, .nils, .int .i64 0, .int .i64 0, .nils, .int .i64 0, .int .i64 0, .nils, .int .i64 0, .int .i64 0, .nils, .int .i64 0, .int .i64 0, .nils, .int .i64 0, .int .i64 0, .nils, .int .i64 0, .int .i64 0, .nils, .int .i64 0, .int .i64 0, .nils, .int .i64 0, .int .i64 0, .nils, .int .i64 0, .int .i64 0, .nils, .int .i64 0, .int .i64 0, .nils, .int .i64 0, .int .i64 0, .nils, .int .i64 0, .int .i64 0, .nils]) := by kernel_rfl
@[simp] theorem aggT_65 : aggT Tryd.prog 65 = some true := by kernel_rfl
@[simp] theorem info_65 : (Tryd.prog.info? 65).isSome = true := by kernel_rfl
attribute [simp] Tryd.underlying69
@[simp] theorem cells_69 : Tryd.prog.cellsOf 69 = 5 := by kernel_rfl
@[simp] theorem bytes_69 : Tryd.prog.bytesOf 69 = 56 := by kernel_rfl
@[simp] theorem zval_69 : zval Tryd.prog 69 = some (.agg [.bool false, .int .i64 0, .int .i64 0, .nils, .int .i64 0]) := by kernel_rfl
@[simp] theorem aggT_69 : aggT Tryd.prog 69 = some true := by kernel_rfl
@[simp] theorem info_69 : (Tryd.prog.info? 69).isSome = true := by kernel_rfl
attribute [simp] Tryd.underlying70
@[simp] theorem cells_70 : Tryd.prog.cellsOf 70 = 5 := by kernel_rfl
@[simp] theorem bytes_70 : Tryd.prog.bytesOf 70 = 56 := by kernel_rfl
@[simp] theorem zval_70 : zval Tryd.prog 70 = some (.agg [.bool false, .int .i64 0, .int .i64 0, .nils, .int .i64 0]) := by kernel_rfl
@[simp] theorem aggT_70 : aggT Tryd.prog 70 = some true := by kernel_rfl
@[simp] theorem info_70 : (Tryd.prog.info? 70).isSome = true := by kernel_rfl
attribute [simp] Tryd.underlying74
@[simp] theorem cells_74 : Tryd.prog.cellsOf 74 = 4 := by kernel_rfl
@[simp] theorem bytes_74 : Tryd.prog.bytesOf 74 = 48 := by kernel_rfl
@[simp] theorem zval_74 : zval Tryd.prog 74 = some (.agg [.int .i64 0, .int .i64 0, .int .i64 0, .nils]) := by kernel_rfl
@[simp] theorem aggT_74 : aggT Tryd.prog 74 = some true := by kernel_rfl
@[simp] theorem info_74 : (Tryd.prog.info? 74).isSome = true := by kernel_rfl
attribute [simp] Tryd.underlying75
@[simp] theorem cells_75 : Tryd.prog.cellsOf 75 = 4 := by kernel_rfl
@[simp] theorem bytes_75 : Tryd.prog.bytesOf 75 = 48 := by kernel_rfl
@[simp] theorem zval_75 : zval Tryd.prog 75 = some (.agg [.int .i64 0, .int .i64 0, .int .i64 0, .nils]) := by kernel_rfl
@[simp] theorem aggT_75 : aggT Tryd.prog 75 = some true := by kernel_rfl
@[simp] theorem info_75 : (Tryd.prog.info? 75).isSome = true := by kernel_rfl
attribute [simp] Tryd.underlying76
@[simp] theorem cells_76 : Tryd.prog.cellsOf 76 = 1 := by kernel_rfl
@[simp] theorem bytes_76 : Tryd.prog.bytesOf 76 = 24 := by kernel_rfl
@[simp] theorem zval_76 : zval Tryd.prog 76 = some (.nils) := by kernel_rfl
@[simp] theorem aggT_76 : aggT Tryd.prog 76 = some false := by kernel_rfl
@[simp] theorem info_76 : (Tryd.prog.info? 76).isSome = true := by kernel_rfl
attribute [simp] Tryd.underlying80
@[simp] theorem cells_80 : Tryd.prog.cellsOf 80 = 1 := by kernel_rfl
@[simp] theorem bytes_80 : Tryd.prog.bytesOf 80 = 8 := by kernel_rfl
@[simp] theorem zval_80 : zval Tryd.prog 80 = some (.nilp) := by kernel_rfl
@[simp] theorem aggT_80 : aggT Tryd.prog 80 = some false := by kernel_rfl
@[simp] theorem info_80 : (Tryd.prog.info? 80).isSome = true := by kernel_rfl
attribute [simp] Tryd.underlying83
@[simp] theorem cells_83 : Tryd.prog.cellsOf 83 = 68 := by kernel_rfl
@[simp] theorem bytes_83 : Tryd.prog.bytesOf 83 = 576 := by kernel_rfl
@[simp] theorem zval_83 : zval Tryd.prog 83 = some (.agg [.int .i64 0, .nils, .nils, .int .i64 0, .int .i64 0, .int .i64 0, .int .i64 0, .int .i64 0, .int .i64 0, .int .i64 0, .int .i64 0, .int .i64 0, .int .i64 0, .int .i64 0, .int .i64 0, .int .i64 0, .int .i64 0, .int .i64 0, .int .i64 0, .int .i64 0, .int .i64 0, .int .i64 0, .int .i64 0, .int .i64 0, .int .i64 0, .int .i64 0, .int .i64 0, .int .i64 0, .int .i64 0, .int .i64 0, .int .i64 0, .int .i64 0, .int .i64 0, .int .i64 0, .int .i64 0, .int .i64 0, .int .i64 0, .int .i64 0, .int .i64 0, .int .i64 0, .int .i64 0, .int .i64 0, .int .i64 0, .int .i64 0, .int .i64 0, .int .i64 0, .int .i64 0, .int .i64 0, .int .i64 0, .int .i64 0, .int .i64 0, .int .i64 0, .int .i64 0, .int .i64 0, .int .i64 0, .int .i64 0, .int .i64 0, .int .i64 0, .int .i64 0, .int .i64 0, .int .i64 0, .int .i64 0, .int .i64 0, .int .i64 0, .int .i64 0, .int .i64 0, .int .i64 0, .int .i64 0]) := by kernel_rfl
@[simp] theorem aggT_83 : aggT Tryd.prog 83 = some true := by kernel_rfl
@[simp] theorem info_83 : (Tryd.prog.info? 83).isSome = true := by kernel_rfl
attribute [simp] Tryd.underlying84
@[simp] theorem cells_84 : Tryd.prog.cellsOf 84 = 68 := by kernel_rfl
@[simp] theorem bytes_84 : Tryd.prog.bytesOf 84 = 576 := by kernel_rfl
@[simp] theorem zval_84 : zval Tryd.prog 84 = some (.agg [.int .i64 0, .nils, .nils, .int .i64 0, .int .i64 0, .int .i64 0, .int .i64 0, .int .i64 0, .int .i64 0, .int .i64 0, .int .i64 0, .int .i64 0, .int .i64 0, .int .i64 0, .int .i64 0, .int .i64 0, .int .i64 0, .int .i64 0, .int .i64 0, .int .i64 0, .int .i64 0, .int .i64 0, .int .i64 0, .int .i64 0, .int .i64 0, .int .i64 0, .int .i64 0, .int .i64 0, .int .i64 0, .int .i64 0, .int .i64 0, .int .i64 0, .int .i64 0, .int .i64 0, .int .i64 0, .int .i64 0, .int .i64 0, .int .i64 0, .int .i64 0, .int .i64 0, .int .i64 0, .int .i64 0, .int .i64 0, .int .i64 0, .int .i64 0, .int .i64 0, .int .i64 0, .int .i64 0, .int .i64 0, .int .i64 0, .int .i64 0, .int .i64 0, .int .i64 0, .int .i64 0, .int .i64 0, .int .i64 0, .int .i64 0, .int .i64 0, .int .i64 0, .int .i64 0, .int .i64 0, .int .i64 0, .int .i64 0, .int .i64 0, .int .i64 0, .int .i64 0, .int .i64 0, .int .i64 0]) := by kernel_rfl
@[simp] theorem aggT_84 : aggT Tryd.prog 84 = some true := by kernel_rfl
@[simp] theorem info_84 : (Tryd.prog.info? 84).isSome = true := by kernel_rfl
attribute [simp] Tryd.underlying93
@[simp] theorem cells_93 : Tryd.prog.cellsOf 93 = 1 := by kernel_rfl
@[simp] theorem bytes_93 : Tryd.prog.bytesOf 93 = 8 := by kernel_rfl
@[simp] theorem zval_93 : zval Tryd.prog 93 = some (.nilf) := by kernel_rfl
@[simp] theorem aggT_93 : aggT Tryd.prog 93 = some false := by kernel_rfl
@[simp] theorem info_93 : (Tryd.prog.info? 93).isSome = true := by kernel_rfl
attribute [simp] Tryd.underlying108
@[simp] theorem cells_108 : Tryd.prog.cellsOf 108 = 3 := by kernel_rfl
@[simp] theorem bytes_108 : Tryd.prog.bytesOf 108 = 40 := by kernel_rfl
@[simp] theorem zval_108 : zval Tryd.prog 108 = some (.agg [.int .i64 0, .int .i64 0, .nils]) := by kernel_rfl
@[simp] theorem aggT_108 : aggT Tryd.prog 108 = some true := by kernel_rfl
@[simp] theorem info_108 : (Tryd.prog.info? 108).isSome = true := by kernel_rfl
attribute [simp] Tryd.underlying109
@[simp] theorem cells_109 : Tryd.prog.cellsOf 109 = 3 := by kernel_rfl
@[simp] theorem bytes_109 : Tryd.prog.bytesOf 109 = 40 := by kernel_rfl
@[simp] theorem zval_109 : zval Tryd.prog 109 = some (.agg [.int .i64 0, .int .i64 0, .nils]) := by kernel_rfl
@[simp] theorem aggT_109 : aggT Tryd.prog 109 = some true := by kernel_rfl
@[simp] theorem info_109 : (Tryd.prog.info? 109).isSome = true := by kernel_rfl
attribute [simp] Tryd.underlying111
@[simp] theorem cells_111 : Tryd.prog.cellsOf 111 = 1 := by kernel_rfl
@[simp] theorem bytes_111 : Tryd.prog.bytesOf 111 = 16 := by kernel_rfl
@[simp] theorem zval_111 : zval Tryd.prog 111 = some (.nilif) := by kernel_rfl
@[simp] theorem aggT_111 : aggT Tryd.prog 111 = some false := by kernel_rfl
@[simp] theorem info_111 : (Tryd.prog.info? 111).isSome = true := by kernel_rfl
attribute [simp] Tryd.underlying112
@[simp] theorem cells_112 : Tryd.prog.cellsOf 112 = 1 := by kernel_rfl
@[simp] theorem bytes_112 : Tryd.prog.bytesOf 112 = 16 := by kernel_rfl
@[simp] theorem zval_112 : zval Tryd.prog 112 = some (.nilif) := by kernel_rfl
@[simp] theorem aggT_112 : aggT Tryd.prog 112 = some false := by kernel_rfl
@[simp] theorem info_112 : (Tryd.prog.info? 112).isSome = true := by kernel_rfl
attribute [simp] Tryd.underlying114
@[simp] theorem cells_114 : Tryd.prog.cellsOf 114 = 6 := by kernel_rfl
@[simp] theorem bytes_114 : Tryd.prog.bytesOf 114 = 80 := by kernel_rfl
@[simp] theorem zval_114 : zval Tryd.prog 114 = some (.agg [.int .i64 0, .int .i64 0, .nils, .int .i64 0, .int .i64 0, .nils]) := by kernel_rfl
@[simp] theorem aggT_114 : aggT Tryd.prog 114 = some true := by kernel_rfl
@[simp] theorem info_114 : (Tryd.prog.info? 114).isSome = true := by kernel_rfl
attribute [simp] Tryd.underlying115
@[simp] theorem cells_115 : Tryd.prog.cellsOf 115 = 6 := by kernel_rfl
@[simp] theorem bytes_115 : Tryd.prog.bytesOf 115 = 80 := by kernel_rfl
@[simp] theorem zval_115 : zval Tryd.prog 115 = some (.agg [.int .i64 0, .int .i64 0, .nils, .int .i64 0, .int .i64 0, .nils]) := by kernel_rfl
@[simp] theorem aggT_115 : aggT Tryd.prog 115 = some true := by kernel_rfl
@[simp] theorem info_115 : (Tryd.prog.info? 115).isSome = true := by kernel_rfl
attribute [simp] Tryd.underlying117
@[simp] theorem cells_117 : Tryd.prog.cellsOf 117 = 6 := by kernel_rfl
@[simp] theorem bytes_117 : Tryd.prog.bytesOf 117 = 80 := by kernel_rfl
@[simp] theorem zval_117 : zval Tryd.prog 117 = some (.agg [.int .i64 0, .int .i64 0, .nils, .int .i64 0, .int .i64 0, .nils]) := by kernel_rfl
@[simp] theorem aggT_117 : aggT Tryd.prog 117 = some true := by kernel_rfl
@[simp] theorem info_117 : (Tryd.prog.info? 117).isSome = true := by kernel_rfl
attribute [simp] Tryd.underlying118
@[simp] theorem cells_118 : Tryd.prog.cellsOf 118 = 4 := by kernel_rfl
@[simp] theorem bytes_118 : Tryd.prog.bytesOf 118 = 48 := by kernel_rfl
@[simp] theorem zval_118 : zval Tryd.prog 118 = some (.agg [.int .i64 0, .int .i64 0, .int .i64 0, .nils]) := by kernel_rfl
@[simp] theorem aggT_118 : aggT Tryd.prog 118 = some true := by kernel_rfl
@[simp] theorem info_118 : (Tryd.prog.info? 118).isSome = true := by kernel_rfl
attribute [simp] Tryd.underlying119
@[simp] theorem cells_119 : Tryd.prog.cellsOf 119 = 4 := by kernel_rfl
@[simp] theorem bytes_119 : Tryd.prog.bytesOf 119 = 48 := by kernel_rfl
@[simp] theorem zval_119 : zval Tryd.prog 119 = some (.agg [.int .i64 0, .int .i64 0, .int .i64 0, .nils]) := by kernel_rfl
@[simp] theorem aggT_119 : aggT Tryd.prog 119 = some true := by kernel_rfl
@[simp] theorem info_119 : (Tryd.prog.info? 119).isSome = true := by kernel_rfl
attribute [simp] Tryd.underlying122
@[simp] theorem cells_122 : Tryd.prog.cellsOf 122 = 1 := by kernel_rfl
@[simp] theorem bytes_122 : Tryd.prog.bytesOf 122 = 8 := by kernel_rfl
@[simp] theorem zval_122 : zval Tryd.prog 122 = some (.nilf) := by kernel_rfl
@[simp] theorem aggT_122 : aggT Tryd.prog 122 = some false := by kernel_rfl
@[simp] theorem info_122 : (Tryd.prog.info? 122).isSome = true := by kernel_rfl
attribute [simp] Tryd.underlying129
@[simp] theorem cells_129 : Tryd.prog.cellsOf 129 = 1 := by kernel_rfl
@[simp] theorem bytes_129 : Tryd.prog.bytesOf 129 = 8 := by kernel_rfl
@[simp] theorem zval_129 : zval Tryd.prog 129 = some (.int .u64 0) := by kernel_rfl
@[simp] theorem aggT_129 : aggT Tryd.prog 129 = some false := by kernel_rfl
@[simp] theorem info_129 : (Tryd.prog.info? 129).isSome = true := by kernel_rfl
attribute [simp] Tryd.underlying133
@[simp] theorem cells_133 : Tryd.prog.cellsOf 133 = 64 := by kernel_rfl
@[simp] theorem bytes_133 : Tryd.prog.bytesOf 133 = 64 := by kernel_rfl
@[simp] theorem zval_133 : zval Tryd.prog 133 = some (.agg [.int .u8 0, .int .u8 0, .int .u8 0, .int .u8 0, .int .u8 0, .int .u8 0, .int .u8 0, .int .u8 0, .int .u8 0, .int .u8 0, .int .u8 0, .int .u8 0, .int .u8 0, .int .u8 0, .int .u8 0, .int .u8 0, .int .u8 0, .int .u8 0, .int .u8 0, .int .u8 0, .int .u8 0, .int .u8 0, .int .u8 0, .int .u8 0, .int .u8 0, .int .u8 0, .int .u8 0, .int .u8 0, .int .u8 0, .int .u8 0, .int .u8 0, .int .u8 0, .int .u8 0, .int .u8 0, .int .u8 0, .int .u8 0, .int .u8 0, .int .u8 0, .int .u8 0, .int .u8 0, .int .u8 0, .int .u8 0, .int .u8 0, .int .u8 0, .int .u8 0, .int .u8 0, .int .u8 0, .int .u8 0, .int .u8 0, .int .u8 0, .int .u8 0, .int .u8 0, .int .u8 0, .int .u8 0, .int .u8 0, .int .u8 0, .int .u8 0, .int .u8 0, .int .u8 0, .int .u8 0, .int .u8 0, .int .u8 0, .int .u8 0, .int .u8 0]) := by kernel_rfl
@[simp] theorem aggT_133 : aggT Tryd.prog 133 = some true := by kernel_rfl
@[simp] theorem info_133 : (Tryd.prog.info? 133).isSome = true := by kernel_rfl
attribute [simp] Tryd.underlying135
@[simp] theorem cells_135 : Tryd.prog.cellsOf 135 = 4 := by kernel_rfl
@[simp] theorem bytes_135 : Tryd.prog.bytesOf 135 = 40 := by kernel_rfl
@[simp] theorem zval_135 : zval Tryd.prog 135 = some (.agg [.nilp, .nilp, .nilp, .str ⟨#[]⟩]) := by kernel_rfl
@[simp] theorem aggT_135 : aggT Tryd.prog 135 = some true := by kernel_rfl
@[simp] theorem info_135 : (Tryd.prog.info? 135).isSome = true := by kernel_rfl
attribute [simp] Tryd.underlying136
@[simp] theorem cells_136 : Tryd.prog.cellsOf 136 = 4 := by kernel_rfl
@[simp] theorem bytes_136 : Tryd.prog.bytesOf 136 = 40 := by kernel_rfl
@[simp] theorem zval_136 : zval Tryd.prog 136 = some (.agg [.nilp, .nilp, .nilp, .str ⟨#[]⟩]) := by kernel_rfl
@[simp] theorem aggT_136 : aggT Tryd.prog 136 = some true := by kernel_rfl
@[simp] theorem info_136 : (Tryd.prog.info? 136).isSome = true := by kernel_rfl
attribute [simp] Tryd.underlying137
@[simp] theorem cells_137 : Tryd.prog.cellsOf 137 = 0 := by kernel_rfl
@[simp] theorem bytes_137 : Tryd.prog.bytesOf 137 = 0 := by kernel_rfl
@[simp] theorem zval_137 : zval Tryd.prog 137 = some (.agg []) := by kernel_rfl
@[simp] theorem aggT_137 : aggT Tryd.prog 137 = some true := by kernel_rfl
@[simp] theorem info_137 : (Tryd.prog.info? 137).isSome = true := by kernel_rfl
attribute [simp] Tryd.underlying138
@[simp] theorem cells_138 : Tryd.prog.cellsOf 138 = 0 := by kernel_rfl
@[simp] theorem bytes_138 : Tryd.prog.bytesOf 138 = 0 := by kernel_rfl
@[simp] theorem zval_138 : zval Tryd.prog 138 = some (.agg []) := by kernel_rfl
@[simp] theorem aggT_138 : aggT Tryd.prog 138 = some true := by kernel_rfl
@[simp] theorem info_138 : (Tryd.prog.info? 138).isSome = true := by kernel_rfl
attribute [simp] Tryd.underlying139
@[simp] theorem cells_139 : Tryd.prog.cellsOf 139 = 0 := by kernel_rfl
@[simp] theorem bytes_139 : Tryd.prog.bytesOf 139 = 0 := by kernel_rfl
@[simp] theorem zval_139 : zval Tryd.prog 139 = some (.agg []) := by kernel_rfl
@[simp] theorem aggT_139 : aggT Tryd.prog 139 = some true := by kernel_rfl
@[simp] theorem info_139 : (Tryd.prog.info? 139).isSome = true := by kernel_rfl
attribute [simp] Tryd.underlying141
@[simp] theorem cells_141 : Tryd.prog.cellsOf 141 = 1 := by kernel_rfl
@[simp] theorem bytes_141 : Tryd.prog.bytesOf 141 = 4 := by kernel_rfl
@[simp] theorem zval_141 : zval Tryd.prog 141 = some (.int .u32 0) := by kernel_rfl
@[simp] theorem aggT_141 : aggT Tryd.prog 141 = some false := by kernel_rfl
@[simp] theorem info_141 : (Tryd.prog.info? 141).isSome = true := by kernel_rfl
attribute [simp] Tryd.underlying142
@[simp] theorem cells_142 : Tryd.prog.cellsOf 142 = 1 := by kernel_rfl
@[simp] theorem bytes_142 : Tryd.prog.bytesOf 142 = 1 := by kernel_rfl
@[simp] theorem zval_142 : zval Tryd.prog 142 = some (.int .u8 0) := by kernel_rfl
@[simp] theorem aggT_142 : aggT Tryd.prog 142 = some false := by kernel_rfl
@[simp] theorem info_142 : (Tryd.prog.info? 142).isSome = true := by kernel_rfl
attribute [simp] Tryd.underlying143
@[simp] theorem cells_143 : Tryd.prog.cellsOf 143 = 1 := by kernel_rfl
@[simp] theorem bytes_143 : Tryd.prog.bytesOf 143 = 1 := by kernel_rfl
@[simp] theorem zval_143 : zval Tryd.prog 143 = some (.int .u8 0) := by kernel_rfl
@[simp] theorem aggT_143 : aggT Tryd.prog 143 = some false := by kernel_rfl
@[simp] theorem info_143 : (Tryd.prog.info? 143).isSome = true := by kernel_rfl
attribute [simp] Tryd.underlying145
@[simp] theorem cells_145 : Tryd.prog.cellsOf 145 = 1 := by kernel_rfl
@[simp] theorem bytes_145 : Tryd.prog.bytesOf 145 = 8 := by kernel_rfl
@[simp] theorem zval_145 : zval Tryd.prog 145 = some (.nilp) := by kernel_rfl
@[simp] theorem aggT_145 : aggT Tryd.prog 145 = some false := by kernel_rfl
@[simp] theorem info_145 : (Tryd.prog.info? 145).isSome = true := by kernel_rfl
attribute [simp] Tryd.underlying146
@[simp] theorem cells_146 : Tryd.prog.cellsOf 146 = 1 := by kernel_rfl
@[simp] theorem bytes_146 : Tryd.prog.bytesOf 146 = 4 := by kernel_rfl
@[simp] theorem zval_146 : zval Tryd.prog 146 = some (.int .i32 0) := by kernel_rfl
@[simp] theorem aggT_146 : aggT Tryd.prog 146 = some false := by kernel_rfl
@[simp] theorem info_146 : (Tryd.prog.info? 146).isSome = true := by kernel_rfl
attribute [simp] Tryd.underlying147
@[simp] theorem cells_147 : Tryd.prog.cellsOf 147 = 1 := by kernel_rfl
@[simp] theorem bytes_147 : Tryd.prog.bytesOf 147 = 4 := by kernel_rfl
@[simp] theorem zval_147 : zval Tryd.prog 147 = some (.int .i32 0) := by kernel_rfl
@[simp] theorem aggT_147 : aggT Tryd.prog 147 = some false := by kernel_rfl
@[simp] theorem info_147 : (Tryd.prog.info? 147).isSome = true := by kernel_rfl
attribute [simp] Tryd.underlying148
@[simp] theorem cells_148 : Tryd.prog.cellsOf 148 = 11 := by kernel_rfl
@[simp] theorem bytes_148 : Tryd.prog.bytesOf 148 = 48 := by kernel_rfl
@[simp] theorem zval_148 : zval Tryd.prog 148 = some (.agg [.int .u64 0, .int .u64 0, .int .u32 0, .int .u8 0, .int .u8 0, .int .u8 0, .int .u8 0, .nilf, .nilp, .int .i32 0, .int .i32 0]) := by kernel_rfl
@[simp] theorem aggT_148 : aggT Tryd.prog 148 = some true := by kernel_rfl
@[simp] theorem info_148 : (Tryd.prog.info? 148).isSome = true := by kernel_rfl
attribute [simp] Tryd.underlying149
@[simp] theorem cells_149 : Tryd.prog.cellsOf 149 = 11 := by kernel_rfl
@[simp] theorem bytes_149 : Tryd.prog.bytesOf 149 = 48 := by kernel_rfl
@[simp] theorem zval_149 : zval Tryd.prog 149 = some (.agg [.int .u64 0, .int .u64 0, .int .u32 0, .int .u8 0, .int .u8 0, .int .u8 0, .int .u8 0, .nilf, .nilp, .int .i32 0, .int .i32 0]) := by kernel_rfl
@[simp] theorem aggT_149 : aggT Tryd.prog 149 = some true := by kernel_rfl
@[simp] theorem info_149 : (Tryd.prog.info? 149).isSome = true := by kernel_rfl
attribute [simp] Tryd.underlying151
@[simp] theorem cells_151 : Tryd.prog.cellsOf 151 = 1 := by kernel_rfl
@[simp] theorem bytes_151 : Tryd.prog.bytesOf 151 = 8 := by kernel_rfl
@[simp] theorem zval_151 : zval Tryd.prog 151 = some (.nilp) := by kernel_rfl
@[simp] theorem aggT_151 : aggT Tryd.prog 151 = some false := by kernel_rfl
@[simp] theorem info_151 : (Tryd.prog.info? 151).isSome = true := by kernel_rfl
theorem mixed : Tryd.prog.follows .mixedOrders = true := by kernel_rfl
end Go.Proofs.YtaacfmakfkaddaaDoor.Ax
