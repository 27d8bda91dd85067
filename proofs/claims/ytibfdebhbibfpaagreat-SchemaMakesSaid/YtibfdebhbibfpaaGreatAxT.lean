/- Facts on the types of the translation, for simp; by program. -/
import Derived.Test.YtibfdebhbibfpaaGreatAxN
import Derived.Test.YtibfdebhbibfpaaGreatProg
import Derived.KernelRfl
set_option linter.unusedSimpArgs false
set_option maxRecDepth 20000
namespace Go.Proofs.YtibfdebhbibfpaaGreat.Ax
open Go Go.Proofs

attribute [simp] Tryz.underlying1
@[simp] theorem cells_1 : Tryz.prog.cellsOf 1 = 1 := by kernel_rfl
@[simp] theorem bytes_1 : Tryz.prog.bytesOf 1 = 8 := by kernel_rfl
@[simp] theorem zval_1 : zval Tryz.prog 1 = some (.nilf) := by kernel_rfl
@[simp] theorem aggT_1 : aggT Tryz.prog 1 = some false := by kernel_rfl
@[simp] theorem info_1 : (Tryz.prog.info? 1).isSome = true := by kernel_rfl
attribute [simp] Tryz.underlying2
@[simp] theorem cells_2 : Tryz.prog.cellsOf 2 = 1 := by kernel_rfl
@[simp] theorem bytes_2 : Tryz.prog.bytesOf 2 = 8 := by kernel_rfl
@[simp] theorem zval_2 : zval Tryz.prog 2 = some (.int .i64 0) := by kernel_rfl
@[simp] theorem aggT_2 : aggT Tryz.prog 2 = some false := by kernel_rfl
@[simp] theorem info_2 : (Tryz.prog.info? 2).isSome = true := by kernel_rfl
attribute [simp] Tryz.underlying3
@[simp] theorem cells_3 : Tryz.prog.cellsOf 3 = 1 := by kernel_rfl
@[simp] theorem bytes_3 : Tryz.prog.bytesOf 3 = 8 := by kernel_rfl
@[simp] theorem zval_3 : zval Tryz.prog 3 = some (.int .i64 0) := by kernel_rfl
@[simp] theorem aggT_3 : aggT Tryz.prog 3 = some false := by kernel_rfl
@[simp] theorem info_3 : (Tryz.prog.info? 3).isSome = true := by kernel_rfl
attribute [simp] Tryz.underlying4
@[simp] theorem cells_4 : Tryz.prog.cellsOf 4 = 1 := by kernel_rfl
@[simp] theorem bytes_4 : Tryz.prog.bytesOf 4 = 1 := by kernel_rfl
@[simp] theorem zval_4 : zval Tryz.prog 4 = some (.bool false) := by kernel_rfl
@[simp] theorem aggT_4 : aggT Tryz.prog 4 = some false := by kernel_rfl
@[simp] theorem info_4 : (Tryz.prog.info? 4).isSome = true := by kernel_rfl
attribute [simp] Tryz.underlying5
@[simp] theorem cells_5 : Tryz.prog.cellsOf 5 = 1 := by kernel_rfl
@[simp] theorem bytes_5 : Tryz.prog.bytesOf 5 = 1 := by kernel_rfl
@[simp] theorem zval_5 : zval Tryz.prog 5 = some (.int .u8 0) := by kernel_rfl
@[simp] theorem aggT_5 : aggT Tryz.prog 5 = some false := by kernel_rfl
@[simp] theorem info_5 : (Tryz.prog.info? 5).isSome = true := by kernel_rfl
attribute [simp] Tryz.underlying6
@[simp] theorem cells_6 : Tryz.prog.cellsOf 6 = 1 := by kernel_rfl
@[simp] theorem bytes_6 : Tryz.prog.bytesOf 6 = 1 := by kernel_rfl
@[simp] theorem zval_6 : zval Tryz.prog 6 = some (.int .u8 0) := by kernel_rfl
@[simp] theorem aggT_6 : aggT Tryz.prog 6 = some false := by kernel_rfl
@[simp] theorem info_6 : (Tryz.prog.info? 6).isSome = true := by kernel_rfl
attribute [simp] Tryz.underlying7
@[simp] theorem cells_7 : Tryz.prog.cellsOf 7 = 4 := by kernel_rfl
@[simp] theorem bytes_7 : Tryz.prog.bytesOf 7 = 24 := by kernel_rfl
@[simp] theorem zval_7 : zval Tryz.prog 7 = some (.agg [.int .i64 0, .int .i64 0, .bool false, .int .u8 0]) := by kernel_rfl
@[simp] theorem aggT_7 : aggT Tryz.prog 7 = some true := by kernel_rfl
@[simp] theorem info_7 : (Tryz.prog.info? 7).isSome = true := by kernel_rfl
attribute [simp] Tryz.underlying8
@[simp] theorem cells_8 : Tryz.prog.cellsOf 8 = 4 := by kernel_rfl
@[simp] theorem bytes_8 : Tryz.prog.bytesOf 8 = 24 := by kernel_rfl
@[simp] theorem zval_8 : zval Tryz.prog 8 = some (.agg [.int .i64 0, .int .i64 0, .bool false, .int .u8 0]) := by kernel_rfl
@[simp] theorem aggT_8 : aggT Tryz.prog 8 = some true := by kernel_rfl
@[simp] theorem info_8 : (Tryz.prog.info? 8).isSome = true := by kernel_rfl
attribute [simp] Tryz.underlying9
@[simp] theorem cells_9 : Tryz.prog.cellsOf 9 = 1 := by kernel_rfl
@[simp] theorem bytes_9 : Tryz.prog.bytesOf 9 = 16 := by kernel_rfl
@[simp] theorem zval_9 : zval Tryz.prog 9 = some (.str ⟨#[]⟩) := by kernel_rfl
@[simp] theorem aggT_9 : aggT Tryz.prog 9 = some false := by kernel_rfl
@[simp] theorem info_9 : (Tryz.prog.info? 9).isSome = true := by kernel_rfl
attribute [simp] Tryz.underlying10
@[simp] theorem cells_10 : Tryz.prog.cellsOf 10 = 1 := by kernel_rfl
@[simp] theorem bytes_10 : Tryz.prog.bytesOf 10 = 16 := by kernel_rfl
@[simp] theorem zval_10 : zval Tryz.prog 10 = some (.str ⟨#[]⟩) := by kernel_rfl
@[simp] theorem aggT_10 : aggT Tryz.prog 10 = some false := by kernel_rfl
@[simp] theorem info_10 : (Tryz.prog.info? 10).isSome = true := by kernel_rfl
attribute [simp] Tryz.underlying11
@[simp] theorem cells_11 : Tryz.prog.cellsOf 11 = 1 := by kernel_rfl
@[simp] theorem bytes_11 : Tryz.prog.bytesOf 11 = 16 := by kernel_rfl
@[simp] theorem zval_11 : zval Tryz.prog 11 = some (.str ⟨#[]⟩) := by kernel_rfl
@[simp] theorem aggT_11 : aggT Tryz.prog 11 = some false := by kernel_rfl
@[simp] theorem info_11 : (Tryz.prog.info? 11).isSome = true := by kernel_rfl
attribute [simp] Tryz.underlying12
@[simp] theorem cells_12 : Tryz.prog.cellsOf 12 = 1 := by kernel_rfl
@[simp] theorem bytes_12 : Tryz.prog.bytesOf 12 = 8 := by kernel_rfl
@[simp] theorem zval_12 : zval Tryz.prog 12 = some (.int .u64 0) := by kernel_rfl
@[simp] theorem aggT_12 : aggT Tryz.prog 12 = some false := by kernel_rfl
@[simp] theorem info_12 : (Tryz.prog.info? 12).isSome = true := by kernel_rfl
attribute [simp] Tryz.underlying13
@[simp] theorem cells_13 : Tryz.prog.cellsOf 13 = 2 := by kernel_rfl
@[simp] theorem bytes_13 : Tryz.prog.bytesOf 13 = 24 := by kernel_rfl
@[simp] theorem zval_13 : zval Tryz.prog 13 = some (.agg [.str ⟨#[]⟩, .int .u64 0]) := by kernel_rfl
@[simp] theorem aggT_13 : aggT Tryz.prog 13 = some true := by kernel_rfl
@[simp] theorem info_13 : (Tryz.prog.info? 13).isSome = true := by kernel_rfl
attribute [simp] Tryz.underlying14
@[simp] theorem cells_14 : Tryz.prog.cellsOf 14 = 2 := by kernel_rfl
@[simp] theorem bytes_14 : Tryz.prog.bytesOf 14 = 24 := by kernel_rfl
@[simp] theorem zval_14 : zval Tryz.prog 14 = some (.agg [.str ⟨#[]⟩, .int .u64 0]) := by kernel_rfl
@[simp] theorem aggT_14 : aggT Tryz.prog 14 = some true := by kernel_rfl
@[simp] theorem info_14 : (Tryz.prog.info? 14).isSome = true := by kernel_rfl
attribute [simp] Tryz.underlying15
@[simp] theorem cells_15 : Tryz.prog.cellsOf 15 = 1 := by kernel_rfl
@[simp] theorem bytes_15 : Tryz.prog.bytesOf 15 = 8 := by kernel_rfl
@[simp] theorem zval_15 : zval Tryz.prog 15 = some (.nilp) := by kernel_rfl
@[simp] theorem aggT_15 : aggT Tryz.prog 15 = some false := by kernel_rfl
@[simp] theorem info_15 : (Tryz.prog.info? 15).isSome = true := by kernel_rfl
attribute [simp] Tryz.underlying16
@[simp] theorem cells_16 : Tryz.prog.cellsOf 16 = 1 := by kernel_rfl
@[simp] theorem bytes_16 : Tryz.prog.bytesOf 16 = 8 := by kernel_rfl
@[simp] theorem zval_16 : zval Tryz.prog 16 = some (.nilp) := by kernel_rfl
@[simp] theorem aggT_16 : aggT Tryz.prog 16 = some false := by kernel_rfl
@[simp] theorem info_16 : (Tryz.prog.info? 16).isSome = true := by kernel_rfl
attribute [simp] Tryz.underlying17
@[simp] theorem cells_17 : Tryz.prog.cellsOf 17 = 1 := by kernel_rfl
@[simp] theorem bytes_17 : Tryz.prog.bytesOf 17 = 8 := by kernel_rfl
@[simp] theorem zval_17 : zval Tryz.prog 17 = some (.nilp) := by kernel_rfl
@[simp] theorem aggT_17 : aggT Tryz.prog 17 = some false := by kernel_rfl
@[simp] theorem info_17 : (Tryz.prog.info? 17).isSome = true := by kernel_rfl
attribute [simp] Tryz.underlying18
@[simp] theorem cells_18 : Tryz.prog.cellsOf 18 = 1 := by kernel_rfl
@[simp] theorem bytes_18 : Tryz.prog.bytesOf 18 = 8 := by kernel_rfl
@[simp] theorem zval_18 : zval Tryz.prog 18 = some (.agg [.nilp]) := by kernel_rfl
@[simp] theorem aggT_18 : aggT Tryz.prog 18 = some true := by kernel_rfl
@[simp] theorem info_18 : (Tryz.prog.info? 18).isSome = true := by kernel_rfl
attribute [simp] Tryz.underlying19
@[simp] theorem cells_19 : Tryz.prog.cellsOf 19 = 1 := by kernel_rfl
@[simp] theorem bytes_19 : Tryz.prog.bytesOf 19 = 8 := by kernel_rfl
@[simp] theorem zval_19 : zval Tryz.prog 19 = some (.agg [.nilp]) := by kernel_rfl
@[simp] theorem aggT_19 : aggT Tryz.prog 19 = some true := by kernel_rfl
@[simp] theorem info_19 : (Tryz.prog.info? 19).isSome = true := by kernel_rfl
attribute [simp] Tryz.underlying20
@[simp] theorem cells_20 : Tryz.prog.cellsOf 20 = 1 := by kernel_rfl
@[simp] theorem bytes_20 : Tryz.prog.bytesOf 20 = 16 := by kernel_rfl
@[simp] theorem zval_20 : zval Tryz.prog 20 = some (.nilif) := by kernel_rfl
@[simp] theorem aggT_20 : aggT Tryz.prog 20 = some false := by kernel_rfl
@[simp] theorem info_20 : (Tryz.prog.info? 20).isSome = true := by kernel_rfl
attribute [simp] Tryz.underlying21
@[simp] theorem cells_21 : Tryz.prog.cellsOf 21 = 1 := by kernel_rfl
@[simp] theorem bytes_21 : Tryz.prog.bytesOf 21 = 4 := by kernel_rfl
@[simp] theorem zval_21 : zval Tryz.prog 21 = some (.int .i32 0) := by kernel_rfl
@[simp] theorem aggT_21 : aggT Tryz.prog 21 = some false := by kernel_rfl
@[simp] theorem info_21 : (Tryz.prog.info? 21).isSome = true := by kernel_rfl
attribute [simp] Tryz.underlying22
@[simp] theorem cells_22 : Tryz.prog.cellsOf 22 = 1 := by kernel_rfl
@[simp] theorem bytes_22 : Tryz.prog.bytesOf 22 = 24 := by kernel_rfl
@[simp] theorem zval_22 : zval Tryz.prog 22 = some (.nils) := by kernel_rfl
@[simp] theorem aggT_22 : aggT Tryz.prog 22 = some false := by kernel_rfl
@[simp] theorem info_22 : (Tryz.prog.info? 22).isSome = true := by kernel_rfl
attribute [simp] Tryz.underlying23
@[simp] theorem cells_23 : Tryz.prog.cellsOf 23 = 2 := by kernel_rfl
@[simp] theorem bytes_23 : Tryz.prog.bytesOf 23 = 32 := by kernel_rfl
@[simp] theorem zval_23 : zval Tryz.prog 23 = some (.agg [.nils, .int .i64 0]) := by kernel_rfl
@[simp] theorem aggT_23 : aggT Tryz.prog 23 = some true := by kernel_rfl
@[simp] theorem info_23 : (Tryz.prog.info? 23).isSome = true := by kernel_rfl
attribute [simp] Tryz.underlying24
@[simp] theorem cells_24 : Tryz.prog.cellsOf 24 = 2 := by kernel_rfl
@[simp] theorem bytes_24 : Tryz.prog.bytesOf 24 = 32 := by kernel_rfl
@[simp] theorem zval_24 : zval Tryz.prog 24 = some (.agg [.nils, .int .i64 0]) := by kernel_rfl
@[simp] theorem aggT_24 : aggT Tryz.prog 24 = some true := by kernel_rfl
@[simp] theorem info_24 : (Tryz.prog.info? 24).isSome = true := by kernel_rfl
attribute [simp] Tryz.underlying25
@[simp] theorem cells_25 : Tryz.prog.cellsOf 25 = 3 := by kernel_rfl
@[simp] theorem bytes_25 : Tryz.prog.bytesOf 25 = 40 := by kernel_rfl
@[simp] theorem zval_25 : zval Tryz.prog 25 = some (.agg [.int .i64 0, .int .i64 0, .nils]) := by kernel_rfl
@[simp] theorem aggT_25 : aggT Tryz.prog 25 = some true := by kernel_rfl
@[simp] theorem info_25 : (Tryz.prog.info? 25).isSome = true := by kernel_rfl
attribute [simp] Tryz.underlying26
@[simp] theorem cells_26 : Tryz.prog.cellsOf 26 = 3 := by kernel_rfl
@[simp] theorem bytes_26 : Tryz.prog.bytesOf 26 = 40 := by kernel_rfl
@[simp] theorem zval_26 : zval Tryz.prog 26 = some (.agg [.int .i64 0, .int .i64 0, .nils]) := by kernel_rfl
@[simp] theorem aggT_26 : aggT Tryz.prog 26 = some true := by kernel_rfl
@[simp] theorem info_26 : (Tryz.prog.info? 26).isSome = true := by kernel_rfl
attribute [simp] Tryz.underlying27
@[simp] theorem cells_27 : Tryz.prog.cellsOf 27 = 1 := by kernel_rfl
@[simp] theorem bytes_27 : Tryz.prog.bytesOf 27 = 8 := by kernel_rfl
@[simp] theorem zval_27 : zval Tryz.prog 27 = some (.int .i64 0) := by kernel_rfl
@[simp] theorem aggT_27 : aggT Tryz.prog 27 = some false := by kernel_rfl
@[simp] theorem info_27 : (Tryz.prog.info? 27).isSome = true := by kernel_rfl
attribute [simp] Tryz.underlying29
@[simp] theorem cells_29 : Tryz.prog.cellsOf 29 = 1 := by kernel_rfl
@[simp] theorem bytes_29 : Tryz.prog.bytesOf 29 = 8 := by kernel_rfl
@[simp] theorem zval_29 : zval Tryz.prog 29 = some (.nilf) := by kernel_rfl
@[simp] theorem aggT_29 : aggT Tryz.prog 29 = some false := by kernel_rfl
@[simp] theorem info_29 : (Tryz.prog.info? 29).isSome = true := by kernel_rfl
attribute [simp] Tryz.underlying30
@[simp] theorem cells_30 : Tryz.prog.cellsOf 30 = 1 := by kernel_rfl
@[simp] theorem bytes_30 : Tryz.prog.bytesOf 30 = 8 := by kernel_rfl
@[simp] theorem zval_30 : zval Tryz.prog 30 = some (.nilf) := by kernel_rfl
@[simp] theorem aggT_30 : aggT Tryz.prog 30 = some false := by kernel_rfl
@[simp] theorem info_30 : (Tryz.prog.info? 30).isSome = true := by kernel_rfl
attribute [simp] Tryz.underlying31
@[simp] theorem cells_31 : Tryz.prog.cellsOf 31 = 1 := by kernel_rfl
@[simp] theorem bytes_31 : Tryz.prog.bytesOf 31 = 8 := by kernel_rfl
@[simp] theorem zval_31 : zval Tryz.prog 31 = some (.nilf) := by kernel_rfl
@[simp] theorem aggT_31 : aggT Tryz.prog 31 = some false := by kernel_rfl
@[simp] theorem info_31 : (Tryz.prog.info? 31).isSome = true := by kernel_rfl
attribute [simp] Tryz.underlying32
@[simp] theorem cells_32 : Tryz.prog.cellsOf 32 = 1 := by kernel_rfl
@[simp] theorem bytes_32 : Tryz.prog.bytesOf 32 = 24 := by kernel_rfl
@[simp] theorem zval_32 : zval Tryz.prog 32 = some (.nils) := by kernel_rfl
@[simp] theorem aggT_32 : aggT Tryz.prog 32 = some false := by kernel_rfl
@[simp] theorem info_32 : (Tryz.prog.info? 32).isSome = true := by kernel_rfl
attribute [simp] Tryz.underlying34
@[simp] theorem cells_34 : Tryz.prog.cellsOf 34 = 1 := by kernel_rfl
@[simp] theorem bytes_34 : Tryz.prog.bytesOf 34 = 8 := by kernel_rfl
@[simp] theorem zval_34 : zval Tryz.prog 34 = some (.nilf) := by kernel_rfl
@[simp] theorem aggT_34 : aggT Tryz.prog 34 = some false := by kernel_rfl
@[simp] theorem info_34 : (Tryz.prog.info? 34).isSome = true := by kernel_rfl
attribute [simp] Tryz.underlying35
@[simp] theorem cells_35 : Tryz.prog.cellsOf 35 = 1 := by kernel_rfl
@[simp] theorem bytes_35 : Tryz.prog.bytesOf 35 = 8 := by kernel_rfl
@[simp] theorem zval_35 : zval Tryz.prog 35 = some (.nilf) := by kernel_rfl
@[simp] theorem aggT_35 : aggT Tryz.prog 35 = some false := by kernel_rfl
@[simp] theorem info_35 : (Tryz.prog.info? 35).isSome = true := by kernel_rfl
attribute [simp] Tryz.underlying36
@[simp] theorem cells_36 : Tryz.prog.cellsOf 36 = 1 := by kernel_rfl
@[simp] theorem bytes_36 : Tryz.prog.bytesOf 36 = 8 := by kernel_rfl
@[simp] theorem zval_36 : zval Tryz.prog 36 = some (.nilf) := by kernel_rfl
@[simp] theorem aggT_36 : aggT Tryz.prog 36 = some false := by kernel_rfl
@[simp] theorem info_36 : (Tryz.prog.info? 36).isSome = true := by kernel_rfl
attribute [simp] Tryz.underlying38
@[simp] theorem cells_38 : Tryz.prog.cellsOf 38 = 1 := by kernel_rfl
@[simp] theorem bytes_38 : Tryz.prog.bytesOf 38 = 8 := by kernel_rfl
@[simp] theorem zval_38 : zval Tryz.prog 38 = some (.nilf) := by kernel_rfl
@[simp] theorem aggT_38 : aggT Tryz.prog 38 = some false := by kernel_rfl
@[simp] theorem info_38 : (Tryz.prog.info? 38).isSome = true := by kernel_rfl
attribute [simp] Tryz.underlying39
@[simp] theorem cells_39 : Tryz.prog.cellsOf 39 = 1 := by kernel_rfl
@[simp] theorem bytes_39 : Tryz.prog.bytesOf 39 = 8 := by kernel_rfl
@[simp] theorem zval_39 : zval Tryz.prog 39 = some (.nilf) := by kernel_rfl
@[simp] theorem aggT_39 : aggT Tryz.prog 39 = some false := by kernel_rfl
@[simp] theorem info_39 : (Tryz.prog.info? 39).isSome = true := by kernel_rfl
attribute [simp] Tryz.underlying41
@[simp] theorem cells_41 : Tryz.prog.cellsOf 41 = 1 := by kernel_rfl
@[simp] theorem bytes_41 : Tryz.prog.bytesOf 41 = 8 := by kernel_rfl
@[simp] theorem zval_41 : zval Tryz.prog 41 = some (.nilf) := by kernel_rfl
@[simp] theorem aggT_41 : aggT Tryz.prog 41 = some false := by kernel_rfl
@[simp] theorem info_41 : (Tryz.prog.info? 41).isSome = true := by kernel_rfl
attribute [simp] Tryz.underlying42
@[simp] theorem cells_42 : Tryz.prog.cellsOf 42 = 1 := by kernel_rfl
@[simp] theorem bytes_42 : Tryz.prog.bytesOf 42 = 8 := by kernel_rfl
@[simp] theorem zval_42 : zval Tryz.prog 42 = some (.nilf) := by kernel_rfl
@[simp] theorem aggT_42 : aggT Tryz.prog 42 = some false := by kernel_rfl
@[simp] theorem info_42 : (Tryz.prog.info? 42).isSome = true := by kernel_rfl
attribute [simp] Tryz.underlying43
@[simp] theorem cells_43 : Tryz.prog.cellsOf 43 = 1 := by kernel_rfl
@[simp] theorem bytes_43 : Tryz.prog.bytesOf 43 = 24 := by kernel_rfl
@[simp] theorem zval_43 : zval Tryz.prog 43 = some (.nils) := by kernel_rfl
@[simp] theorem aggT_43 : aggT Tryz.prog 43 = some false := by kernel_rfl
@[simp] theorem info_43 : (Tryz.prog.info? 43).isSome = true := by kernel_rfl
attribute [simp] Tryz.underlying44
@[simp] theorem cells_44 : Tryz.prog.cellsOf 44 = 3 := by kernel_rfl
@[simp] theorem bytes_44 : Tryz.prog.bytesOf 44 = 56 := by kernel_rfl
@[simp] theorem zval_44 : zval Tryz.prog 44 = some (.agg [.int .i64 0, .nils, .nils]) := by kernel_rfl
@[simp] theorem aggT_44 : aggT Tryz.prog 44 = some true := by kernel_rfl
@[simp] theorem info_44 : (Tryz.prog.info? 44).isSome = true := by kernel_rfl
attribute [simp] Tryz.underlying45
@[simp] theorem cells_45 : Tryz.prog.cellsOf 45 = 3 := by kernel_rfl
@[simp] theorem bytes_45 : Tryz.prog.bytesOf 45 = 56 := by kernel_rfl
@[simp] theorem zval_45 : zval Tryz.prog 45 = some (.agg [.int .i64 0, .nils, .nils]) := by kernel_rfl
@[simp] theorem aggT_45 : aggT Tryz.prog 45 = some true := by kernel_rfl
@[simp] theorem info_45 : (Tryz.prog.info? 45).isSome = true := by kernel_rfl
attribute [simp] Tryz.underlying46
@[simp] theorem cells_46 : Tryz.prog.cellsOf 46 = 1 := by kernel_rfl
@[simp] theorem bytes_46 : Tryz.prog.bytesOf 46 = 8 := by kernel_rfl
@[simp] theorem zval_46 : zval Tryz.prog 46 = some (.nilf) := by kernel_rfl
@[simp] theorem aggT_46 : aggT Tryz.prog 46 = some false := by kernel_rfl
@[simp] theorem info_46 : (Tryz.prog.info? 46).isSome = true := by kernel_rfl
attribute [simp] Tryz.underlying47
@[simp] theorem cells_47 : Tryz.prog.cellsOf 47 = 1 := by kernel_rfl
@[simp] theorem bytes_47 : Tryz.prog.bytesOf 47 = 8 := by kernel_rfl
@[simp] theorem zval_47 : zval Tryz.prog 47 = some (.nilf) := by kernel_rfl
@[simp] theorem aggT_47 : aggT Tryz.prog 47 = some false := by kernel_rfl
@[simp] theorem info_47 : (Tryz.prog.info? 47).isSome = true := by kernel_rfl
attribute [simp] Tryz.underlying48
@[simp] theorem cells_48 : Tryz.prog.cellsOf 48 = 1 := by kernel_rfl
@[simp] theorem bytes_48 : Tryz.prog.bytesOf 48 = 8 := by kernel_rfl
@[simp] theorem zval_48 : zval Tryz.prog 48 = some (.nilf) := by kernel_rfl
@[simp] theorem aggT_48 : aggT Tryz.prog 48 = some false := by kernel_rfl
@[simp] theorem info_48 : (Tryz.prog.info? 48).isSome = true := by kernel_rfl
attribute [simp] Tryz.underlying49
@[simp] theorem cells_49 : Tryz.prog.cellsOf 49 = 1 := by kernel_rfl
@[simp] theorem bytes_49 : Tryz.prog.bytesOf 49 = 24 := by kernel_rfl
@[simp] theorem zval_49 : zval Tryz.prog 49 = some (.nils) := by kernel_rfl
@[simp] theorem aggT_49 : aggT Tryz.prog 49 = some false := by kernel_rfl
@[simp] theorem info_49 : (Tryz.prog.info? 49).isSome = true := by kernel_rfl
attribute [simp] Tryz.underlying51
@[simp] theorem cells_51 : Tryz.prog.cellsOf 51 = 1 := by kernel_rfl
@[simp] theorem bytes_51 : Tryz.prog.bytesOf 51 = 8 := by kernel_rfl
@[simp] theorem zval_51 : zval Tryz.prog 51 = some (.nilf) := by kernel_rfl
@[simp] theorem aggT_51 : aggT Tryz.prog 51 = some false := by kernel_rfl
@[simp] theorem info_51 : (Tryz.prog.info? 51).isSome = true := by kernel_rfl
attribute [simp] Tryz.underlying52
@[simp] theorem cells_52 : Tryz.prog.cellsOf 52 = 1 := by kernel_rfl
@[simp] theorem bytes_52 : Tryz.prog.bytesOf 52 = 8 := by kernel_rfl
@[simp] theorem zval_52 : zval Tryz.prog 52 = some (.nilf) := by kernel_rfl
@[simp] theorem aggT_52 : aggT Tryz.prog 52 = some false := by kernel_rfl
@[simp] theorem info_52 : (Tryz.prog.info? 52).isSome = true := by kernel_rfl
attribute [simp] Tryz.underlying53
@[simp] theorem cells_53 : Tryz.prog.cellsOf 53 = 1 := by kernel_rfl
@[simp] theorem bytes_53 : Tryz.prog.bytesOf 53 = 8 := by kernel_rfl
@[simp] theorem zval_53 : zval Tryz.prog 53 = some (.nilf) := by kernel_rfl
@[simp] theorem aggT_53 : aggT Tryz.prog 53 = some false := by kernel_rfl
@[simp] theorem info_53 : (Tryz.prog.info? 53).isSome = true := by kernel_rfl
attribute [simp] Tryz.underlying54
@[simp] theorem cells_54 : Tryz.prog.cellsOf 54 = 1 := by kernel_rfl
@[simp] theorem bytes_54 : Tryz.prog.bytesOf 54 = 8 := by kernel_rfl
@[simp] theorem zval_54 : zval Tryz.prog 54 = some (.nilf) := by kernel_rfl
@[simp] theorem aggT_54 : aggT Tryz.prog 54 = some false := by kernel_rfl
@[simp] theorem info_54 : (Tryz.prog.info? 54).isSome = true := by kernel_rfl
attribute [simp] Tryz.underlying55
@[simp] theorem cells_55 : Tryz.prog.cellsOf 55 = 1 := by kernel_rfl
@[simp] theorem bytes_55 : Tryz.prog.bytesOf 55 = 8 := by kernel_rfl
@[simp] theorem zval_55 : zval Tryz.prog 55 = some (.nilf) := by kernel_rfl
@[simp] theorem aggT_55 : aggT Tryz.prog 55 = some false := by kernel_rfl
@[simp] theorem info_55 : (Tryz.prog.info? 55).isSome = true := by kernel_rfl
attribute [simp] Tryz.underlying57
@[simp] theorem cells_57 : Tryz.prog.cellsOf 57 = 1 := by kernel_rfl
@[simp] theorem bytes_57 : Tryz.prog.bytesOf 57 = 8 := by kernel_rfl
@[simp] theorem zval_57 : zval Tryz.prog 57 = some (.nilf) := by kernel_rfl
@[simp] theorem aggT_57 : aggT Tryz.prog 57 = some false := by kernel_rfl
@[simp] theorem info_57 : (Tryz.prog.info? 57).isSome = true := by kernel_rfl
attribute [simp] Tryz.underlying58
@[simp] theorem cells_58 : Tryz.prog.cellsOf 58 = 6 := by kernel_rfl
@[simp] theorem bytes_58 : Tryz.prog.bytesOf 58 = 64 := by kernel_rfl
@[simp] theorem zval_58 : zval Tryz.prog 58 = some (.agg [.int .i64 0, .int .i64 0, .nils, .int .i64 0, .int .i64 0, .int .i64 0]) := by kernel_rfl
@[simp] theorem aggT_58 : aggT Tryz.prog 58 = some true := by kernel_rfl
@[simp] theorem info_58 : (Tryz.prog.info? 58).isSome = true := by kernel_rfl
attribute [simp] Tryz.underlying59
@[simp] theorem cells_59 : Tryz.prog.cellsOf 59 = 6 := by kernel_rfl
@[simp] theorem bytes_59 : Tryz.prog.bytesOf 59 = 64 := by kernel_rfl
@[simp] theorem zval_59 : zval Tryz.prog 59 = some (.agg [.int .i64 0, .int .i64 0, .nils, .int .i64 0, .int .i64 0, .int .i64 0]) := by kernel_rfl
@[simp] theorem aggT_59 : aggT Tryz.prog 59 = some true := by kernel_rfl
@[simp] theorem info_59 : (Tryz.prog.info? 59).isSome = true := by kernel_rfl
attribute [simp] Tryz.underlying60
@[simp] theorem cells_60 : Tryz.prog.cellsOf 60 = 1 := by kernel_rfl
@[simp] theorem bytes_60 : Tryz.prog.bytesOf 60 = 8 := by kernel_rfl
@[simp] theorem zval_60 : zval Tryz.prog 60 = some (.nilf) := by kernel_rfl
@[simp] theorem aggT_60 : aggT Tryz.prog 60 = some false := by kernel_rfl
@[simp] theorem info_60 : (Tryz.prog.info? 60).isSome = true := by kernel_rfl
attribute [simp] Tryz.underlying61
@[simp] theorem cells_61 : Tryz.prog.cellsOf 61 = 1 := by kernel_rfl
@[simp] theorem bytes_61 : Tryz.prog.bytesOf 61 = 8 := by kernel_rfl
@[simp] theorem zval_61 : zval Tryz.prog 61 = some (.nilf) := by kernel_rfl
@[simp] theorem aggT_61 : aggT Tryz.prog 61 = some false := by kernel_rfl
@[simp] theorem info_61 : (Tryz.prog.info? 61).isSome = true := by kernel_rfl
attribute [simp] Tryz.underlying62
@[simp] theorem cells_62 : Tryz.prog.cellsOf 62 = 1 := by kernel_rfl
@[simp] theorem bytes_62 : Tryz.prog.bytesOf 62 = 8 := by kernel_rfl
@[simp] theorem zval_62 : zval Tryz.prog 62 = some (.nilf) := by kernel_rfl
@[simp] theorem aggT_62 : aggT Tryz.prog 62 = some false := by kernel_rfl
@[simp] theorem info_62 : (Tryz.prog.info? 62).isSome = true := by kernel_rfl
attribute [simp] Tryz.underlying63
@[simp] theorem cells_63 : Tryz.prog.cellsOf 63 = 1 := by kernel_rfl
@[simp] theorem bytes_63 : Tryz.prog.bytesOf 63 = 8 := by kernel_rfl
@[simp] theorem zval_63 : zval Tryz.prog 63 = some (.nilf) := by kernel_rfl
@[simp] theorem aggT_63 : aggT Tryz.prog 63 = some false := by kernel_rfl
@[simp] theorem info_63 : (Tryz.prog.info? 63).isSome = true := by kernel_rfl
attribute [simp] Tryz.underlying64
@[simp] theorem cells_64 : Tryz.prog.cellsOf 64 = 1 := by kernel_rfl
@[simp] theorem bytes_64 : Tryz.prog.bytesOf 64 = 8 := by kernel_rfl
@[simp] theorem zval_64 : zval Tryz.prog 64 = some (.nilf) := by kernel_rfl
@[simp] theorem aggT_64 : aggT Tryz.prog 64 = some false := by kernel_rfl
@[simp] theorem info_64 : (Tryz.prog.info? 64).isSome = true := by kernel_rfl
attribute [simp] Tryz.underlying65
@[simp] theorem cells_65 : Tryz.prog.cellsOf 65 = 1 := by kernel_rfl
@[simp] theorem bytes_65 : Tryz.prog.bytesOf 65 = 8 := by kernel_rfl
@[simp] theorem zval_65 : zval Tryz.prog 65 = some (.nilf) := by kernel_rfl
@[simp] theorem aggT_65 : aggT Tryz.prog 65 = some false := by kernel_rfl
@[simp] theorem info_65 : (Tryz.prog.info? 65).isSome = true := by kernel_rfl
attribute [simp] Tryz.underlying66
@[simp] theorem cells_66 : Tryz.prog.cellsOf 66 = 1 := by kernel_rfl
@[simp] theorem bytes_66 : Tryz.prog.bytesOf 66 = 8 := by kernel_rfl
@[simp] theorem zval_66 : zval Tryz.prog 66 = some (.nilf) := by kernel_rfl
@[simp] theorem aggT_66 : aggT Tryz.prog 66 = some false := by kernel_rfl
@[simp] theorem info_66 : (Tryz.prog.info? 66).isSome = true := by kernel_rfl
attribute [simp] Tryz.underlying67
@[simp] theorem cells_67 : Tryz.prog.cellsOf 67 = 1 := by kernel_rfl
@[simp] theorem bytes_67 : Tryz.prog.bytesOf 67 = 8 := by kernel_rfl
@[simp] theorem zval_67 : zval Tryz.prog 67 = some (.nilf) := by kernel_rfl
@[simp] theorem aggT_67 : aggT Tryz.prog 67 = some false := by kernel_rfl
@[simp] theorem info_67 : (Tryz.prog.info? 67).isSome = true := by kernel_rfl
attribute [simp] Tryz.underlying68
@[simp] theorem cells_68 : Tryz.prog.cellsOf 68 = 5 := by kernel_rfl
@[simp] theorem bytes_68 : Tryz.prog.bytesOf 68 = 48 := by kernel_rfl
@[simp] theorem zval_68 : zval Tryz.prog 68 = some (.agg [.int .i64 0, .str ⟨#[]⟩, .bool false, .nilf, .nilf]) := by kernel_rfl
@[simp] theorem aggT_68 : aggT Tryz.prog 68 = some true := by kernel_rfl
@[simp] theorem info_68 : (Tryz.prog.info? 68).isSome = true := by kernel_rfl
attribute [simp] Tryz.underlying69
@[simp] theorem cells_69 : Tryz.prog.cellsOf 69 = 5 := by kernel_rfl
@[simp] theorem bytes_69 : Tryz.prog.bytesOf 69 = 48 := by kernel_rfl
@[simp] theorem zval_69 : zval Tryz.prog 69 = some (.agg [.int .i64 0, .str ⟨#[]⟩, .bool false, .nilf, .nilf]) := by kernel_rfl
@[simp] theorem aggT_69 : aggT Tryz.prog 69 = some true := by kernel_rfl
@[simp] theorem info_69 : (Tryz.prog.info? 69).isSome = true := by kernel_rfl
attribute [simp] Tryz.underlying71
@[simp] theorem cells_71 : Tryz.prog.cellsOf 71 = 1 := by kernel_rfl
@[simp] theorem bytes_71 : Tryz.prog.bytesOf 71 = 8 := by kernel_rfl
@[simp] theorem zval_71 : zval Tryz.prog 71 = some (.nilf) := by kernel_rfl
@[simp] theorem aggT_71 : aggT Tryz.prog 71 = some false := by kernel_rfl
@[simp] theorem info_71 : (Tryz.prog.info? 71).isSome = true := by kernel_rfl
attribute [simp] Tryz.underlying72
@[simp] theorem cells_72 : Tryz.prog.cellsOf 72 = 1 := by kernel_rfl
@[simp] theorem bytes_72 : Tryz.prog.bytesOf 72 = 8 := by kernel_rfl
@[simp] theorem zval_72 : zval Tryz.prog 72 = some (.nilf) := by kernel_rfl
@[simp] theorem aggT_72 : aggT Tryz.prog 72 = some false := by kernel_rfl
@[simp] theorem info_72 : (Tryz.prog.info? 72).isSome = true := by kernel_rfl
attribute [simp] Tryz.underlying74
@[simp] theorem cells_74 : Tryz.prog.cellsOf 74 = 1 := by kernel_rfl
@[simp] theorem bytes_74 : Tryz.prog.bytesOf 74 = 8 := by kernel_rfl
@[simp] theorem zval_74 : zval Tryz.prog 74 = some (.nilf) := by kernel_rfl
@[simp] theorem aggT_74 : aggT Tryz.prog 74 = some false := by kernel_rfl
@[simp] theorem info_74 : (Tryz.prog.info? 74).isSome = true := by kernel_rfl
attribute [simp] Tryz.underlying75
@[simp] theorem cells_75 : Tryz.prog.cellsOf 75 = 1 := by kernel_rfl
@[simp] theorem bytes_75 : Tryz.prog.bytesOf 75 = 8 := by kernel_rfl
@[simp] theorem zval_75 : zval Tryz.prog 75 = some (.nilf) := by kernel_rfl
@[simp] theorem aggT_75 : aggT Tryz.prog 75 = some false := by kernel_rfl
@[simp] theorem info_75 : (Tryz.prog.info? 75).isSome = true := by kernel_rfl
attribute [simp] Tryz.underlying76
@[simp] theorem cells_76 : Tryz.prog.cellsOf 76 = 1 := by kernel_rfl
@[simp] theorem bytes_76 : Tryz.prog.bytesOf 76 = 8 := by kernel_rfl
@[simp] theorem zval_76 : zval Tryz.prog 76 = some (.nilf) := by kernel_rfl
@[simp] theorem aggT_76 : aggT Tryz.prog 76 = some false := by kernel_rfl
@[simp] theorem info_76 : (Tryz.prog.info? 76).isSome = true := by kernel_rfl
attribute [simp] Tryz.underlying77
@[simp] theorem cells_77 : Tryz.prog.cellsOf 77 = 1 := by kernel_rfl
@[simp] theorem bytes_77 : Tryz.prog.bytesOf 77 = 8 := by kernel_rfl
@[simp] theorem zval_77 : zval Tryz.prog 77 = some (.nilf) := by kernel_rfl
@[simp] theorem aggT_77 : aggT Tryz.prog 77 = some false := by kernel_rfl
@[simp] theorem info_77 : (Tryz.prog.info? 77).isSome = true := by kernel_rfl
attribute [simp] Tryz.underlying78
@[simp] theorem cells_78 : Tryz.prog.cellsOf 78 = 5 := by kernel_rfl
@[simp] theorem bytes_78 : Tryz.prog.bytesOf 78 = 56 := by kernel_rfl
@[simp] theorem zval_78 : zval Tryz.prog 78 = some (.agg [.bool false, .int .i64 0, .int .i64 0, .nils, .int .i64 0]) := by kernel_rfl
@[simp] theorem aggT_78 : aggT Tryz.prog 78 = some true := by kernel_rfl
@[simp] theorem info_78 : (Tryz.prog.info? 78).isSome = true := by kernel_rfl
attribute [simp] Tryz.underlying79
@[simp] theorem cells_79 : Tryz.prog.cellsOf 79 = 5 := by kernel_rfl
@[simp] theorem bytes_79 : Tryz.prog.bytesOf 79 = 56 := by kernel_rfl
@[simp] theorem zval_79 : zval Tryz.prog 79 = some (.agg [.bool false, .int .i64 0, .int .i64 0, .nils, .int .i64 0]) := by kernel_rfl
@[simp] theorem aggT_79 : aggT Tryz.prog 79 = some true := by kernel_rfl
@[simp] theorem info_79 : (Tryz.prog.info? 79).isSome = true := by kernel_rfl
attribute [simp] Tryz.underlying80
@[simp] theorem cells_80 : Tryz.prog.cellsOf 80 = 1 := by kernel_rfl
@[simp] theorem bytes_80 : Tryz.prog.bytesOf 80 = 8 := by kernel_rfl
@[simp] theorem zval_80 : zval Tryz.prog 80 = some (.nilf) := by kernel_rfl
@[simp] theorem aggT_80 : aggT Tryz.prog 80 = some false := by kernel_rfl
@[simp] theorem info_80 : (Tryz.prog.info? 80).isSome = true := by kernel_rfl
attribute [simp] Tryz.underlying81
@[simp] theorem cells_81 : Tryz.prog.cellsOf 81 = 1 := by kernel_rfl
@[simp] theorem bytes_81 : Tryz.prog.bytesOf 81 = 8 := by kernel_rfl
@[simp] theorem zval_81 : zval Tryz.prog 81 = some (.nilf) := by kernel_rfl
@[simp] theorem aggT_81 : aggT Tryz.prog 81 = some false := by kernel_rfl
@[simp] theorem info_81 : (Tryz.prog.info? 81).isSome = true := by kernel_rfl
attribute [simp] Tryz.underlying82
@[simp] theorem cells_82 : Tryz.prog.cellsOf 82 = 1 := by kernel_rfl
@[simp] theorem bytes_82 : Tryz.prog.bytesOf 82 = 24 := by kernel_rfl
@[simp] theorem zval_82 : zval Tryz.prog 82 = some (.nils) := by kernel_rfl
@[simp] theorem aggT_82 : aggT Tryz.prog 82 = some false := by kernel_rfl
@[simp] theorem info_82 : (Tryz.prog.info? 82).isSome = true := by kernel_rfl
attribute [simp] Tryz.underlying83
@[simp] theorem cells_83 : Tryz.prog.cellsOf 83 = 1 := by kernel_rfl
@[simp] theorem bytes_83 : Tryz.prog.bytesOf 83 = 8 := by kernel_rfl
@[simp] theorem zval_83 : zval Tryz.prog 83 = some (.nilf) := by kernel_rfl
@[simp] theorem aggT_83 : aggT Tryz.prog 83 = some false := by kernel_rfl
@[simp] theorem info_83 : (Tryz.prog.info? 83).isSome = true := by kernel_rfl
attribute [simp] Tryz.underlying85
@[simp] theorem cells_85 : Tryz.prog.cellsOf 85 = 1 := by kernel_rfl
@[simp] theorem bytes_85 : Tryz.prog.bytesOf 85 = 8 := by kernel_rfl
@[simp] theorem zval_85 : zval Tryz.prog 85 = some (.nilf) := by kernel_rfl
@[simp] theorem aggT_85 : aggT Tryz.prog 85 = some false := by kernel_rfl
@[simp] theorem info_85 : (Tryz.prog.info? 85).isSome = true := by kernel_rfl
attribute [simp] Tryz.underlying86
@[simp] theorem cells_86 : Tryz.prog.cellsOf 86 = 1 := by kernel_rfl
@[simp] theorem bytes_86 : Tryz.prog.bytesOf 86 = 8 := by kernel_rfl
@[simp] theorem zval_86 : zval Tryz.prog 86 = some (.nilf) := by kernel_rfl
@[simp] theorem aggT_86 : aggT Tryz.prog 86 = some false := by kernel_rfl
@[simp] theorem info_86 : (Tryz.prog.info? 86).isSome = true := by kernel_rfl
attribute [simp] Tryz.underlying87
@[simp] theorem cells_87 : Tryz.prog.cellsOf 87 = 1 := by kernel_rfl
@[simp] theorem bytes_87 : Tryz.prog.bytesOf 87 = 8 := by kernel_rfl
@[simp] theorem zval_87 : zval Tryz.prog 87 = some (.nilf) := by kernel_rfl
@[simp] theorem aggT_87 : aggT Tryz.prog 87 = some false := by kernel_rfl
@[simp] theorem info_87 : (Tryz.prog.info? 87).isSome = true := by kernel_rfl
attribute [simp] Tryz.underlying88
@[simp] theorem cells_88 : Tryz.prog.cellsOf 88 = 1 := by kernel_rfl
@[simp] theorem bytes_88 : Tryz.prog.bytesOf 88 = 8 := by kernel_rfl
@[simp] theorem zval_88 : zval Tryz.prog 88 = some (.nilf) := by kernel_rfl
@[simp] theorem aggT_88 : aggT Tryz.prog 88 = some false := by kernel_rfl
@[simp] theorem info_88 : (Tryz.prog.info? 88).isSome = true := by kernel_rfl
attribute [simp] Tryz.underlying89
@[simp] theorem cells_89 : Tryz.prog.cellsOf 89 = 1 := by kernel_rfl
@[simp] theorem bytes_89 : Tryz.prog.bytesOf 89 = 24 := by kernel_rfl
@[simp] theorem zval_89 : zval Tryz.prog 89 = some (.nils) := by kernel_rfl
@[simp] theorem aggT_89 : aggT Tryz.prog 89 = some false := by kernel_rfl
@[simp] theorem info_89 : (Tryz.prog.info? 89).isSome = true := by kernel_rfl
attribute [simp] Tryz.underlying90
@[simp] theorem cells_90 : Tryz.prog.cellsOf 90 = 1 := by kernel_rfl
@[simp] theorem bytes_90 : Tryz.prog.bytesOf 90 = 8 := by kernel_rfl
@[simp] theorem zval_90 : zval Tryz.prog 90 = some (.nilp) := by kernel_rfl
@[simp] theorem aggT_90 : aggT Tryz.prog 90 = some false := by kernel_rfl
@[simp] theorem info_90 : (Tryz.prog.info? 90).isSome = true := by kernel_rfl
attribute [simp] Tryz.underlying91
@[simp] theorem cells_91 : Tryz.prog.cellsOf 91 = 2 := by kernel_rfl
@[simp] theorem bytes_91 : Tryz.prog.bytesOf 91 = 32 := by kernel_rfl
@[simp] theorem zval_91 : zval Tryz.prog 91 = some (.agg [.nils, .int .i64 0]) := by kernel_rfl
@[simp] theorem aggT_91 : aggT Tryz.prog 91 = some true := by kernel_rfl
@[simp] theorem info_91 : (Tryz.prog.info? 91).isSome = true := by kernel_rfl
attribute [simp] Tryz.underlying92
@[simp] theorem cells_92 : Tryz.prog.cellsOf 92 = 2 := by kernel_rfl
@[simp] theorem bytes_92 : Tryz.prog.bytesOf 92 = 32 := by kernel_rfl
@[simp] theorem zval_92 : zval Tryz.prog 92 = some (.agg [.nils, .int .i64 0]) := by kernel_rfl
@[simp] theorem aggT_92 : aggT Tryz.prog 92 = some true := by kernel_rfl
@[simp] theorem info_92 : (Tryz.prog.info? 92).isSome = true := by kernel_rfl
attribute [simp] Tryz.underlying93
@[simp] theorem cells_93 : Tryz.prog.cellsOf 93 = 1 := by kernel_rfl
@[simp] theorem bytes_93 : Tryz.prog.bytesOf 93 = 8 := by kernel_rfl
@[simp] theorem zval_93 : zval Tryz.prog 93 = some (.nilf) := by kernel_rfl
@[simp] theorem aggT_93 : aggT Tryz.prog 93 = some false := by kernel_rfl
@[simp] theorem info_93 : (Tryz.prog.info? 93).isSome = true := by kernel_rfl
attribute [simp] Tryz.underlying94
@[simp] theorem cells_94 : Tryz.prog.cellsOf 94 = 1 := by kernel_rfl
@[simp] theorem bytes_94 : Tryz.prog.bytesOf 94 = 8 := by kernel_rfl
@[simp] theorem zval_94 : zval Tryz.prog 94 = some (.nilf) := by kernel_rfl
@[simp] theorem aggT_94 : aggT Tryz.prog 94 = some false := by kernel_rfl
@[simp] theorem info_94 : (Tryz.prog.info? 94).isSome = true := by kernel_rfl
attribute [simp] Tryz.underlying95
@[simp] theorem cells_95 : Tryz.prog.cellsOf 95 = 1 := by kernel_rfl
@[simp] theorem bytes_95 : Tryz.prog.bytesOf 95 = 8 := by kernel_rfl
@[simp] theorem zval_95 : zval Tryz.prog 95 = some (.nilf) := by kernel_rfl
@[simp] theorem aggT_95 : aggT Tryz.prog 95 = some false := by kernel_rfl
@[simp] theorem info_95 : (Tryz.prog.info? 95).isSome = true := by kernel_rfl
attribute [simp] Tryz.underlying96
@[simp] theorem cells_96 : Tryz.prog.cellsOf 96 = 1 := by kernel_rfl
@[simp] theorem bytes_96 : Tryz.prog.bytesOf 96 = 8 := by kernel_rfl
@[simp] theorem zval_96 : zval Tryz.prog 96 = some (.nilf) := by kernel_rfl
@[simp] theorem aggT_96 : aggT Tryz.prog 96 = some false := by kernel_rfl
@[simp] theorem info_96 : (Tryz.prog.info? 96).isSome = true := by kernel_rfl
attribute [simp] Tryz.underlying97
@[simp] theorem cells_97 : Tryz.prog.cellsOf 97 = 1 := by kernel_rfl
@[simp] theorem bytes_97 : Tryz.prog.bytesOf 97 = 8 := by kernel_rfl
@[simp] theorem zval_97 : zval Tryz.prog 97 = some (.nilf) := by kernel_rfl
@[simp] theorem aggT_97 : aggT Tryz.prog 97 = some false := by kernel_rfl
@[simp] theorem info_97 : (Tryz.prog.info? 97).isSome = true := by kernel_rfl
attribute [simp] Tryz.underlying98
@[simp] theorem cells_98 : Tryz.prog.cellsOf 98 = 1 := by kernel_rfl
@[simp] theorem bytes_98 : Tryz.prog.bytesOf 98 = 8 := by kernel_rfl
@[simp] theorem zval_98 : zval Tryz.prog 98 = some (.nilf) := by kernel_rfl
@[simp] theorem aggT_98 : aggT Tryz.prog 98 = some false := by kernel_rfl
@[simp] theorem info_98 : (Tryz.prog.info? 98).isSome = true := by kernel_rfl
attribute [simp] Tryz.underlying99
@[simp] theorem cells_99 : Tryz.prog.cellsOf 99 = 1 := by kernel_rfl
@[simp] theorem bytes_99 : Tryz.prog.bytesOf 99 = 8 := by kernel_rfl
@[simp] theorem zval_99 : zval Tryz.prog 99 = some (.nilf) := by kernel_rfl
@[simp] theorem aggT_99 : aggT Tryz.prog 99 = some false := by kernel_rfl
@[simp] theorem info_99 : (Tryz.prog.info? 99).isSome = true := by kernel_rfl
attribute [simp] Tryz.underlying100
@[simp] theorem cells_100 : Tryz.prog.cellsOf 100 = 3 := by kernel_rfl
@[simp] theorem bytes_100 : Tryz.prog.bytesOf 100 = 40 := by kernel_rfl
@[simp] theorem zval_100 : zval Tryz.prog 100 = some (.agg [.nils, .int .i64 0, .int .i64 0]) := by kernel_rfl
@[simp] theorem aggT_100 : aggT Tryz.prog 100 = some true := by kernel_rfl
@[simp] theorem info_100 : (Tryz.prog.info? 100).isSome = true := by kernel_rfl
attribute [simp] Tryz.underlying101
@[simp] theorem cells_101 : Tryz.prog.cellsOf 101 = 3 := by kernel_rfl
@[simp] theorem bytes_101 : Tryz.prog.bytesOf 101 = 40 := by kernel_rfl
@[simp] theorem zval_101 : zval Tryz.prog 101 = some (.agg [.nils, .int .i64 0, .int .i64 0]) := by kernel_rfl
@[simp] theorem aggT_101 : aggT Tryz.prog 101 = some true := by kernel_rfl
@[simp] theorem info_101 : (Tryz.prog.info? 101).isSome = true := by kernel_rfl
attribute [simp] Tryz.underlying102
@[simp] theorem cells_102 : Tryz.prog.cellsOf 102 = 1 := by kernel_rfl
@[simp] theorem bytes_102 : Tryz.prog.bytesOf 102 = 8 := by kernel_rfl
@[simp] theorem zval_102 : zval Tryz.prog 102 = some (.nilf) := by kernel_rfl
@[simp] theorem aggT_102 : aggT Tryz.prog 102 = some false := by kernel_rfl
@[simp] theorem info_102 : (Tryz.prog.info? 102).isSome = true := by kernel_rfl
attribute [simp] Tryz.underlying103
@[simp] theorem cells_103 : Tryz.prog.cellsOf 103 = 1 := by kernel_rfl
@[simp] theorem bytes_103 : Tryz.prog.bytesOf 103 = 8 := by kernel_rfl
@[simp] theorem zval_103 : zval Tryz.prog 103 = some (.nilf) := by kernel_rfl
@[simp] theorem aggT_103 : aggT Tryz.prog 103 = some false := by kernel_rfl
@[simp] theorem info_103 : (Tryz.prog.info? 103).isSome = true := by kernel_rfl
attribute [simp] Tryz.underlying104
@[simp] theorem cells_104 : Tryz.prog.cellsOf 104 = 1 := by kernel_rfl
@[simp] theorem bytes_104 : Tryz.prog.bytesOf 104 = 8 := by kernel_rfl
@[simp] theorem zval_104 : zval Tryz.prog 104 = some (.nilf) := by kernel_rfl
@[simp] theorem aggT_104 : aggT Tryz.prog 104 = some false := by kernel_rfl
@[simp] theorem info_104 : (Tryz.prog.info? 104).isSome = true := by kernel_rfl
attribute [simp] Tryz.underlying105
@[simp] theorem cells_105 : Tryz.prog.cellsOf 105 = 1 := by kernel_rfl
@[simp] theorem bytes_105 : Tryz.prog.bytesOf 105 = 8 := by kernel_rfl
@[simp] theorem zval_105 : zval Tryz.prog 105 = some (.nilf) := by kernel_rfl
@[simp] theorem aggT_105 : aggT Tryz.prog 105 = some false := by kernel_rfl
@[simp] theorem info_105 : (Tryz.prog.info? 105).isSome = true := by kernel_rfl
attribute [simp] Tryz.underlying106
@[simp] theorem cells_106 : Tryz.prog.cellsOf 106 = 1 := by kernel_rfl
@[simp] theorem bytes_106 : Tryz.prog.bytesOf 106 = 8 := by kernel_rfl
@[simp] theorem zval_106 : zval Tryz.prog 106 = some (.nilf) := by kernel_rfl
@[simp] theorem aggT_106 : aggT Tryz.prog 106 = some false := by kernel_rfl
@[simp] theorem info_106 : (Tryz.prog.info? 106).isSome = true := by kernel_rfl
attribute [simp] Tryz.underlying107
@[simp] theorem cells_107 : Tryz.prog.cellsOf 107 = 1 := by kernel_rfl
@[simp] theorem bytes_107 : Tryz.prog.bytesOf 107 = 8 := by kernel_rfl
@[simp] theorem zval_107 : zval Tryz.prog 107 = some (.nilf) := by kernel_rfl
@[simp] theorem aggT_107 : aggT Tryz.prog 107 = some false := by kernel_rfl
@[simp] theorem info_107 : (Tryz.prog.info? 107).isSome = true := by kernel_rfl
attribute [simp] Tryz.underlying108
@[simp] theorem cells_108 : Tryz.prog.cellsOf 108 = 1 := by kernel_rfl
@[simp] theorem bytes_108 : Tryz.prog.bytesOf 108 = 8 := by kernel_rfl
@[simp] theorem zval_108 : zval Tryz.prog 108 = some (.nilf) := by kernel_rfl
@[simp] theorem aggT_108 : aggT Tryz.prog 108 = some false := by kernel_rfl
@[simp] theorem info_108 : (Tryz.prog.info? 108).isSome = true := by kernel_rfl
attribute [simp] Tryz.underlying109
@[simp] theorem cells_109 : Tryz.prog.cellsOf 109 = 1 := by kernel_rfl
@[simp] theorem bytes_109 : Tryz.prog.bytesOf 109 = 8 := by kernel_rfl
@[simp] theorem zval_109 : zval Tryz.prog 109 = some (.nilf) := by kernel_rfl
@[simp] theorem aggT_109 : aggT Tryz.prog 109 = some false := by kernel_rfl
@[simp] theorem info_109 : (Tryz.prog.info? 109).isSome = true := by kernel_rfl
attribute [simp] Tryz.underlying110
@[simp] theorem cells_110 : Tryz.prog.cellsOf 110 = 1 := by kernel_rfl
@[simp] theorem bytes_110 : Tryz.prog.bytesOf 110 = 8 := by kernel_rfl
@[simp] theorem zval_110 : zval Tryz.prog 110 = some (.nilf) := by kernel_rfl
@[simp] theorem aggT_110 : aggT Tryz.prog 110 = some false := by kernel_rfl
@[simp] theorem info_110 : (Tryz.prog.info? 110).isSome = true := by kernel_rfl
attribute [simp] Tryz.underlying111
@[simp] theorem cells_111 : Tryz.prog.cellsOf 111 = 1 := by kernel_rfl
@[simp] theorem bytes_111 : Tryz.prog.bytesOf 111 = 24 := by kernel_rfl
@[simp] theorem zval_111 : zval Tryz.prog 111 = some (.nils) := by kernel_rfl
@[simp] theorem aggT_111 : aggT Tryz.prog 111 = some false := by kernel_rfl
@[simp] theorem info_111 : (Tryz.prog.info? 111).isSome = true := by kernel_rfl
attribute [simp] Tryz.underlying113
@[simp] theorem cells_113 : Tryz.prog.cellsOf 113 = 1 := by kernel_rfl
@[simp] theorem bytes_113 : Tryz.prog.bytesOf 113 = 8 := by kernel_rfl
@[simp] theorem zval_113 : zval Tryz.prog 113 = some (.nilf) := by kernel_rfl
@[simp] theorem aggT_113 : aggT Tryz.prog 113 = some false := by kernel_rfl
@[simp] theorem info_113 : (Tryz.prog.info? 113).isSome = true := by kernel_rfl
attribute [simp] Tryz.underlying114
@[simp] theorem cells_114 : Tryz.prog.cellsOf 114 = 1 := by kernel_rfl
@[simp] theorem bytes_114 : Tryz.prog.bytesOf 114 = 8 := by kernel_rfl
@[simp] theorem zval_114 : zval Tryz.prog 114 = some (.nilf) := by kernel_rfl
@[simp] theorem aggT_114 : aggT Tryz.prog 114 = some false := by kernel_rfl
@[simp] theorem info_114 : (Tryz.prog.info? 114).isSome = true := by kernel_rfl
attribute [simp] Tryz.underlying115
@[simp] theorem cells_115 : Tryz.prog.cellsOf 115 = 1 := by kernel_rfl
@[simp] theorem bytes_115 : Tryz.prog.bytesOf 115 = 8 := by kernel_rfl
@[simp] theorem zval_115 : zval Tryz.prog 115 = some (.nilf) := by kernel_rfl
@[simp] theorem aggT_115 : aggT Tryz.prog 115 = some false := by kernel_rfl
@[simp] theorem info_115 : (Tryz.prog.info? 115).isSome = true := by kernel_rfl
attribute [simp] Tryz.underlying116
@[simp] theorem cells_116 : Tryz.prog.cellsOf 116 = 1 := by kernel_rfl
@[simp] theorem bytes_116 : Tryz.prog.bytesOf 116 = 8 := by kernel_rfl
@[simp] theorem zval_116 : zval Tryz.prog 116 = some (.nilf) := by kernel_rfl
@[simp] theorem aggT_116 : aggT Tryz.prog 116 = some false := by kernel_rfl
@[simp] theorem info_116 : (Tryz.prog.info? 116).isSome = true := by kernel_rfl
attribute [simp] Tryz.underlying117
@[simp] theorem cells_117 : Tryz.prog.cellsOf 117 = 1 := by kernel_rfl
@[simp] theorem bytes_117 : Tryz.prog.bytesOf 117 = 8 := by kernel_rfl
@[simp] theorem zval_117 : zval Tryz.prog 117 = some (.nilf) := by kernel_rfl
@[simp] theorem aggT_117 : aggT Tryz.prog 117 = some false := by kernel_rfl
@[simp] theorem info_117 : (Tryz.prog.info? 117).isSome = true := by kernel_rfl
attribute [simp] Tryz.underlying118
@[simp] theorem cells_118 : Tryz.prog.cellsOf 118 = 1 := by kernel_rfl
@[simp] theorem bytes_118 : Tryz.prog.bytesOf 118 = 8 := by kernel_rfl
@[simp] theorem zval_118 : zval Tryz.prog 118 = some (.nilf) := by kernel_rfl
@[simp] theorem aggT_118 : aggT Tryz.prog 118 = some false := by kernel_rfl
@[simp] theorem info_118 : (Tryz.prog.info? 118).isSome = true := by kernel_rfl
attribute [simp] Tryz.underlying119
@[simp] theorem cells_119 : Tryz.prog.cellsOf 119 = 1 := by kernel_rfl
@[simp] theorem bytes_119 : Tryz.prog.bytesOf 119 = 8 := by kernel_rfl
@[simp] theorem zval_119 : zval Tryz.prog 119 = some (.nilf) := by kernel_rfl
@[simp] theorem aggT_119 : aggT Tryz.prog 119 = some false := by kernel_rfl
@[simp] theorem info_119 : (Tryz.prog.info? 119).isSome = true := by kernel_rfl
attribute [simp] Tryz.underlying120
@[simp] theorem cells_120 : Tryz.prog.cellsOf 120 = 1 := by kernel_rfl
@[simp] theorem bytes_120 : Tryz.prog.bytesOf 120 = 8 := by kernel_rfl
@[simp] theorem zval_120 : zval Tryz.prog 120 = some (.nilf) := by kernel_rfl
@[simp] theorem aggT_120 : aggT Tryz.prog 120 = some false := by kernel_rfl
@[simp] theorem info_120 : (Tryz.prog.info? 120).isSome = true := by kernel_rfl
attribute [simp] Tryz.underlying121
@[simp] theorem cells_121 : Tryz.prog.cellsOf 121 = 1 := by kernel_rfl
@[simp] theorem bytes_121 : Tryz.prog.bytesOf 121 = 8 := by kernel_rfl
@[simp] theorem zval_121 : zval Tryz.prog 121 = some (.nilf) := by kernel_rfl
@[simp] theorem aggT_121 : aggT Tryz.prog 121 = some false := by kernel_rfl
@[simp] theorem info_121 : (Tryz.prog.info? 121).isSome = true := by kernel_rfl
attribute [simp] Tryz.underlying122
@[simp] theorem cells_122 : Tryz.prog.cellsOf 122 = 1 := by kernel_rfl
@[simp] theorem bytes_122 : Tryz.prog.bytesOf 122 = 8 := by kernel_rfl
@[simp] theorem zval_122 : zval Tryz.prog 122 = some (.nilf) := by kernel_rfl
@[simp] theorem aggT_122 : aggT Tryz.prog 122 = some false := by kernel_rfl
@[simp] theorem info_122 : (Tryz.prog.info? 122).isSome = true := by kernel_rfl
attribute [simp] Tryz.underlying123
@[simp] theorem cells_123 : Tryz.prog.cellsOf 123 = 1 := by kernel_rfl
@[simp] theorem bytes_123 : Tryz.prog.bytesOf 123 = 8 := by kernel_rfl
@[simp] theorem zval_123 : zval Tryz.prog 123 = some (.nilf) := by kernel_rfl
@[simp] theorem aggT_123 : aggT Tryz.prog 123 = some false := by kernel_rfl
@[simp] theorem info_123 : (Tryz.prog.info? 123).isSome = true := by kernel_rfl
attribute [simp] Tryz.underlying124
@[simp] theorem cells_124 : Tryz.prog.cellsOf 124 = 1 := by kernel_rfl
@[simp] theorem bytes_124 : Tryz.prog.bytesOf 124 = 8 := by kernel_rfl
@[simp] theorem zval_124 : zval Tryz.prog 124 = some (.nilf) := by kernel_rfl
@[simp] theorem aggT_124 : aggT Tryz.prog 124 = some false := by kernel_rfl
@[simp] theorem info_124 : (Tryz.prog.info? 124).isSome = true := by kernel_rfl
attribute [simp] Tryz.underlying125
@[simp] theorem cells_125 : Tryz.prog.cellsOf 125 = 1 := by kernel_rfl
@[simp] theorem bytes_125 : Tryz.prog.bytesOf 125 = 8 := by kernel_rfl
@[simp] theorem zval_125 : zval Tryz.prog 125 = some (.nilf) := by kernel_rfl
@[simp] theorem aggT_125 : aggT Tryz.prog 125 = some false := by kernel_rfl
@[simp] theorem info_125 : (Tryz.prog.info? 125).isSome = true := by kernel_rfl
attribute [simp] Tryz.underlying126
@[simp] theorem cells_126 : Tryz.prog.cellsOf 126 = 1 := by kernel_rfl
@[simp] theorem bytes_126 : Tryz.prog.bytesOf 126 = 8 := by kernel_rfl
@[simp] theorem zval_126 : zval Tryz.prog 126 = some (.nilf) := by kernel_rfl
@[simp] theorem aggT_126 : aggT Tryz.prog 126 = some false := by kernel_rfl
@[simp] theorem info_126 : (Tryz.prog.info? 126).isSome = true := by kernel_rfl
attribute [simp] Tryz.underlying127
@[simp] theorem cells_127 : Tryz.prog.cellsOf 127 = 1 := by kernel_rfl
@[simp] theorem bytes_127 : Tryz.prog.bytesOf 127 = 8 := by kernel_rfl
@[simp] theorem zval_127 : zval Tryz.prog 127 = some (.nilf) := by kernel_rfl
@[simp] theorem aggT_127 : aggT Tryz.prog 127 = some false := by kernel_rfl
@[simp] theorem info_127 : (Tryz.prog.info? 127).isSome = true := by kernel_rfl
attribute [simp] Tryz.underlying128
@[simp] theorem cells_128 : Tryz.prog.cellsOf 128 = 1 := by kernel_rfl
@[simp] theorem bytes_128 : Tryz.prog.bytesOf 128 = 8 := by kernel_rfl
@[simp] theorem zval_128 : zval Tryz.prog 128 = some (.nilf) := by kernel_rfl
@[simp] theorem aggT_128 : aggT Tryz.prog 128 = some false := by kernel_rfl
@[simp] theorem info_128 : (Tryz.prog.info? 128).isSome = true := by kernel_rfl
attribute [simp] Tryz.underlying129
@[simp] theorem cells_129 : Tryz.prog.cellsOf 129 = 1 := by kernel_rfl
@[simp] theorem bytes_129 : Tryz.prog.bytesOf 129 = 8 := by kernel_rfl
@[simp] theorem zval_129 : zval Tryz.prog 129 = some (.int .u64 0) := by kernel_rfl
@[simp] theorem aggT_129 : aggT Tryz.prog 129 = some false := by kernel_rfl
@[simp] theorem info_129 : (Tryz.prog.info? 129).isSome = true := by kernel_rfl
attribute [simp] Tryz.underlying130
@[simp] theorem cells_130 : Tryz.prog.cellsOf 130 = 1 := by kernel_rfl
@[simp] theorem bytes_130 : Tryz.prog.bytesOf 130 = 8 := by kernel_rfl
@[simp] theorem zval_130 : zval Tryz.prog 130 = some (.nilf) := by kernel_rfl
@[simp] theorem aggT_130 : aggT Tryz.prog 130 = some false := by kernel_rfl
@[simp] theorem info_130 : (Tryz.prog.info? 130).isSome = true := by kernel_rfl
attribute [simp] Tryz.underlying131
@[simp] theorem cells_131 : Tryz.prog.cellsOf 131 = 1 := by kernel_rfl
@[simp] theorem bytes_131 : Tryz.prog.bytesOf 131 = 8 := by kernel_rfl
@[simp] theorem zval_131 : zval Tryz.prog 131 = some (.nilf) := by kernel_rfl
@[simp] theorem aggT_131 : aggT Tryz.prog 131 = some false := by kernel_rfl
@[simp] theorem info_131 : (Tryz.prog.info? 131).isSome = true := by kernel_rfl
attribute [simp] Tryz.underlying132
@[simp] theorem cells_132 : Tryz.prog.cellsOf 132 = 1 := by kernel_rfl
@[simp] theorem bytes_132 : Tryz.prog.bytesOf 132 = 8 := by kernel_rfl
@[simp] theorem zval_132 : zval Tryz.prog 132 = some (.nilf) := by kernel_rfl
@[simp] theorem aggT_132 : aggT Tryz.prog 132 = some false := by kernel_rfl
@[simp] theorem info_132 : (Tryz.prog.info? 132).isSome = true := by kernel_rfl
attribute [simp] Tryz.underlying133
@[simp] theorem cells_133 : Tryz.prog.cellsOf 133 = 1 := by kernel_rfl
@[simp] theorem bytes_133 : Tryz.prog.bytesOf 133 = 8 := by kernel_rfl
@[simp] theorem zval_133 : zval Tryz.prog 133 = some (.nilf) := by kernel_rfl
@[simp] theorem aggT_133 : aggT Tryz.prog 133 = some false := by kernel_rfl
@[simp] theorem info_133 : (Tryz.prog.info? 133).isSome = true := by kernel_rfl
attribute [simp] Tryz.underlying134
@[simp] theorem cells_134 : Tryz.prog.cellsOf 134 = 1 := by kernel_rfl
@[simp] theorem bytes_134 : Tryz.prog.bytesOf 134 = 8 := by kernel_rfl
@[simp] theorem zval_134 : zval Tryz.prog 134 = some (.nilf) := by kernel_rfl
@[simp] theorem aggT_134 : aggT Tryz.prog 134 = some false := by kernel_rfl
@[simp] theorem info_134 : (Tryz.prog.info? 134).isSome = true := by kernel_rfl
attribute [simp] Tryz.underlying135
@[simp] theorem cells_135 : Tryz.prog.cellsOf 135 = 1 := by kernel_rfl
@[simp] theorem bytes_135 : Tryz.prog.bytesOf 135 = 8 := by kernel_rfl
@[simp] theorem zval_135 : zval Tryz.prog 135 = some (.nilf) := by kernel_rfl
@[simp] theorem aggT_135 : aggT Tryz.prog 135 = some false := by kernel_rfl
@[simp] theorem info_135 : (Tryz.prog.info? 135).isSome = true := by kernel_rfl
attribute [simp] Tryz.underlying136
@[simp] theorem cells_136 : Tryz.prog.cellsOf 136 = 1 := by kernel_rfl
@[simp] theorem bytes_136 : Tryz.prog.bytesOf 136 = 8 := by kernel_rfl
@[simp] theorem zval_136 : zval Tryz.prog 136 = some (.nilf) := by kernel_rfl
@[simp] theorem aggT_136 : aggT Tryz.prog 136 = some false := by kernel_rfl
@[simp] theorem info_136 : (Tryz.prog.info? 136).isSome = true := by kernel_rfl
attribute [simp] Tryz.underlying137
@[simp] theorem cells_137 : Tryz.prog.cellsOf 137 = 1 := by kernel_rfl
@[simp] theorem bytes_137 : Tryz.prog.bytesOf 137 = 8 := by kernel_rfl
@[simp] theorem zval_137 : zval Tryz.prog 137 = some (.nilf) := by kernel_rfl
@[simp] theorem aggT_137 : aggT Tryz.prog 137 = some false := by kernel_rfl
@[simp] theorem info_137 : (Tryz.prog.info? 137).isSome = true := by kernel_rfl
attribute [simp] Tryz.underlying138
@[simp] theorem cells_138 : Tryz.prog.cellsOf 138 = 3 := by kernel_rfl
@[simp] theorem bytes_138 : Tryz.prog.bytesOf 138 = 40 := by kernel_rfl
@[simp] theorem zval_138 : zval Tryz.prog 138 = some (.agg [.int .i64 0, .int .i64 0, .nils]) := by kernel_rfl
@[simp] theorem aggT_138 : aggT Tryz.prog 138 = some true := by kernel_rfl
@[simp] theorem info_138 : (Tryz.prog.info? 138).isSome = true := by kernel_rfl
attribute [simp] Tryz.underlying139
@[simp] theorem cells_139 : Tryz.prog.cellsOf 139 = 3 := by kernel_rfl
@[simp] theorem bytes_139 : Tryz.prog.bytesOf 139 = 40 := by kernel_rfl
@[simp] theorem zval_139 : zval Tryz.prog 139 = some (.agg [.int .i64 0, .int .i64 0, .nils]) := by kernel_rfl
@[simp] theorem aggT_139 : aggT Tryz.prog 139 = some true := by kernel_rfl
@[simp] theorem info_139 : (Tryz.prog.info? 139).isSome = true := by kernel_rfl
attribute [simp] Tryz.underlying140
@[simp] theorem cells_140 : Tryz.prog.cellsOf 140 = 1 := by kernel_rfl
@[simp] theorem bytes_140 : Tryz.prog.bytesOf 140 = 8 := by kernel_rfl
@[simp] theorem zval_140 : zval Tryz.prog 140 = some (.nilf) := by kernel_rfl
@[simp] theorem aggT_140 : aggT Tryz.prog 140 = some false := by kernel_rfl
@[simp] theorem info_140 : (Tryz.prog.info? 140).isSome = true := by kernel_rfl
attribute [simp] Tryz.underlying141
@[simp] theorem cells_141 : Tryz.prog.cellsOf 141 = 1 := by kernel_rfl
@[simp] theorem bytes_141 : Tryz.prog.bytesOf 141 = 8 := by kernel_rfl
@[simp] theorem zval_141 : zval Tryz.prog 141 = some (.nilp) := by kernel_rfl
@[simp] theorem aggT_141 : aggT Tryz.prog 141 = some false := by kernel_rfl
@[simp] theorem info_141 : (Tryz.prog.info? 141).isSome = true := by kernel_rfl
attribute [simp] Tryz.underlying143
@[simp] theorem cells_143 : Tryz.prog.cellsOf 143 = 1 := by kernel_rfl
@[simp] theorem bytes_143 : Tryz.prog.bytesOf 143 = 8 := by kernel_rfl
@[simp] theorem zval_143 : zval Tryz.prog 143 = some (.nilf) := by kernel_rfl
@[simp] theorem aggT_143 : aggT Tryz.prog 143 = some false := by kernel_rfl
@[simp] theorem info_143 : (Tryz.prog.info? 143).isSome = true := by kernel_rfl
attribute [simp] Tryz.underlying145
@[simp] theorem cells_145 : Tryz.prog.cellsOf 145 = 1 := by kernel_rfl
@[simp] theorem bytes_145 : Tryz.prog.bytesOf 145 = 8 := by kernel_rfl
@[simp] theorem zval_145 : zval Tryz.prog 145 = some (.nilf) := by kernel_rfl
@[simp] theorem aggT_145 : aggT Tryz.prog 145 = some false := by kernel_rfl
@[simp] theorem info_145 : (Tryz.prog.info? 145).isSome = true := by kernel_rfl
attribute [simp] Tryz.underlying146
@[simp] theorem cells_146 : Tryz.prog.cellsOf 146 = 1 := by kernel_rfl
@[simp] theorem bytes_146 : Tryz.prog.bytesOf 146 = 8 := by kernel_rfl
@[simp] theorem zval_146 : zval Tryz.prog 146 = some (.nilf) := by kernel_rfl
@[simp] theorem aggT_146 : aggT Tryz.prog 146 = some false := by kernel_rfl
@[simp] theorem info_146 : (Tryz.prog.info? 146).isSome = true := by kernel_rfl
attribute [simp] Tryz.underlying147
@[simp] theorem cells_147 : Tryz.prog.cellsOf 147 = 64 := by kernel_rfl
@[simp] theorem bytes_147 : Tryz.prog.bytesOf 147 = 512 := by kernel_rfl
@[simp] theorem zval_147 : zval Tryz.prog 147 = some (.agg [.int .i64 0, .int .i64 0, .int .i64 0, .int .i64 0, .int .i64 0, .int .i64 0, .int .i64 0, .int .i64 0, .int .i64 0, .int .i64 0, .int .i64 0, .int .i64 0, .int .i64 0, .int .i64 0, .int .i64 0, .int .i64 0, .int .i64 0, .int .i64 0, .int .i64 0, .int .i64 0, .int .i64 0, .int .i64 0, .int .i64 0, .int .i64 0, .int .i64 0, .int .i64 0, .int .i64 0, .int .i64 0, .int .i64 0, .int .i64 0, .int .i64 0, .int .i64 0, .int .i64 0, .int .i64 0, .int .i64 0, .int .i64 0, .int .i64 0, .int .i64 0, .int .i64 0, .int .i64 0, .int .i64 0, .int .i64 0, .int .i64 0, .int .i64 0, .int .i64 0, .int .i64 0, .int .i64 0, .int .i64 0, .int .i64 0, .int .i64 0, .int .i64 0, .int .i64 0, .int .i64 0, .int .i64 0, .int .i64 0, .int .i64 0, .int .i64 0, .int .i64 0, .int .i64 0, .int .i64 0, .int .i64 0, .int .i64 0, .int .i64 0, .int .i64 0]) := by kernel_rfl
@[simp] theorem aggT_147 : aggT Tryz.prog 147 = some true := by kernel_rfl
@[simp] theorem info_147 : (Tryz.prog.info? 147).isSome = true := by kernel_rfl
attribute [simp] Tryz.underlying148
@[simp] theorem cells_148 : Tryz.prog.cellsOf 148 = 68 := by kernel_rfl
@[simp] theorem bytes_148 : Tryz.prog.bytesOf 148 = 576 := by kernel_rfl
@[simp] theorem zval_148 : zval Tryz.prog 148 = some (.agg [.int .i64 0, .nils, .nils, .int .i64 0, .int .i64 0, .int .i64 0, .int .i64 0, .int .i64 0, .int .i64 0, .int .i64 0, .int .i64 0, .int .i64 0, .int .i64 0, .int .i64 0, .int .i64 0, .int .i64 0, .int .i64 0, .int .i64 0, .int .i64 0, .int .i64 0, .int .i64 0, .int .i64 0, .int .i64 0, .int .i64 0, .int .i64 0, .int .i64 0, .int .i64 0, .int .i64 0, .int .i64 0, .int .i64 0, .int .i64 0, .int .i64 0, .int .i64 0, .int .i64 0, .int .i64 0, .int .i64 0, .int .i64 0, .int .i64 0, .int .i64 0, .int .i64 0, .int .i64 0, .int .i64 0, .int .i64 0, .int .i64 0, .int .i64 0, .int .i64 0, .int .i64 0, .int .i64 0, .int .i64 0, .int .i64 0, .int .i64 0, .int .i64 0, .int .i64 0, .int .i64 0, .int .i64 0, .int .i64 0, .int .i64 0, .int .i64 0, .int .i64 0, .int .i64 0, .int .i64 0, .int .i64 0, .int .i64 0, .int .i64 0, .int .i64 0, .int .i64 0, .int .i64 0, .int .i64 0]) := by kernel_rfl
@[simp] theorem aggT_148 : aggT Tryz.prog 148 = some true := by kernel_rfl
@[simp] theorem info_148 : (Tryz.prog.info? 148).isSome = true := by kernel_rfl
attribute [simp] Tryz.underlying149
@[simp] theorem cells_149 : Tryz.prog.cellsOf 149 = 68 := by kernel_rfl
@[simp] theorem bytes_149 : Tryz.prog.bytesOf 149 = 576 := by kernel_rfl
@[simp] theorem zval_149 : zval Tryz.prog 149 = some (.agg [.int .i64 0, .nils, .nils, .int .i64 0, .int .i64 0, .int .i64 0, .int .i64 0, .int .i64 0, .int .i64 0, .int .i64 0, .int .i64 0, .int .i64 0, .int .i64 0, .int .i64 0, .int .i64 0, .int .i64 0, .int .i64 0, .int .i64 0, .int .i64 0, .int .i64 0, .int .i64 0, .int .i64 0, .int .i64 0, .int .i64 0, .int .i64 0, .int .i64 0, .int .i64 0, .int .i64 0, .int .i64 0, .int .i64 0, .int .i64 0, .int .i64 0, .int .i64 0, .int .i64 0, .int .i64 0, .int .i64 0, .int .i64 0, .int .i64 0, .int .i64 0, .int .i64 0, .int .i64 0, .int .i64 0, .int .i64 0, .int .i64 0, .int .i64 0, .int .i64 0, .int .i64 0, .int .i64 0, .int .i64 0, .int .i64 0, .int .i64 0, .int .i64 0, .int .i64 0, .int .i64 0, .int .i64 0, .int .i64 0, .int .i64 0, .int .i64 0, .int .i64 0, .int .i64 0, .int .i64 0, .int .i64 0, .int .i64 0, .int .i64 0, .int .i64 0, .int .i64 0, .int .i64 0, .int .i64 0]) := by kernel_rfl
@[simp] theorem aggT_149 : aggT Tryz.prog 149 = some true := by kernel_rfl
@[simp] theorem info_149 : (Tryz.prog.info? 149).isSome = true := by kernel_rfl
attribute [simp] Tryz.underlying150
@[simp] theorem cells_150 : Tryz.prog.cellsOf 150 = 1 := by kernel_rfl
@[simp] theorem bytes_150 : Tryz.prog.bytesOf 150 = 8 := by kernel_rfl
@[simp] theorem zval_150 : zval Tryz.prog 150 = some (.nilf) := by kernel_rfl
@[simp] theorem aggT_150 : aggT Tryz.prog 150 = some false := by kernel_rfl
@[simp] theorem info_150 : (Tryz.prog.info? 150).isSome = true := by kernel_rfl
attribute [simp] Tryz.underlying151
@[simp] theorem cells_151 : Tryz.prog.cellsOf 151 = 1 := by kernel_rfl
@[simp] theorem bytes_151 : Tryz.prog.bytesOf 151 = 8 := by kernel_rfl
@[simp] theorem zval_151 : zval Tryz.prog 151 = some (.nilf) := by kernel_rfl
@[simp] theorem aggT_151 : aggT Tryz.prog 151 = some false := by kernel_rfl
@[simp] theorem info_151 : (Tryz.prog.info? 151).isSome = true := by kernel_rfl
attribute [simp] Tryz.underlying152
@[simp] theorem cells_152 : Tryz.prog.cellsOf 152 = 1 := by kernel_rfl
@[simp] theorem bytes_152 : Tryz.prog.bytesOf 152 = 8 := by kernel_rfl
@[simp] theorem zval_152 : zval Tryz.prog 152 = some (.nilf) := by kernel_rfl
@[simp] theorem aggT_152 : aggT Tryz.prog 152 = some false := by kernel_rfl
@[simp] theorem info_152 : (Tryz.prog.info? 152).isSome = true := by kernel_rfl
attribute [simp] Tryz.underlying153
@[simp] theorem cells_153 : Tryz.prog.cellsOf 153 = 1 := by kernel_rfl
@[simp] theorem bytes_153 : Tryz.prog.bytesOf 153 = 8 := by kernel_rfl
@[simp] theorem zval_153 : zval Tryz.prog 153 = some (.nilf) := by kernel_rfl
@[simp] theorem aggT_153 : aggT Tryz.prog 153 = some false := by kernel_rfl
@[simp] theorem info_153 : (Tryz.prog.info? 153).isSome = true := by kernel_rfl
attribute [simp] Tryz.underlying154
@[simp] theorem cells_154 : Tryz.prog.cellsOf 154 = 1 := by kernel_rfl
@[simp] theorem bytes_154 : Tryz.prog.bytesOf 154 = 8 := by kernel_rfl
@[simp] theorem zval_154 : zval Tryz.prog 154 = some (.nilf) := by kernel_rfl
@[simp] theorem aggT_154 : aggT Tryz.prog 154 = some false := by kernel_rfl
@[simp] theorem info_154 : (Tryz.prog.info? 154).isSome = true := by kernel_rfl
attribute [simp] Tryz.underlying155
@[simp] theorem cells_155 : Tryz.prog.cellsOf 155 = 1 := by kernel_rfl
@[simp] theorem bytes_155 : Tryz.prog.bytesOf 155 = 8 := by kernel_rfl
@[simp] theorem zval_155 : zval Tryz.prog 155 = some (.nilf) := by kernel_rfl
@[simp] theorem aggT_155 : aggT Tryz.prog 155 = some false := by kernel_rfl
@[simp] theorem info_155 : (Tryz.prog.info? 155).isSome = true := by kernel_rfl
attribute [simp] Tryz.underlying156
@[simp] theorem cells_156 : Tryz.prog.cellsOf 156 = 1 := by kernel_rfl
@[simp] theorem bytes_156 : Tryz.prog.bytesOf 156 = 8 := by kernel_rfl
@[simp] theorem zval_156 : zval Tryz.prog 156 = some (.nilf) := by kernel_rfl
@[simp] theorem aggT_156 : aggT Tryz.prog 156 = some false := by kernel_rfl
@[simp] theorem info_156 : (Tryz.prog.info? 156).isSome = true := by kernel_rfl
attribute [simp] Tryz.underlying157
@[simp] theorem cells_157 : Tryz.prog.cellsOf 157 = 1 := by kernel_rfl
@[simp] theorem bytes_157 : Tryz.prog.bytesOf 157 = 8 := by kernel_rfl
@[simp] theorem zval_157 : zval Tryz.prog 157 = some (.nilf) := by kernel_rfl
@[simp] theorem aggT_157 : aggT Tryz.prog 157 = some false := by kernel_rfl
@[simp] theorem info_157 : (Tryz.prog.info? 157).isSome = true := by kernel_rfl
attribute [simp] Tryz.underlying158
@[simp] theorem cells_158 : Tryz.prog.cellsOf 158 = 1 := by kernel_rfl
@[simp] theorem bytes_158 : Tryz.prog.bytesOf 158 = 8 := by kernel_rfl
@[simp] theorem zval_158 : zval Tryz.prog 158 = some (.nilf) := by kernel_rfl
@[simp] theorem aggT_158 : aggT Tryz.prog 158 = some false := by kernel_rfl
@[simp] theorem info_158 : (Tryz.prog.info? 158).isSome = true := by kernel_rfl
attribute [simp] Tryz.underlying159
@[simp] theorem cells_159 : Tryz.prog.cellsOf 159 = 1 := by kernel_rfl
@[simp] theorem bytes_159 : Tryz.prog.bytesOf 159 = 8 := by kernel_rfl
@[simp] theorem zval_159 : zval Tryz.prog 159 = some (.nilf) := by kernel_rfl
@[simp] theorem aggT_159 : aggT Tryz.prog 159 = some false := by kernel_rfl
@[simp] theorem info_159 : (Tryz.prog.info? 159).isSome = true := by kernel_rfl
attribute [simp] Tryz.underlying160
@[simp] theorem cells_160 : Tryz.prog.cellsOf 160 = 1 := by kernel_rfl
@[simp] theorem bytes_160 : Tryz.prog.bytesOf 160 = 8 := by kernel_rfl
@[simp] theorem zval_160 : zval Tryz.prog 160 = some (.nilf) := by kernel_rfl
@[simp] theorem aggT_160 : aggT Tryz.prog 160 = some false := by kernel_rfl
@[simp] theorem info_160 : (Tryz.prog.info? 160).isSome = true := by kernel_rfl
attribute [simp] Tryz.underlying161
@[simp] theorem cells_161 : Tryz.prog.cellsOf 161 = 1 := by kernel_rfl
@[simp] theorem bytes_161 : Tryz.prog.bytesOf 161 = 8 := by kernel_rfl
@[simp] theorem zval_161 : zval Tryz.prog 161 = some (.nilf) := by kernel_rfl
@[simp] theorem aggT_161 : aggT Tryz.prog 161 = some false := by kernel_rfl
@[simp] theorem info_161 : (Tryz.prog.info? 161).isSome = true := by kernel_rfl
attribute [simp] Tryz.underlying162
@[simp] theorem cells_162 : Tryz.prog.cellsOf 162 = 1 := by kernel_rfl
@[simp] theorem bytes_162 : Tryz.prog.bytesOf 162 = 8 := by kernel_rfl
@[simp] theorem zval_162 : zval Tryz.prog 162 = some (.nilf) := by kernel_rfl
@[simp] theorem aggT_162 : aggT Tryz.prog 162 = some false := by kernel_rfl
@[simp] theorem info_162 : (Tryz.prog.info? 162).isSome = true := by kernel_rfl
attribute [simp] Tryz.underlying163
@[simp] theorem cells_163 : Tryz.prog.cellsOf 163 = 1 := by kernel_rfl
@[simp] theorem bytes_163 : Tryz.prog.bytesOf 163 = 8 := by kernel_rfl
@[simp] theorem zval_163 : zval Tryz.prog 163 = some (.nilf) := by kernel_rfl
@[simp] theorem aggT_163 : aggT Tryz.prog 163 = some false := by kernel_rfl
@[simp] theorem info_163 : (Tryz.prog.info? 163).isSome = true := by kernel_rfl
attribute [simp] Tryz.underlying164
@[simp] theorem cells_164 : Tryz.prog.cellsOf 164 = 1 := by kernel_rfl
@[simp] theorem bytes_164 : Tryz.prog.bytesOf 164 = 8 := by kernel_rfl
@[simp] theorem zval_164 : zval Tryz.prog 164 = some (.nilf) := by kernel_rfl
@[simp] theorem aggT_164 : aggT Tryz.prog 164 = some false := by kernel_rfl
@[simp] theorem info_164 : (Tryz.prog.info? 164).isSome = true := by kernel_rfl
attribute [simp] Tryz.underlying165
@[simp] theorem cells_165 : Tryz.prog.cellsOf 165 = 1 := by kernel_rfl
@[simp] theorem bytes_165 : Tryz.prog.bytesOf 165 = 8 := by kernel_rfl
@[simp] theorem zval_165 : zval Tryz.prog 165 = some (.nilf) := by kernel_rfl
@[simp] theorem aggT_165 : aggT Tryz.prog 165 = some false := by kernel_rfl
@[simp] theorem info_165 : (Tryz.prog.info? 165).isSome = true := by kernel_rfl
attribute [simp] Tryz.underlying166
@[simp] theorem cells_166 : Tryz.prog.cellsOf 166 = 1 := by kernel_rfl
@[simp] theorem bytes_166 : Tryz.prog.bytesOf 166 = 8 := by kernel_rfl
@[simp] theorem zval_166 : zval Tryz.prog 166 = some (.nilf) := by kernel_rfl
@[simp] theorem aggT_166 : aggT Tryz.prog 166 = some false := by kernel_rfl
@[simp] theorem info_166 : (Tryz.prog.info? 166).isSome = true := by kernel_rfl
attribute [simp] Tryz.underlying167
@[simp] theorem cells_167 : Tryz.prog.cellsOf 167 = 1 := by kernel_rfl
@[simp] theorem bytes_167 : Tryz.prog.bytesOf 167 = 8 := by kernel_rfl
@[simp] theorem zval_167 : zval Tryz.prog 167 = some (.nilf) := by kernel_rfl
@[simp] theorem aggT_167 : aggT Tryz.prog 167 = some false := by kernel_rfl
@[simp] theorem info_167 : (Tryz.prog.info? 167).isSome = true := by kernel_rfl
attribute [simp] Tryz.underlying168
@[simp] theorem cells_168 : Tryz.prog.cellsOf 168 = 1 := by kernel_rfl
@[simp] theorem bytes_168 : Tryz.prog.bytesOf 168 = 8 := by kernel_rfl
@[simp] theorem zval_168 : zval Tryz.prog 168 = some (.nilf) := by kernel_rfl
@[simp] theorem aggT_168 : aggT Tryz.prog 168 = some false := by kernel_rfl
@[simp] theorem info_168 : (Tryz.prog.info? 168).isSome = true := by kernel_rfl
attribute [simp] Tryz.underlying169
@[simp] theorem cells_169 : Tryz.prog.cellsOf 169 = 1 := by kernel_rfl
@[simp] theorem bytes_169 : Tryz.prog.bytesOf 169 = 8 := by kernel_rfl
@[simp] theorem zval_169 : zval Tryz.prog 169 = some (.nilf) := by kernel_rfl
@[simp] theorem aggT_169 : aggT Tryz.prog 169 = some false := by kernel_rfl
@[simp] theorem info_169 : (Tryz.prog.info? 169).isSome = true := by kernel_rfl
attribute [simp] Tryz.underlying170
@[simp] theorem cells_170 : Tryz.prog.cellsOf 170 = 1 := by kernel_rfl
@[simp] theorem bytes_170 : Tryz.prog.bytesOf 170 = 8 := by kernel_rfl
@[simp] theorem zval_170 : zval Tryz.prog 170 = some (.int .u64 0) := by kernel_rfl
@[simp] theorem aggT_170 : aggT Tryz.prog 170 = some false := by kernel_rfl
@[simp] theorem info_170 : (Tryz.prog.info? 170).isSome = true := by kernel_rfl
attribute [simp] Tryz.underlying171
@[simp] theorem cells_171 : Tryz.prog.cellsOf 171 = 1 := by kernel_rfl
@[simp] theorem bytes_171 : Tryz.prog.bytesOf 171 = 8 := by kernel_rfl
@[simp] theorem zval_171 : zval Tryz.prog 171 = some (.nilf) := by kernel_rfl
@[simp] theorem aggT_171 : aggT Tryz.prog 171 = some false := by kernel_rfl
@[simp] theorem info_171 : (Tryz.prog.info? 171).isSome = true := by kernel_rfl
attribute [simp] Tryz.underlying173
@[simp] theorem cells_173 : Tryz.prog.cellsOf 173 = 1 := by kernel_rfl
@[simp] theorem bytes_173 : Tryz.prog.bytesOf 173 = 8 := by kernel_rfl
@[simp] theorem zval_173 : zval Tryz.prog 173 = some (.nilf) := by kernel_rfl
@[simp] theorem aggT_173 : aggT Tryz.prog 173 = some false := by kernel_rfl
@[simp] theorem info_173 : (Tryz.prog.info? 173).isSome = true := by kernel_rfl
attribute [simp] Tryz.underlying174
@[simp] theorem cells_174 : Tryz.prog.cellsOf 174 = 1 := by kernel_rfl
@[simp] theorem bytes_174 : Tryz.prog.bytesOf 174 = 8 := by kernel_rfl
@[simp] theorem zval_174 : zval Tryz.prog 174 = some (.nilf) := by kernel_rfl
@[simp] theorem aggT_174 : aggT Tryz.prog 174 = some false := by kernel_rfl
@[simp] theorem info_174 : (Tryz.prog.info? 174).isSome = true := by kernel_rfl
attribute [simp] Tryz.underlying175
@[simp] theorem cells_175 : Tryz.prog.cellsOf 175 = 1 := by kernel_rfl
@[simp] theorem bytes_175 : Tryz.prog.bytesOf 175 = 8 := by kernel_rfl
@[simp] theorem zval_175 : zval Tryz.prog 175 = some (.nilf) := by kernel_rfl
@[simp] theorem aggT_175 : aggT Tryz.prog 175 = some false := by kernel_rfl
@[simp] theorem info_175 : (Tryz.prog.info? 175).isSome = true := by kernel_rfl
attribute [simp] Tryz.underlying176
@[simp] theorem cells_176 : Tryz.prog.cellsOf 176 = 3 := by kernel_rfl
@[simp] theorem bytes_176 : Tryz.prog.bytesOf 176 = 24 := by kernel_rfl
@[simp] theorem zval_176 : zval Tryz.prog 176 = some (.agg [.int .i64 0, .int .i64 0, .int .i64 0]) := by kernel_rfl
@[simp] theorem aggT_176 : aggT Tryz.prog 176 = some true := by kernel_rfl
@[simp] theorem info_176 : (Tryz.prog.info? 176).isSome = true := by kernel_rfl
attribute [simp] Tryz.underlying177
@[simp] theorem cells_177 : Tryz.prog.cellsOf 177 = 3 := by kernel_rfl
@[simp] theorem bytes_177 : Tryz.prog.bytesOf 177 = 24 := by kernel_rfl
@[simp] theorem zval_177 : zval Tryz.prog 177 = some (.agg [.int .i64 0, .int .i64 0, .int .i64 0]) := by kernel_rfl
@[simp] theorem aggT_177 : aggT Tryz.prog 177 = some true := by kernel_rfl
@[simp] theorem info_177 : (Tryz.prog.info? 177).isSome = true := by kernel_rfl
attribute [simp] Tryz.underlying178
@[simp] theorem cells_178 : Tryz.prog.cellsOf 178 = 1 := by kernel_rfl
@[simp] theorem bytes_178 : Tryz.prog.bytesOf 178 = 8 := by kernel_rfl
@[simp] theorem zval_178 : zval Tryz.prog 178 = some (.nilf) := by kernel_rfl
@[simp] theorem aggT_178 : aggT Tryz.prog 178 = some false := by kernel_rfl
@[simp] theorem info_178 : (Tryz.prog.info? 178).isSome = true := by kernel_rfl
attribute [simp] Tryz.underlying179
@[simp] theorem cells_179 : Tryz.prog.cellsOf 179 = 1 := by kernel_rfl
@[simp] theorem bytes_179 : Tryz.prog.bytesOf 179 = 8 := by kernel_rfl
@[simp] theorem zval_179 : zval Tryz.prog 179 = some (.nilf) := by kernel_rfl
@[simp] theorem aggT_179 : aggT Tryz.prog 179 = some false := by kernel_rfl
@[simp] theorem info_179 : (Tryz.prog.info? 179).isSome = true := by kernel_rfl
attribute [simp] Tryz.underlying180
@[simp] theorem cells_180 : Tryz.prog.cellsOf 180 = 1 := by kernel_rfl
@[simp] theorem bytes_180 : Tryz.prog.bytesOf 180 = 8 := by kernel_rfl
@[simp] theorem zval_180 : zval Tryz.prog 180 = some (.nilf) := by kernel_rfl
@[simp] theorem aggT_180 : aggT Tryz.prog 180 = some false := by kernel_rfl
@[simp] theorem info_180 : (Tryz.prog.info? 180).isSome = true := by kernel_rfl
attribute [simp] Tryz.underlying181
@[simp] theorem cells_181 : Tryz.prog.cellsOf 181 = 1 := by kernel_rfl
@[simp] theorem bytes_181 : Tryz.prog.bytesOf 181 = 8 := by kernel_rfl
@[simp] theorem zval_181 : zval Tryz.prog 181 = some (.nilf) := by kernel_rfl
@[simp] theorem aggT_181 : aggT Tryz.prog 181 = some false := by kernel_rfl
@[simp] theorem info_181 : (Tryz.prog.info? 181).isSome = true := by kernel_rfl
attribute [simp] Tryz.underlying182
@[simp] theorem cells_182 : Tryz.prog.cellsOf 182 = 1 := by kernel_rfl
@[simp] theorem bytes_182 : Tryz.prog.bytesOf 182 = 8 := by kernel_rfl
@[simp] theorem zval_182 : zval Tryz.prog 182 = some (.nilf) := by kernel_rfl
@[simp] theorem aggT_182 : aggT Tryz.prog 182 = some false := by kernel_rfl
@[simp] theorem info_182 : (Tryz.prog.info? 182).isSome = true := by kernel_rfl
attribute [simp] Tryz.underlying183
@[simp] theorem cells_183 : Tryz.prog.cellsOf 183 = 1 := by kernel_rfl
@[simp] theorem bytes_183 : Tryz.prog.bytesOf 183 = 8 := by kernel_rfl
@[simp] theorem zval_183 : zval Tryz.prog 183 = some (.nilf) := by kernel_rfl
@[simp] theorem aggT_183 : aggT Tryz.prog 183 = some false := by kernel_rfl
@[simp] theorem info_183 : (Tryz.prog.info? 183).isSome = true := by kernel_rfl
attribute [simp] Tryz.underlying184
@[simp] theorem cells_184 : Tryz.prog.cellsOf 184 = 1 := by kernel_rfl
@[simp] theorem bytes_184 : Tryz.prog.bytesOf 184 = 8 := by kernel_rfl
@[simp] theorem zval_184 : zval Tryz.prog 184 = some (.nilf) := by kernel_rfl
@[simp] theorem aggT_184 : aggT Tryz.prog 184 = some false := by kernel_rfl
@[simp] theorem info_184 : (Tryz.prog.info? 184).isSome = true := by kernel_rfl
attribute [simp] Tryz.underlying185
@[simp] theorem cells_185 : Tryz.prog.cellsOf 185 = 4 := by kernel_rfl
@[simp] theorem bytes_185 : Tryz.prog.bytesOf 185 = 48 := by kernel_rfl
@[simp] theorem zval_185 : zval Tryz.prog 185 = some (.agg [.int .i64 0, .int .i64 0, .int .i64 0, .nils]) := by kernel_rfl
@[simp] theorem aggT_185 : aggT Tryz.prog 185 = some true := by kernel_rfl
@[simp] theorem info_185 : (Tryz.prog.info? 185).isSome = true := by kernel_rfl
attribute [simp] Tryz.underlying186
@[simp] theorem cells_186 : Tryz.prog.cellsOf 186 = 4 := by kernel_rfl
@[simp] theorem bytes_186 : Tryz.prog.bytesOf 186 = 48 := by kernel_rfl
@[simp] theorem zval_186 : zval Tryz.prog 186 = some (.agg [.int .i64 0, .int .i64 0, .int .i64 0, .nils]) := by kernel_rfl
@[simp] theorem aggT_186 : aggT Tryz.prog 186 = some true := by kernel_rfl
@[simp] theorem info_186 : (Tryz.prog.info? 186).isSome = true := by kernel_rfl
attribute [simp] Tryz.underlying187
@[simp] theorem cells_187 : Tryz.prog.cellsOf 187 = 1 := by kernel_rfl
@[simp] theorem bytes_187 : Tryz.prog.bytesOf 187 = 24 := by kernel_rfl
@[simp] theorem zval_187 : zval Tryz.prog 187 = some (.nils) := by kernel_rfl
@[simp] theorem aggT_187 : aggT Tryz.prog 187 = some false := by kernel_rfl
@[simp] theorem info_187 : (Tryz.prog.info? 187).isSome = true := by kernel_rfl
attribute [simp] Tryz.underlying189
@[simp] theorem cells_189 : Tryz.prog.cellsOf 189 = 1 := by kernel_rfl
@[simp] theorem bytes_189 : Tryz.prog.bytesOf 189 = 8 := by kernel_rfl
@[simp] theorem zval_189 : zval Tryz.prog 189 = some (.nilf) := by kernel_rfl
@[simp] theorem aggT_189 : aggT Tryz.prog 189 = some false := by kernel_rfl
@[simp] theorem info_189 : (Tryz.prog.info? 189).isSome = true := by kernel_rfl
attribute [simp] Tryz.underlying190
@[simp] theorem cells_190 : Tryz.prog.cellsOf 190 = 1 := by kernel_rfl
@[simp] theorem bytes_190 : Tryz.prog.bytesOf 190 = 8 := by kernel_rfl
@[simp] theorem zval_190 : zval Tryz.prog 190 = some (.nilf) := by kernel_rfl
@[simp] theorem aggT_190 : aggT Tryz.prog 190 = some false := by kernel_rfl
@[simp] theorem info_190 : (Tryz.prog.info? 190).isSome = true := by kernel_rfl
attribute [simp] Tryz.underlying191
@[simp] theorem cells_191 : Tryz.prog.cellsOf 191 = 1 := by kernel_rfl
@[simp] theorem bytes_191 : Tryz.prog.bytesOf 191 = 8 := by kernel_rfl
@[simp] theorem zval_191 : zval Tryz.prog 191 = some (.nilf) := by kernel_rfl
@[simp] theorem aggT_191 : aggT Tryz.prog 191 = some false := by kernel_rfl
@[simp] theorem info_191 : (Tryz.prog.info? 191).isSome = true := by kernel_rfl
attribute [simp] Tryz.underlying193
@[simp] theorem cells_193 : Tryz.prog.cellsOf 193 = 1 := by kernel_rfl
@[simp] theorem bytes_193 : Tryz.prog.bytesOf 193 = 8 := by kernel_rfl
@[simp] theorem zval_193 : zval Tryz.prog 193 = some (.nilf) := by kernel_rfl
@[simp] theorem aggT_193 : aggT Tryz.prog 193 = some false := by kernel_rfl
@[simp] theorem info_193 : (Tryz.prog.info? 193).isSome = true := by kernel_rfl
attribute [simp] Tryz.underlying194
@[simp] theorem cells_194 : Tryz.prog.cellsOf 194 = 1 := by kernel_rfl
@[simp] theorem bytes_194 : Tryz.prog.bytesOf 194 = 16 := by kernel_rfl
@[simp] theorem zval_194 : zval Tryz.prog 194 = some (.nilif) := by kernel_rfl
@[simp] theorem aggT_194 : aggT Tryz.prog 194 = some false := by kernel_rfl
@[simp] theorem info_194 : (Tryz.prog.info? 194).isSome = true := by kernel_rfl
attribute [simp] Tryz.underlying195
@[simp] theorem cells_195 : Tryz.prog.cellsOf 195 = 1 := by kernel_rfl
@[simp] theorem bytes_195 : Tryz.prog.bytesOf 195 = 16 := by kernel_rfl
@[simp] theorem zval_195 : zval Tryz.prog 195 = some (.nilif) := by kernel_rfl
@[simp] theorem aggT_195 : aggT Tryz.prog 195 = some false := by kernel_rfl
@[simp] theorem info_195 : (Tryz.prog.info? 195).isSome = true := by kernel_rfl
attribute [simp] Tryz.underlying196
@[simp] theorem cells_196 : Tryz.prog.cellsOf 196 = 1 := by kernel_rfl
@[simp] theorem bytes_196 : Tryz.prog.bytesOf 196 = 8 := by kernel_rfl
@[simp] theorem zval_196 : zval Tryz.prog 196 = some (.nilf) := by kernel_rfl
@[simp] theorem aggT_196 : aggT Tryz.prog 196 = some false := by kernel_rfl
@[simp] theorem info_196 : (Tryz.prog.info? 196).isSome = true := by kernel_rfl
attribute [simp] Tryz.underlying197
@[simp] theorem cells_197 : Tryz.prog.cellsOf 197 = 6 := by kernel_rfl
@[simp] theorem bytes_197 : Tryz.prog.bytesOf 197 = 80 := by kernel_rfl
@[simp] theorem zval_197 : zval Tryz.prog 197 = some (.agg [.int .i64 0, .int .i64 0, .nils, .int .i64 0, .int .i64 0, .nils]) := by kernel_rfl
@[simp] theorem aggT_197 : aggT Tryz.prog 197 = some true := by kernel_rfl
@[simp] theorem info_197 : (Tryz.prog.info? 197).isSome = true := by kernel_rfl
attribute [simp] Tryz.underlying198
@[simp] theorem cells_198 : Tryz.prog.cellsOf 198 = 6 := by kernel_rfl
@[simp] theorem bytes_198 : Tryz.prog.bytesOf 198 = 80 := by kernel_rfl
@[simp] theorem zval_198 : zval Tryz.prog 198 = some (.agg [.int .i64 0, .int .i64 0, .nils, .int .i64 0, .int .i64 0, .nils]) := by kernel_rfl
@[simp] theorem aggT_198 : aggT Tryz.prog 198 = some true := by kernel_rfl
@[simp] theorem info_198 : (Tryz.prog.info? 198).isSome = true := by kernel_rfl
attribute [simp] Tryz.underlying199
@[simp] theorem cells_199 : Tryz.prog.cellsOf 199 = 6 := by kernel_rfl
@[simp] theorem bytes_199 : Tryz.prog.bytesOf 199 = 80 := by kernel_rfl
@[simp] theorem zval_199 : zval Tryz.prog 199 = some (.agg [.int .i64 0, .int .i64 0, .nils, .int .i64 0, .int .i64 0, .nils]) := by kernel_rfl
@[simp] theorem aggT_199 : aggT Tryz.prog 199 = some true := by kernel_rfl
@[simp] theorem info_199 : (Tryz.prog.info? 199).isSome = true := by kernel_rfl
attribute [simp] Tryz.underlying200
@[simp] theorem cells_200 : Tryz.prog.cellsOf 200 = 4 := by kernel_rfl
@[simp] theorem bytes_200 : Tryz.prog.bytesOf 200 = 48 := by kernel_rfl
@[simp] theorem zval_200 : zval Tryz.prog 200 = some (.agg [.int .i64 0, .int .i64 0, .int .i64 0, .nils]) := by kernel_rfl
@[simp] theorem aggT_200 : aggT Tryz.prog 200 = some true := by kernel_rfl
@[simp] theorem info_200 : (Tryz.prog.info? 200).isSome = true := by kernel_rfl
attribute [simp] Tryz.underlying201
@[simp] theorem cells_201 : Tryz.prog.cellsOf 201 = 4 := by kernel_rfl
@[simp] theorem bytes_201 : Tryz.prog.bytesOf 201 = 48 := by kernel_rfl
@[simp] theorem zval_201 : zval Tryz.prog 201 = some (.agg [.int .i64 0, .int .i64 0, .int .i64 0, .nils]) := by kernel_rfl
@[simp] theorem aggT_201 : aggT Tryz.prog 201 = some true := by kernel_rfl
@[simp] theorem info_201 : (Tryz.prog.info? 201).isSome = true := by kernel_rfl
attribute [simp] Tryz.underlying202
@[simp] theorem cells_202 : Tryz.prog.cellsOf 202 = 1 := by kernel_rfl
@[simp] theorem bytes_202 : Tryz.prog.bytesOf 202 = 8 := by kernel_rfl
@[simp] theorem zval_202 : zval Tryz.prog 202 = some (.nilf) := by kernel_rfl
@[simp] theorem aggT_202 : aggT Tryz.prog 202 = some false := by kernel_rfl
@[simp] theorem info_202 : (Tryz.prog.info? 202).isSome = true := by kernel_rfl
attribute [simp] Tryz.underlying203
@[simp] theorem cells_203 : Tryz.prog.cellsOf 203 = 1 := by kernel_rfl
@[simp] theorem bytes_203 : Tryz.prog.bytesOf 203 = 8 := by kernel_rfl
@[simp] theorem zval_203 : zval Tryz.prog 203 = some (.nilp) := by kernel_rfl
@[simp] theorem aggT_203 : aggT Tryz.prog 203 = some false := by kernel_rfl
@[simp] theorem info_203 : (Tryz.prog.info? 203).isSome = true := by kernel_rfl
attribute [simp] Tryz.underlying204
@[simp] theorem cells_204 : Tryz.prog.cellsOf 204 = 192 := by kernel_rfl
@[simp] theorem bytes_204 : Tryz.prog.bytesOf 204 = 2560 := by kernel_rfl
@[simp] theorem zval_204 : zval Tryz.prog 204 = some (.agg [.int .i64 0, .int .i64 0, .nils, .int .i64 0, .int .i64 0, .nils, .int .i64 0, .int .i64 0, .nils, .int .i64 0, .int .i64 0, .nils, .int .i64 0, .int .i64 0, .nils, .int .i64 0, .int .i64 0, .nils, .int .i64 0, .int .i64 0, .nils, .int .i64 0, .int .i64 0, .nils, .int .i64 0, .int .i64 0, .nils, .int .i64 0, .int .i64 0, .nils, .int .i64 0, .int .i64 0, .nils, .int .i64 0, .int .i64 0, .nils, .int .i64 0, .int .i64 0, .nils, .int .i64 0, .int .i64 0, .nils, .int .i64 0, .int .i64 0, .nils, .int .i64 0, .int .i64 0, .nils, .int .i64 0, .int .i64 0, .nils, .int .i64 0, .int .i64 0, .nils, .int .i64 0, .int .i64 0, .nils, .int .i64 0, .int .i64 0, .nils, .int .i64 0, .int .i64 0, .nils, .int .i64 0, .int .i64 0, .nils, .int .i64 0, .int .i64 0, .nils, .int .i64 0, .int .i64 0, .nils, .int .i64 0, .int .i64 0, .nils, .int .i64 0, .int .i64 0, .nils, .int .i64 0, .int .i64 0, .nils, .int .i64 0, .int .i64 0, .nils, .int .i64 0, .int .i64 0, .nils, .int .i64 0, .int .i64 0, .nils, .int .i64 0, .int .i64 0, .nils, .int .i64 0, .int .i64 0, .nils, .int .i64 0, .int .i64 0, .nils, .int .i64 0, .int .i64 0, .nils, .int .i64 0, .int .i64 0, .nils, .int .i64 0, .int .i64 0, .nils, .int .i64 0, .int .i64 0, .nils, .int .i64 0, .int .i64 0, .nils, .int .i64 0, .int .i64 0, .nils, .int .i64 0, .int .i64 0, .nils, .int .i64 0, .int .i64 0, .nils, .int .i64 0, .int .i64 0, .nils, .int .i64 0, .int .i64 0, .nils, .int .i64 0, .int .i64 0, .nils, .int .i64 0, .int .i64 0, .nils, .int .i64 0, .int .i64 0, .nils, .int .i64 0, .int .i64 0, .nils, .int .i64 0, .int .i64 0, .nils, .int .i64 0, .int .i64 0, .nils, .int .i64 0, .int .i64 0, .nils, .int .i64 0, .int .i64 0, .nils, .int .i64 0, .int .i64 0, .nils, .int .i64 0, .int .i64 0, .nils, .int .i64 0, .int .i64 0, .nils, .int .i64 0, .int .i64 0, .nils, .int .i64 0, .int .i64 0, .nils, .int .i64 0, .int .i64 0, .nils, .int .i64 0, .int .i64 0, .nils, .int .i64 0, .int .i64 0, .nils, .int .i64 0, .int .i64 0, .nils, .int .i64 0, .int .i64 0, .nils, .int .i64 0, .int .i64 0, .nils, .int .i64 0, .int .i64 0, .nils, .int .i64 0, .int .i64 0, .nils]) := by kernel_rfl
@[simp] theorem aggT_204 : aggT Tryz.prog 204 = some true := by kernel_rfl
@[simp] theorem info_204 : (Tryz.prog.info? 204).isSome = true := by kernel_rfl
attribute [simp] Tryz.underlying205
@[simp] theorem cells_205 : Tryz.prog.cellsOf 205 = 193 := by kernel_rfl
@[simp] theorem bytes_205 : Tryz.prog.bytesOf 205 = 2568 := by kernel_rfl
@[simp] theorem zval_205 : zval Tryz.prog 205 = some (.agg [.int .u64 0, .int .i64 0, .int .i64 0, .nils, .int .i64 0, .int .i64 0, .nils, .int .i64 0, .int .i64 0, .nils, .int .i64 0, .int .i64 0, .nils, .int .i64 0, .int .i64 0, .nils, .int .i64 0, .int .i64 0, .nils, .int .i64 0, .int .i64 0, .nils, .int .i64 0, .int .i64 0, .nils, .int .i64 0, .int .i64 0, .nils, .int .i64 0, .int .i64 0, .nils, .int .i64 0, .int .i64 0, .nils, .int .i64 0, .int .i64 0, .nils, .int .i64 0, .int .i64 0, .nils, .int .i64 0, .int .i64 0, .nils, .int .i64 0, .int .i64 0, .nils, .int .i64 0, .int .i64 0, .nils, .int .i64 0, .int .i64 0, .nils, .int .i64 0, .int .i64 0, .nils, .int .i64 0, .int .i64 0, .nils, .int .i64 0, .int .i64 0, .nils, .int .i64 0, .int .i64 0, .nils, .int .i64 0, .int .i64 0, .nils, .int .i64 0, .int .i64 0, .nils, .int .i64 0, .int .i64 0, .nils, .int .i64 0, .int .i64 0, .nils, .int .i64 0, .int .i64 0, .nils, .int .i64 0, .int .i64 0, .nils, .int .i64 0, .int .i64 0, .nils, .int .i64 0, .int .i64 0, .nils, .int .i64 0, .int .i64 0, .nils, .int .i64 0, .int .i64 0, .nils, .int .i64 0, .int .i64 0, .nils, .int .i64 0, .int .i64 0, .nils, .int .i64 0, .int .i64 0, .nils, .int .i64 0, .int .i64 0, .nils, .int .i64 0, .int .i64 0, .nils, .int .i64 0, .int .i64 0, .nils, .int .i64 0, .int .i64 0, .nils, .int .i64 0, .int .i64 0, .nils, .int .i64 0, .int .i64 0, .nils, .int .i64 0, .int .i64 0, .nils, .int .i64 0, .int .i64 0, .nils, .int .i64 0, .int .i64 0, .nils, .int .i64 0, .int .i64 0, .nils, .int .i64 0, .int .i64 0, .nils, .int .i64 0, .int .i64 0, .nils, .int .i64 0, .int .i64 0, .nils, .int .i64 0, .int .i64 0, .nils, .int .i64 0, .int .i64 0, .nils, .int .i64 0, .int .i64 0, .nils, .int .i64 0, .int .i64 0, .nils, .int .i64 0, .int .i64 0, .nils, .int .i64 0, .int .i64 0, .nils, .int .i64 0, .int .i64 0, .nils, .int .i64 0, .int .i64 0, .nils, .int .i64 0, .int .i64 0, .nils, .int .i64 0, .int .i64 0, .nils, .int .i64 0, .int .i64 0, .nils, .int .i64 0, .int .i64 0, .nils, .int .i64 0, .int .i64 0, .nils, .int .i64 0, .int .i64 0, .nils, .int .i64 0, .int .i64 0, .nils, .int .i64 0, .int .i64 0, .nils, .int .i64 0, .int .i64 0, .nils]) := by kernel_rfl
@[simp] theorem aggT_205 : aggT Tryz.prog 205 = some true := by kernel_rfl
@[simp] theorem info_205 : (Tryz.prog.info? 205).isSome = true := by kernel_rfl
attribute [simp] Tryz.underlying206
@[simp] theorem cells_206 : Tryz.prog.cellsOf 206 = 193 := by kernel_rfl
@[simp] theorem bytes_206 : Tryz.prog.bytesOf 206 = 2568 := by kernel_rfl
@[simp] theorem zval_206 : zval Tryz.prog 206 = some (.agg [.int .u64 0, .int .i64 0, .int .i64 0, .nils, .int .i64 0, .int .i64 0, .nils, .int .i64 0, .int .i64 0, .nils, .int .i64 0, .int .i64 0, .nils, .int .i64 0, .int .i64 0, .nils, .int .i64 0, .int .i64 0, .nils, .int .i64 0, .int .i64 0, .nils, .int .i64 0, .int .i64 0, .nils, .int .i64 0, .int .i64 0, .nils, .int .i64 0, .int .i64 0, .nils, .int .i64 0, .int .i64 0, .nils, .int .i64 0, .int .i64 0, .nils, .int .i64 0, .int .i64 0, .nils, .int .i64 0, .int .i64 0, .nils, .int .i64 0, .int .i64 0, .nils, .int .i64 0, .int .i64 0, .nils, .int .i64 0, .int .i64 0, .nils, .int .i64 0, .int .i64 0, .nils, .int .i64 0, .int .i64 0, .nils, .int .i64 0, .int .i64 0, .nils, .int .i64 0, .int .i64 0, .nils, .int .i64 0, .int .i64 0, .nils, .int .i64 0, .int .i64 0, .nils, .int .i64 0, .int .i64 0, .nils, .int .i64 0, .int .i64 0, .nils, .int .i64 0, .int .i64 0, .nils, .int .i64 0, .int .i64 0, .nils, .int .i64 0, .int .i64 0, .nils, .int .i64 0, .int .i64 0, .nils, .int .i64 0, .int .i64 0, .nils, .int .i64 0, .int .i64 0, .nils, .int .i64 0, .int .i64 0, .nils, .int .i64 0, .int .i64 0, .nils, .int .i64 0, .int .i64 0, .nils, .int .i64 0, .int .i64 0, .nils, .int .i64 0, .int .i64 0, .nils, .int .i64 0, .int .i64 0, .nils, .int .i64 0, .int .i64 0, .nils, .int .i64 0, .int .i64 0, .nils, .int .i64 0, .int .i64 0, .nils, .int .i64 0, .int .i64 0, .nils, .int .i64 0, .int .i64 0, .nils, .int .i64 0, .int .i64 0, .nils, .int .i64 0, .int .i64 0, .nils, .int .i64 0, .int .i64 0, .nils, .int .i64 0, .int .i64 0, .nils, .int .i64 0, .int .i64 0, .nils, .int .i64 0, .int .i64 0, .nils, .int .i64 0, .int .i64 0, .nils, .int .i64 0, .int .i64 0, .nils, .int .i64 0, .int .i64 0, .nils, .int .i64 0, .int .i64 0, .nils, .int .i64 0, .int .i64 0, .nils, .int .i64 0, .int .i64 0, .nils, .int .i64 0, .int .i64 0, .nils, .int .i64 0, .int .i64 0, .nils, .int .i64 0, .int .i64 0, .nils, .int .i64 0, .int .i64 0, .nils, .int .i64 0, .int .i64 0, .nils, .int .i64 0, .int .i64 0, .nils, .int .i64 0, .int .i64 0, .nils, .int .i64 0, .int .i64 0, .nils, .int .i64 0, .int .i64 0, .nils, .int .i64 0, .int .i64 0, .nils]) := by kernel_rfl
@[simp] theorem aggT_206 : aggT Tryz.prog 206 = some true := by kernel_rfl
@[simp] theorem info_206 : (Tryz.prog.info? 206).isSome = true := by kernel_rfl
attribute [simp] Tryz.underlying207
@[simp] theorem cells_207 : Tryz.prog.cellsOf 207 = 1 := by kernel_rfl
@[simp] theorem bytes_207 : Tryz.prog.bytesOf 207 = 8 := by kernel_rfl
@[simp] theorem zval_207 : zval Tryz.prog 207 = some (.nilf) := by kernel_rfl
@[simp] theorem aggT_207 : aggT Tryz.prog 207 = some false := by kernel_rfl
@[simp] theorem info_207 : (Tryz.prog.info? 207).isSome = true := by kernel_rfl
attribute [simp] Tryz.underlying208
@[simp] theorem cells_208 : Tryz.prog.cellsOf 208 = 1 := by kernel_rfl
@[simp] theorem bytes_208 : Tryz.prog.bytesOf 208 = 8 := by kernel_rfl
@[simp] theorem zval_208 : zval Tryz.prog 208 = some (.nilf) := by kernel_rfl
@[simp] theorem aggT_208 : aggT Tryz.prog 208 = some false := by kernel_rfl
@[simp] theorem info_208 : (Tryz.prog.info? 208).isSome = true := by kernel_rfl
attribute [simp] Tryz.underlying209
@[simp] theorem cells_209 : Tryz.prog.cellsOf 209 = 1 := by kernel_rfl
@[simp] theorem bytes_209 : Tryz.prog.bytesOf 209 = 8 := by kernel_rfl
@[simp] theorem zval_209 : zval Tryz.prog 209 = some (.nilf) := by kernel_rfl
@[simp] theorem aggT_209 : aggT Tryz.prog 209 = some false := by kernel_rfl
@[simp] theorem info_209 : (Tryz.prog.info? 209).isSome = true := by kernel_rfl
attribute [simp] Tryz.underlying210
@[simp] theorem cells_210 : Tryz.prog.cellsOf 210 = 1 := by kernel_rfl
@[simp] theorem bytes_210 : Tryz.prog.bytesOf 210 = 8 := by kernel_rfl
@[simp] theorem zval_210 : zval Tryz.prog 210 = some (.nilf) := by kernel_rfl
@[simp] theorem aggT_210 : aggT Tryz.prog 210 = some false := by kernel_rfl
@[simp] theorem info_210 : (Tryz.prog.info? 210).isSome = true := by kernel_rfl
attribute [simp] Tryz.underlying211
@[simp] theorem cells_211 : Tryz.prog.cellsOf 211 = 1 := by kernel_rfl
@[simp] theorem bytes_211 : Tryz.prog.bytesOf 211 = 8 := by kernel_rfl
@[simp] theorem zval_211 : zval Tryz.prog 211 = some (.nilf) := by kernel_rfl
@[simp] theorem aggT_211 : aggT Tryz.prog 211 = some false := by kernel_rfl
@[simp] theorem info_211 : (Tryz.prog.info? 211).isSome = true := by kernel_rfl
attribute [simp] Tryz.underlying212
@[simp] theorem cells_212 : Tryz.prog.cellsOf 212 = 1 := by kernel_rfl
@[simp] theorem bytes_212 : Tryz.prog.bytesOf 212 = 8 := by kernel_rfl
@[simp] theorem zval_212 : zval Tryz.prog 212 = some (.nilf) := by kernel_rfl
@[simp] theorem aggT_212 : aggT Tryz.prog 212 = some false := by kernel_rfl
@[simp] theorem info_212 : (Tryz.prog.info? 212).isSome = true := by kernel_rfl
attribute [simp] Tryz.underlying213
@[simp] theorem cells_213 : Tryz.prog.cellsOf 213 = 1 := by kernel_rfl
@[simp] theorem bytes_213 : Tryz.prog.bytesOf 213 = 8 := by kernel_rfl
@[simp] theorem zval_213 : zval Tryz.prog 213 = some (.nilf) := by kernel_rfl
@[simp] theorem aggT_213 : aggT Tryz.prog 213 = some false := by kernel_rfl
@[simp] theorem info_213 : (Tryz.prog.info? 213).isSome = true := by kernel_rfl
attribute [simp] Tryz.underlying214
@[simp] theorem cells_214 : Tryz.prog.cellsOf 214 = 4 := by kernel_rfl
@[simp] theorem bytes_214 : Tryz.prog.bytesOf 214 = 40 := by kernel_rfl
@[simp] theorem zval_214 : zval Tryz.prog 214 = some (.agg [.nilp, .nilp, .nilp, .str ⟨#[]⟩]) := by kernel_rfl
@[simp] theorem aggT_214 : aggT Tryz.prog 214 = some true := by kernel_rfl
@[simp] theorem info_214 : (Tryz.prog.info? 214).isSome = true := by kernel_rfl
attribute [simp] Tryz.underlying215
@[simp] theorem cells_215 : Tryz.prog.cellsOf 215 = 4 := by kernel_rfl
@[simp] theorem bytes_215 : Tryz.prog.bytesOf 215 = 40 := by kernel_rfl
@[simp] theorem zval_215 : zval Tryz.prog 215 = some (.agg [.nilp, .nilp, .nilp, .str ⟨#[]⟩]) := by kernel_rfl
@[simp] theorem aggT_215 : aggT Tryz.prog 215 = some true := by kernel_rfl
@[simp] theorem info_215 : (Tryz.prog.info? 215).isSome = true := by kernel_rfl
attribute [simp] Tryz.underlying216
@[simp] theorem cells_216 : Tryz.prog.cellsOf 216 = 0 := by kernel_rfl
@[simp] theorem bytes_216 : Tryz.prog.bytesOf 216 = 0 := by kernel_rfl
@[simp] theorem zval_216 : zval Tryz.prog 216 = some (.agg []) := by kernel_rfl
@[simp] theorem aggT_216 : aggT Tryz.prog 216 = some true := by kernel_rfl
@[simp] theorem info_216 : (Tryz.prog.info? 216).isSome = true := by kernel_rfl
attribute [simp] Tryz.underlying217
@[simp] theorem cells_217 : Tryz.prog.cellsOf 217 = 0 := by kernel_rfl
@[simp] theorem bytes_217 : Tryz.prog.bytesOf 217 = 0 := by kernel_rfl
@[simp] theorem zval_217 : zval Tryz.prog 217 = some (.agg []) := by kernel_rfl
@[simp] theorem aggT_217 : aggT Tryz.prog 217 = some true := by kernel_rfl
@[simp] theorem info_217 : (Tryz.prog.info? 217).isSome = true := by kernel_rfl
attribute [simp] Tryz.underlying218
@[simp] theorem cells_218 : Tryz.prog.cellsOf 218 = 0 := by kernel_rfl
@[simp] theorem bytes_218 : Tryz.prog.bytesOf 218 = 0 := by kernel_rfl
@[simp] theorem zval_218 : zval Tryz.prog 218 = some (.agg []) := by kernel_rfl
@[simp] theorem aggT_218 : aggT Tryz.prog 218 = some true := by kernel_rfl
@[simp] theorem info_218 : (Tryz.prog.info? 218).isSome = true := by kernel_rfl
attribute [simp] Tryz.underlying219
@[simp] theorem cells_219 : Tryz.prog.cellsOf 219 = 1 := by kernel_rfl
@[simp] theorem bytes_219 : Tryz.prog.bytesOf 219 = 8 := by kernel_rfl
@[simp] theorem zval_219 : zval Tryz.prog 219 = some (.nilf) := by kernel_rfl
@[simp] theorem aggT_219 : aggT Tryz.prog 219 = some false := by kernel_rfl
@[simp] theorem info_219 : (Tryz.prog.info? 219).isSome = true := by kernel_rfl
attribute [simp] Tryz.underlying220
@[simp] theorem cells_220 : Tryz.prog.cellsOf 220 = 1 := by kernel_rfl
@[simp] theorem bytes_220 : Tryz.prog.bytesOf 220 = 4 := by kernel_rfl
@[simp] theorem zval_220 : zval Tryz.prog 220 = some (.int .u32 0) := by kernel_rfl
@[simp] theorem aggT_220 : aggT Tryz.prog 220 = some false := by kernel_rfl
@[simp] theorem info_220 : (Tryz.prog.info? 220).isSome = true := by kernel_rfl
attribute [simp] Tryz.underlying221
@[simp] theorem cells_221 : Tryz.prog.cellsOf 221 = 1 := by kernel_rfl
@[simp] theorem bytes_221 : Tryz.prog.bytesOf 221 = 1 := by kernel_rfl
@[simp] theorem zval_221 : zval Tryz.prog 221 = some (.int .u8 0) := by kernel_rfl
@[simp] theorem aggT_221 : aggT Tryz.prog 221 = some false := by kernel_rfl
@[simp] theorem info_221 : (Tryz.prog.info? 221).isSome = true := by kernel_rfl
attribute [simp] Tryz.underlying222
@[simp] theorem cells_222 : Tryz.prog.cellsOf 222 = 1 := by kernel_rfl
@[simp] theorem bytes_222 : Tryz.prog.bytesOf 222 = 1 := by kernel_rfl
@[simp] theorem zval_222 : zval Tryz.prog 222 = some (.int .u8 0) := by kernel_rfl
@[simp] theorem aggT_222 : aggT Tryz.prog 222 = some false := by kernel_rfl
@[simp] theorem info_222 : (Tryz.prog.info? 222).isSome = true := by kernel_rfl
attribute [simp] Tryz.underlying223
@[simp] theorem cells_223 : Tryz.prog.cellsOf 223 = 1 := by kernel_rfl
@[simp] theorem bytes_223 : Tryz.prog.bytesOf 223 = 8 := by kernel_rfl
@[simp] theorem zval_223 : zval Tryz.prog 223 = some (.nilf) := by kernel_rfl
@[simp] theorem aggT_223 : aggT Tryz.prog 223 = some false := by kernel_rfl
@[simp] theorem info_223 : (Tryz.prog.info? 223).isSome = true := by kernel_rfl
attribute [simp] Tryz.underlying224
@[simp] theorem cells_224 : Tryz.prog.cellsOf 224 = 1 := by kernel_rfl
@[simp] theorem bytes_224 : Tryz.prog.bytesOf 224 = 8 := by kernel_rfl
@[simp] theorem zval_224 : zval Tryz.prog 224 = some (.nilp) := by kernel_rfl
@[simp] theorem aggT_224 : aggT Tryz.prog 224 = some false := by kernel_rfl
@[simp] theorem info_224 : (Tryz.prog.info? 224).isSome = true := by kernel_rfl
attribute [simp] Tryz.underlying225
@[simp] theorem cells_225 : Tryz.prog.cellsOf 225 = 1 := by kernel_rfl
@[simp] theorem bytes_225 : Tryz.prog.bytesOf 225 = 4 := by kernel_rfl
@[simp] theorem zval_225 : zval Tryz.prog 225 = some (.int .i32 0) := by kernel_rfl
@[simp] theorem aggT_225 : aggT Tryz.prog 225 = some false := by kernel_rfl
@[simp] theorem info_225 : (Tryz.prog.info? 225).isSome = true := by kernel_rfl
attribute [simp] Tryz.underlying226
@[simp] theorem cells_226 : Tryz.prog.cellsOf 226 = 1 := by kernel_rfl
@[simp] theorem bytes_226 : Tryz.prog.bytesOf 226 = 4 := by kernel_rfl
@[simp] theorem zval_226 : zval Tryz.prog 226 = some (.int .i32 0) := by kernel_rfl
@[simp] theorem aggT_226 : aggT Tryz.prog 226 = some false := by kernel_rfl
@[simp] theorem info_226 : (Tryz.prog.info? 226).isSome = true := by kernel_rfl
attribute [simp] Tryz.underlying227
@[simp] theorem cells_227 : Tryz.prog.cellsOf 227 = 11 := by kernel_rfl
@[simp] theorem bytes_227 : Tryz.prog.bytesOf 227 = 48 := by kernel_rfl
@[simp] theorem zval_227 : zval Tryz.prog 227 = some (.agg [.int .u64 0, .int .u64 0, .int .u32 0, .int .u8 0, .int .u8 0, .int .u8 0, .int .u8 0, .nilf, .nilp, .int .i32 0, .int .i32 0]) := by kernel_rfl
@[simp] theorem aggT_227 : aggT Tryz.prog 227 = some true := by kernel_rfl
@[simp] theorem info_227 : (Tryz.prog.info? 227).isSome = true := by kernel_rfl
attribute [simp] Tryz.underlying228
@[simp] theorem cells_228 : Tryz.prog.cellsOf 228 = 11 := by kernel_rfl
@[simp] theorem bytes_228 : Tryz.prog.bytesOf 228 = 48 := by kernel_rfl
@[simp] theorem zval_228 : zval Tryz.prog 228 = some (.agg [.int .u64 0, .int .u64 0, .int .u32 0, .int .u8 0, .int .u8 0, .int .u8 0, .int .u8 0, .nilf, .nilp, .int .i32 0, .int .i32 0]) := by kernel_rfl
@[simp] theorem aggT_228 : aggT Tryz.prog 228 = some true := by kernel_rfl
@[simp] theorem info_228 : (Tryz.prog.info? 228).isSome = true := by kernel_rfl
attribute [simp] Tryz.underlying229
@[simp] theorem cells_229 : Tryz.prog.cellsOf 229 = 1 := by kernel_rfl
@[simp] theorem bytes_229 : Tryz.prog.bytesOf 229 = 8 := by kernel_rfl
@[simp] theorem zval_229 : zval Tryz.prog 229 = some (.nilf) := by kernel_rfl
@[simp] theorem aggT_229 : aggT Tryz.prog 229 = some false := by kernel_rfl
@[simp] theorem info_229 : (Tryz.prog.info? 229).isSome = true := by kernel_rfl
attribute [simp] Tryz.underlying230
@[simp] theorem cells_230 : Tryz.prog.cellsOf 230 = 1 := by kernel_rfl
@[simp] theorem bytes_230 : Tryz.prog.bytesOf 230 = 8 := by kernel_rfl
@[simp] theorem zval_230 : zval Tryz.prog 230 = some (.nilp) := by kernel_rfl
@[simp] theorem aggT_230 : aggT Tryz.prog 230 = some false := by kernel_rfl
@[simp] theorem info_230 : (Tryz.prog.info? 230).isSome = true := by kernel_rfl
theorem mixed : Tryz.prog.follows .mixedOrders = true := by kernel_rfl
end Go.Proofs.YtibfdebhbibfpaaGreat.Ax
