/- Facts on the types of the translation, for simp; by program. -/
import Derived.Test.YtaacfmakfkaddaaAxN
import Derived.Test.YtaacfmakfkaddaaProg
import Derived.KernelRfl
set_option linter.unusedSimpArgs false
set_option maxRecDepth 20000
namespace Go.Proofs.Ytaacfmakfkaddaa.Ax
open Go Go.Proofs

attribute [simp] Try.underlying2
@[simp] theorem cells_2 : Try.prog.cellsOf 2 = 1 := by kernel_rfl
@[simp] theorem bytes_2 : Try.prog.bytesOf 2 = 8 := by kernel_rfl
@[simp] theorem zval_2 : zval Try.prog 2 = some (.int .i64 0) := by kernel_rfl
@[simp] theorem aggT_2 : aggT Try.prog 2 = some false := by kernel_rfl
@[simp] theorem info_2 : (Try.prog.info? 2).isSome = true := by kernel_rfl
attribute [simp] Try.underlying3
@[simp] theorem cells_3 : Try.prog.cellsOf 3 = 1 := by kernel_rfl
@[simp] theorem bytes_3 : Try.prog.bytesOf 3 = 8 := by kernel_rfl
@[simp] theorem zval_3 : zval Try.prog 3 = some (.int .i64 0) := by kernel_rfl
@[simp] theorem aggT_3 : aggT Try.prog 3 = some false := by kernel_rfl
@[simp] theorem info_3 : (Try.prog.info? 3).isSome = true := by kernel_rfl
attribute [simp] Try.underlying4
@[simp] theorem cells_4 : Try.prog.cellsOf 4 = 1 := by kernel_rfl
@[simp] theorem bytes_4 : Try.prog.bytesOf 4 = 1 := by kernel_rfl
@[simp] theorem zval_4 : zval Try.prog 4 = some (.bool false) := by kernel_rfl
@[simp] theorem aggT_4 : aggT Try.prog 4 = some false := by kernel_rfl
@[simp] theorem info_4 : (Try.prog.info? 4).isSome = true := by kernel_rfl
attribute [simp] Try.underlying5
@[simp] theorem cells_5 : Try.prog.cellsOf 5 = 1 := by kernel_rfl
@[simp] theorem bytes_5 : Try.prog.bytesOf 5 = 1 := by kernel_rfl
@[simp] theorem zval_5 : zval Try.prog 5 = some (.int .u8 0) := by kernel_rfl
@[simp] theorem aggT_5 : aggT Try.prog 5 = some false := by kernel_rfl
@[simp] theorem info_5 : (Try.prog.info? 5).isSome = true := by kernel_rfl
attribute [simp] Try.underlying6
@[simp] theorem cells_6 : Try.prog.cellsOf 6 = 1 := by kernel_rfl
@[simp] theorem bytes_6 : Try.prog.bytesOf 6 = 1 := by kernel_rfl
@[simp] theorem zval_6 : zval Try.prog 6 = some (.int .u8 0) := by kernel_rfl
@[simp] theorem aggT_6 : aggT Try.prog 6 = some false := by kernel_rfl
@[simp] theorem info_6 : (Try.prog.info? 6).isSome = true := by kernel_rfl
attribute [simp] Try.underlying7
@[simp] theorem cells_7 : Try.prog.cellsOf 7 = 4 := by kernel_rfl
@[simp] theorem bytes_7 : Try.prog.bytesOf 7 = 24 := by kernel_rfl
@[simp] theorem zval_7 : zval Try.prog 7 = some (.agg [.int .i64 0, .int .i64 0, .bool false, .int .u8 0]) := by kernel_rfl
@[simp] theorem aggT_7 : aggT Try.prog 7 = some true := by kernel_rfl
@[simp] theorem info_7 : (Try.prog.info? 7).isSome = true := by kernel_rfl
attribute [simp] Try.underlying8
@[simp] theorem cells_8 : Try.prog.cellsOf 8 = 4 := by kernel_rfl
@[simp] theorem bytes_8 : Try.prog.bytesOf 8 = 24 := by kernel_rfl
@[simp] theorem zval_8 : zval Try.prog 8 = some (.agg [.int .i64 0, .int .i64 0, .bool false, .int .u8 0]) := by kernel_rfl
@[simp] theorem aggT_8 : aggT Try.prog 8 = some true := by kernel_rfl
@[simp] theorem info_8 : (Try.prog.info? 8).isSome = true := by kernel_rfl
attribute [simp] Try.underlying9
@[simp] theorem cells_9 : Try.prog.cellsOf 9 = 1 := by kernel_rfl
@[simp] theorem bytes_9 : Try.prog.bytesOf 9 = 16 := by kernel_rfl
@[simp] theorem zval_9 : zval Try.prog 9 = some (.str ⟨#[]⟩) := by kernel_rfl
@[simp] theorem aggT_9 : aggT Try.prog 9 = some false := by kernel_rfl
@[simp] theorem info_9 : (Try.prog.info? 9).isSome = true := by kernel_rfl
attribute [simp] Try.underlying10
@[simp] theorem cells_10 : Try.prog.cellsOf 10 = 1 := by kernel_rfl
@[simp] theorem bytes_10 : Try.prog.bytesOf 10 = 16 := by kernel_rfl
@[simp] theorem zval_10 : zval Try.prog 10 = some (.str ⟨#[]⟩) := by kernel_rfl
@[simp] theorem aggT_10 : aggT Try.prog 10 = some false := by kernel_rfl
@[simp] theorem info_10 : (Try.prog.info? 10).isSome = true := by kernel_rfl
attribute [simp] Try.underlying11
@[simp] theorem cells_11 : Try.prog.cellsOf 11 = 1 := by kernel_rfl
@[simp] theorem bytes_11 : Try.prog.bytesOf 11 = 16 := by kernel_rfl
@[simp] theorem zval_11 : zval Try.prog 11 = some (.str ⟨#[]⟩) := by kernel_rfl
@[simp] theorem aggT_11 : aggT Try.prog 11 = some false := by kernel_rfl
@[simp] theorem info_11 : (Try.prog.info? 11).isSome = true := by kernel_rfl
attribute [simp] Try.underlying12
@[simp] theorem cells_12 : Try.prog.cellsOf 12 = 1 := by kernel_rfl
@[simp] theorem bytes_12 : Try.prog.bytesOf 12 = 8 := by kernel_rfl
@[simp] theorem zval_12 : zval Try.prog 12 = some (.int .u64 0) := by kernel_rfl
@[simp] theorem aggT_12 : aggT Try.prog 12 = some false := by kernel_rfl
@[simp] theorem info_12 : (Try.prog.info? 12).isSome = true := by kernel_rfl
attribute [simp] Try.underlying13
@[simp] theorem cells_13 : Try.prog.cellsOf 13 = 2 := by kernel_rfl
@[simp] theorem bytes_13 : Try.prog.bytesOf 13 = 24 := by kernel_rfl
@[simp] theorem zval_13 : zval Try.prog 13 = some (.agg [.str ⟨#[]⟩, .int .u64 0]) := by kernel_rfl
@[simp] theorem aggT_13 : aggT Try.prog 13 = some true := by kernel_rfl
@[simp] theorem info_13 : (Try.prog.info? 13).isSome = true := by kernel_rfl
attribute [simp] Try.underlying14
@[simp] theorem cells_14 : Try.prog.cellsOf 14 = 2 := by kernel_rfl
@[simp] theorem bytes_14 : Try.prog.bytesOf 14 = 24 := by kernel_rfl
@[simp] theorem zval_14 : zval Try.prog 14 = some (.agg [.str ⟨#[]⟩, .int .u64 0]) := by kernel_rfl
@[simp] theorem aggT_14 : aggT Try.prog 14 = some true := by kernel_rfl
@[simp] theorem info_14 : (Try.prog.info? 14).isSome = true := by kernel_rfl
attribute [simp] Try.underlying15
@[simp] theorem cells_15 : Try.prog.cellsOf 15 = 1 := by kernel_rfl
@[simp] theorem bytes_15 : Try.prog.bytesOf 15 = 8 := by kernel_rfl
@[simp] theorem zval_15 : zval Try.prog 15 = some (.nilp) := by kernel_rfl
@[simp] theorem aggT_15 : aggT Try.prog 15 = some false := by kernel_rfl
@[simp] theorem info_15 : (Try.prog.info? 15).isSome = true := by kernel_rfl
attribute [simp] Try.underlying16
@[simp] theorem cells_16 : Try.prog.cellsOf 16 = 1 := by kernel_rfl
@[simp] theorem bytes_16 : Try.prog.bytesOf 16 = 8 := by kernel_rfl
@[simp] theorem zval_16 : zval Try.prog 16 = some (.nilp) := by kernel_rfl
@[simp] theorem aggT_16 : aggT Try.prog 16 = some false := by kernel_rfl
@[simp] theorem info_16 : (Try.prog.info? 16).isSome = true := by kernel_rfl
attribute [simp] Try.underlying17
@[simp] theorem cells_17 : Try.prog.cellsOf 17 = 1 := by kernel_rfl
@[simp] theorem bytes_17 : Try.prog.bytesOf 17 = 8 := by kernel_rfl
@[simp] theorem zval_17 : zval Try.prog 17 = some (.nilp) := by kernel_rfl
@[simp] theorem aggT_17 : aggT Try.prog 17 = some false := by kernel_rfl
@[simp] theorem info_17 : (Try.prog.info? 17).isSome = true := by kernel_rfl
attribute [simp] Try.underlying18
@[simp] theorem cells_18 : Try.prog.cellsOf 18 = 1 := by kernel_rfl
@[simp] theorem bytes_18 : Try.prog.bytesOf 18 = 8 := by kernel_rfl
@[simp] theorem zval_18 : zval Try.prog 18 = some (.agg [.nilp]) := by kernel_rfl
@[simp] theorem aggT_18 : aggT Try.prog 18 = some true := by kernel_rfl
@[simp] theorem info_18 : (Try.prog.info? 18).isSome = true := by kernel_rfl
attribute [simp] Try.underlying19
@[simp] theorem cells_19 : Try.prog.cellsOf 19 = 1 := by kernel_rfl
@[simp] theorem bytes_19 : Try.prog.bytesOf 19 = 8 := by kernel_rfl
@[simp] theorem zval_19 : zval Try.prog 19 = some (.agg [.nilp]) := by kernel_rfl
@[simp] theorem aggT_19 : aggT Try.prog 19 = some true := by kernel_rfl
@[simp] theorem info_19 : (Try.prog.info? 19).isSome = true := by kernel_rfl
attribute [simp] Try.underlying20
@[simp] theorem cells_20 : Try.prog.cellsOf 20 = 1 := by kernel_rfl
@[simp] theorem bytes_20 : Try.prog.bytesOf 20 = 16 := by kernel_rfl
@[simp] theorem zval_20 : zval Try.prog 20 = some (.nilif) := by kernel_rfl
@[simp] theorem aggT_20 : aggT Try.prog 20 = some false := by kernel_rfl
@[simp] theorem info_20 : (Try.prog.info? 20).isSome = true := by kernel_rfl
attribute [simp] Try.underlying21
@[simp] theorem cells_21 : Try.prog.cellsOf 21 = 1 := by kernel_rfl
@[simp] theorem bytes_21 : Try.prog.bytesOf 21 = 4 := by kernel_rfl
@[simp] theorem zval_21 : zval Try.prog 21 = some (.int .i32 0) := by kernel_rfl
@[simp] theorem aggT_21 : aggT Try.prog 21 = some false := by kernel_rfl
@[simp] theorem info_21 : (Try.prog.info? 21).isSome = true := by kernel_rfl
attribute [simp] Try.underlying22
@[simp] theorem cells_22 : Try.prog.cellsOf 22 = 1 := by kernel_rfl
@[simp] theorem bytes_22 : Try.prog.bytesOf 22 = 24 := by kernel_rfl
@[simp] theorem zval_22 : zval Try.prog 22 = some (.nils) := by kernel_rfl
@[simp] theorem aggT_22 : aggT Try.prog 22 = some false := by kernel_rfl
@[simp] theorem info_22 : (Try.prog.info? 22).isSome = true := by kernel_rfl
attribute [simp] Try.underlying23
@[simp] theorem cells_23 : Try.prog.cellsOf 23 = 3 := by kernel_rfl
@[simp] theorem bytes_23 : Try.prog.bytesOf 23 = 56 := by kernel_rfl
@[simp] theorem zval_23 : zval Try.prog 23 = some (.agg [.int .i64 0, .nils, .nils]) := by kernel_rfl
@[simp] theorem aggT_23 : aggT Try.prog 23 = some true := by kernel_rfl
@[simp] theorem info_23 : (Try.prog.info? 23).isSome = true := by kernel_rfl
attribute [simp] Try.underlying24
@[simp] theorem cells_24 : Try.prog.cellsOf 24 = 3 := by kernel_rfl
@[simp] theorem bytes_24 : Try.prog.bytesOf 24 = 56 := by kernel_rfl
@[simp] theorem zval_24 : zval Try.prog 24 = some (.agg [.int .i64 0, .nils, .nils]) := by kernel_rfl
@[simp] theorem aggT_24 : aggT Try.prog 24 = some true := by kernel_rfl
@[simp] theorem info_24 : (Try.prog.info? 24).isSome = true := by kernel_rfl
attribute [simp] Try.underlying25
@[simp] theorem cells_25 : Try.prog.cellsOf 25 = 1 := by kernel_rfl
@[simp] theorem bytes_25 : Try.prog.bytesOf 25 = 24 := by kernel_rfl
@[simp] theorem zval_25 : zval Try.prog 25 = some (.nils) := by kernel_rfl
@[simp] theorem aggT_25 : aggT Try.prog 25 = some false := by kernel_rfl
@[simp] theorem info_25 : (Try.prog.info? 25).isSome = true := by kernel_rfl
attribute [simp] Try.underlying26
@[simp] theorem cells_26 : Try.prog.cellsOf 26 = 3 := by kernel_rfl
@[simp] theorem bytes_26 : Try.prog.bytesOf 26 = 40 := by kernel_rfl
@[simp] theorem zval_26 : zval Try.prog 26 = some (.agg [.int .i64 0, .int .i64 0, .nils]) := by kernel_rfl
@[simp] theorem aggT_26 : aggT Try.prog 26 = some true := by kernel_rfl
@[simp] theorem info_26 : (Try.prog.info? 26).isSome = true := by kernel_rfl
attribute [simp] Try.underlying27
@[simp] theorem cells_27 : Try.prog.cellsOf 27 = 3 := by kernel_rfl
@[simp] theorem bytes_27 : Try.prog.bytesOf 27 = 40 := by kernel_rfl
@[simp] theorem zval_27 : zval Try.prog 27 = some (.agg [.int .i64 0, .int .i64 0, .nils]) := by kernel_rfl
@[simp] theorem aggT_27 : aggT Try.prog 27 = some true := by kernel_rfl
@[simp] theorem info_27 : (Try.prog.info? 27).isSome = true := by kernel_rfl
attribute [simp] Try.underlying28
@[simp] theorem cells_28 : Try.prog.cellsOf 28 = 1 := by kernel_rfl
@[simp] theorem bytes_28 : Try.prog.bytesOf 28 = 24 := by kernel_rfl
@[simp] theorem zval_28 : zval Try.prog 28 = some (.nils) := by kernel_rfl
@[simp] theorem aggT_28 : aggT Try.prog 28 = some false := by kernel_rfl
@[simp] theorem info_28 : (Try.prog.info? 28).isSome = true := by kernel_rfl
attribute [simp] Try.underlying29
@[simp] theorem cells_29 : Try.prog.cellsOf 29 = 1 := by kernel_rfl
@[simp] theorem bytes_29 : Try.prog.bytesOf 29 = 8 := by kernel_rfl
@[simp] theorem zval_29 : zval Try.prog 29 = some (.int .i64 0) := by kernel_rfl
@[simp] theorem aggT_29 : aggT Try.prog 29 = some false := by kernel_rfl
@[simp] theorem info_29 : (Try.prog.info? 29).isSome = true := by kernel_rfl
attribute [simp] Try.underlying36
@[simp] theorem cells_36 : Try.prog.cellsOf 36 = 1 := by kernel_rfl
@[simp] theorem bytes_36 : Try.prog.bytesOf 36 = 8 := by kernel_rfl
@[simp] theorem zval_36 : zval Try.prog 36 = some (.nilp) := by kernel_rfl
@[simp] theorem aggT_36 : aggT Try.prog 36 = some false := by kernel_rfl
@[simp] theorem info_36 : (Try.prog.info? 36).isSome = true := by kernel_rfl
attribute [simp] Try.underlying40
@[simp] theorem cells_40 : Try.prog.cellsOf 40 = 64 := by kernel_rfl
@[simp] theorem bytes_40 : Try.prog.bytesOf 40 = 512 := by kernel_rfl
@[simp] theorem zval_40 : zval Try.prog 40 = some (.agg [.int .i64 0, .int .i64 0, .int .i64 0, .int .i64 0, .int .i64 0, .int .i64 0, .int .i64 0, .int .i64 0, .int .i64 0, .int .i64 0, .int .i64 0, .int .i64 0, .int .i64 0, .int .i64 0, .int .i64 0, .int .i64 0, .int .i64 0, .int .i64 0, .int .i64 0, .int .i64 0, .int .i64 0, .int .i64 0, .int .i64 0, .int .i64 0, .int .i64 0, .int .i64 0, .int .i64 0, .int .i64 0, .int .i64 0, .int .i64 0, .int .i64 0, .int .i64 0, .int .i64 0, .int .i64 0, .int .i64 0, .int .i64 0, .int .i64 0, .int .i64 0, .int .i64 0, .int .i64 0, .int .i64 0, .int .i64 0, .int .i64 0, .int .i64 0, .int .i64 0, .int .i64 0, .int .i64 0, .int .i64 0, .int .i64 0, .int .i64 0, .int .i64 0, .int .i64 0, .int .i64 0, .int .i64 0, .int .i64 0, .int .i64 0, .int .i64 0, .int .i64 0, .int .i64 0, .int .i64 0, .int .i64 0, .int .i64 0, .int .i64 0, .int .i64 0]) := by kernel_rfl
@[simp] theorem aggT_40 : aggT Try.prog 40 = some true := by kernel_rfl
@[simp] theorem info_40 : (Try.prog.info? 40).isSome = true := by kernel_rfl
attribute [simp] Try.underlying41
@[simp] theorem cells_41 : Try.prog.cellsOf 41 = 68 := by kernel_rfl
@[simp] theorem bytes_41 : Try.prog.bytesOf 41 = 576 := by kernel_rfl
@[simp] theorem zval_41 : zval Try.prog 41 = some (.agg [.int .i64 0, .nils, .nils, .int .i64 0, .int .i64 0, .int .i64 0, .int .i64 0, .int .i64 0, .int .i64 0, .int .i64 0, .int .i64 0, .int .i64 0, .int .i64 0, .int .i64 0, .int .i64 0, .int .i64 0, .int .i64 0, .int .i64 0, .int .i64 0, .int .i64 0, .int .i64 0, .int .i64 0, .int .i64 0, .int .i64 0, .int .i64 0, .int .i64 0, .int .i64 0, .int .i64 0, .int .i64 0, .int .i64 0, .int .i64 0, .int .i64 0, .int .i64 0, .int .i64 0, .int .i64 0, .int .i64 0, .int .i64 0, .int .i64 0, .int .i64 0, .int .i64 0, .int .i64 0, .int .i64 0, .int .i64 0, .int .i64 0, .int .i64 0, .int .i64 0, .int .i64 0, .int .i64 0, .int .i64 0, .int .i64 0, .int .i64 0, .int .i64 0, .int .i64 0, .int .i64 0, .int .i64 0, .int .i64 0, .int .i64 0, .int .i64 0, .int .i64 0, .int .i64 0, .int .i64 0, .int .i64 0, .int .i64 0, .int .i64 0, .int .i64 0, .int .i64 0, .int .i64 0, .int .i64 0]) := by kernel_rfl
@[simp] theorem aggT_41 : aggT Try.prog 41 = some true := by kernel_rfl
@[simp] theorem info_41 : (Try.prog.info? 41).isSome = true := by kernel_rfl
attribute [simp] Try.underlying42
@[simp] theorem cells_42 : Try.prog.cellsOf 42 = 68 := by kernel_rfl
@[simp] theorem bytes_42 : Try.prog.bytesOf 42 = 576 := by kernel_rfl
@[simp] theorem zval_42 : zval Try.prog 42 = some (.agg [.int .i64 0, .nils, .nils, .int .i64 0, .int .i64 0, .int .i64 0, .int .i64 0, .int .i64 0, .int .i64 0, .int .i64 0, .int .i64 0, .int .i64 0, .int .i64 0, .int .i64 0, .int .i64 0, .int .i64 0, .int .i64 0, .int .i64 0, .int .i64 0, .int .i64 0, .int .i64 0, .int .i64 0, .int .i64 0, .int .i64 0, .int .i64 0, .int .i64 0, .int .i64 0, .int .i64 0, .int .i64 0, .int .i64 0, .int .i64 0, .int .i64 0, .int .i64 0, .int .i64 0, .int .i64 0, .int .i64 0, .int .i64 0, .int .i64 0, .int .i64 0, .int .i64 0, .int .i64 0, .int .i64 0, .int .i64 0, .int .i64 0, .int .i64 0, .int .i64 0, .int .i64 0, .int .i64 0, .int .i64 0, .int .i64 0, .int .i64 0, .int .i64 0, .int .i64 0, .int .i64 0, .int .i64 0, .int .i64 0, .int .i64 0, .int .i64 0, .int .i64 0, .int .i64 0, .int .i64 0, .int .i64 0, .int .i64 0, .int .i64 0, .int .i64 0, .int .i64 0, .int .i64 0, .int .i64 0]) := by kernel_rfl
@[simp] theorem aggT_42 : aggT Try.prog 42 = some true := by kernel_rfl
@[simp] theorem info_42 : (Try.prog.info? 42).isSome = true := by kernel_rfl
attribute [simp] Try.underlying46
@[simp] theorem cells_46 : Try.prog.cellsOf 46 = 2 := by kernel_rfl
@[simp] theorem bytes_46 : Try.prog.bytesOf 46 = 16 := by kernel_rfl
@[simp] theorem zval_46 : zval Try.prog 46 = some (.agg [.bool false, .int .i64 0]) := by kernel_rfl
@[simp] theorem aggT_46 : aggT Try.prog 46 = some true := by kernel_rfl
@[simp] theorem info_46 : (Try.prog.info? 46).isSome = true := by kernel_rfl
attribute [simp] Try.underlying47
@[simp] theorem cells_47 : Try.prog.cellsOf 47 = 2 := by kernel_rfl
@[simp] theorem bytes_47 : Try.prog.bytesOf 47 = 16 := by kernel_rfl
@[simp] theorem zval_47 : zval Try.prog 47 = some (.agg [.bool false, .int .i64 0]) := by kernel_rfl
@[simp] theorem aggT_47 : aggT Try.prog 47 = some true := by kernel_rfl
@[simp] theorem info_47 : (Try.prog.info? 47).isSome = true := by kernel_rfl
attribute [simp] Try.underlying50
@[simp] theorem cells_50 : Try.prog.cellsOf 50 = 1 := by kernel_rfl
@[simp] theorem bytes_50 : Try.prog.bytesOf 50 = 8 := by kernel_rfl
@[simp] theorem zval_50 : zval Try.prog 50 = some (.int .u64 0) := by kernel_rfl
@[simp] theorem aggT_50 : aggT Try.prog 50 = some false := by kernel_rfl
@[simp] theorem info_50 : (Try.prog.info? 50).isSome = true := by kernel_rfl
attribute [simp] Try.underlying69
@[simp] theorem cells_69 : Try.prog.cellsOf 69 = 1 := by kernel_rfl
@[simp] theorem bytes_69 : Try.prog.bytesOf 69 = 8 := by kernel_rfl
@[simp] theorem zval_69 : zval Try.prog 69 = some (.int .u64 0) := by kernel_rfl
@[simp] theorem aggT_69 : aggT Try.prog 69 = some false := by kernel_rfl
@[simp] theorem info_69 : (Try.prog.info? 69).isSome = true := by kernel_rfl
attribute [simp] Try.underlying72
@[simp] theorem cells_72 : Try.prog.cellsOf 72 = 1 := by kernel_rfl
@[simp] theorem bytes_72 : Try.prog.bytesOf 72 = 8 := by kernel_rfl
@[simp] theorem zval_72 : zval Try.prog 72 = some (.nilf) := by kernel_rfl
@[simp] theorem aggT_72 : aggT Try.prog 72 = some false := by kernel_rfl
@[simp] theorem info_72 : (Try.prog.info? 72).isSome = true := by kernel_rfl
attribute [simp] Try.underlying76
@[simp] theorem cells_76 : Try.prog.cellsOf 76 = 3 := by kernel_rfl
@[simp] theorem bytes_76 : Try.prog.bytesOf 76 = 40 := by kernel_rfl
@[simp] theorem zval_76 : zval Try.prog 76 = some (.agg [.int .i64 0, .int .i64 0, .nils]) := by kernel_rfl
@[simp] theorem aggT_76 : aggT Try.prog 76 = some true := by kernel_rfl
@[simp] theorem info_76 : (Try.prog.info? 76).isSome = true := by kernel_rfl
attribute [simp] Try.underlying77
@[simp] theorem cells_77 : Try.prog.cellsOf 77 = 3 := by kernel_rfl
@[simp] theorem bytes_77 : Try.prog.bytesOf 77 = 40 := by kernel_rfl
@[simp] theorem zval_77 : zval Try.prog 77 = some (.agg [.int .i64 0, .int .i64 0, .nils]) := by kernel_rfl
@[simp] theorem aggT_77 : aggT Try.prog 77 = some true := by kernel_rfl
@[simp] theorem info_77 : (Try.prog.info? 77).isSome = true := by kernel_rfl
attribute [simp] Try.underlying83
@[simp] theorem cells_83 : Try.prog.cellsOf 83 = 1 := by kernel_rfl
@[simp] theorem bytes_83 : Try.prog.bytesOf 83 = 8 := by kernel_rfl
@[simp] theorem zval_83 : zval Try.prog 83 = some (.nilf) := by kernel_rfl
@[simp] theorem aggT_83 : aggT Try.prog 83 = some false := by kernel_rfl
@[simp] theorem info_83 : (Try.prog.info? 83).isSome = true := by kernel_rfl
attribute [simp] Try.underlying95
@[simp] theorem cells_95 : Try.prog.cellsOf 95 = 4 := by kernel_rfl
@[simp] theorem bytes_95 : Try.prog.bytesOf 95 = 40 := by kernel_rfl
@[simp] theorem zval_95 : zval Try.prog 95 = some (.agg [.nilp, .nilp, .nilp, .str ⟨#[]⟩]) := by kernel_rfl
@[simp] theorem aggT_95 : aggT Try.prog 95 = some true := by kernel_rfl
@[simp] theorem info_95 : (Try.prog.info? 95).isSome = true := by kernel_rfl
attribute [simp] Try.underlying96
@[simp] theorem cells_96 : Try.prog.cellsOf 96 = 4 := by kernel_rfl
@[simp] theorem bytes_96 : Try.prog.bytesOf 96 = 40 := by kernel_rfl
@[simp] theorem zval_96 : zval Try.prog 96 = some (.agg [.nilp, .nilp, .nilp, .str ⟨#[]⟩]) := by kernel_rfl
@[simp] theorem aggT_96 : aggT Try.prog 96 = some true := by kernel_rfl
@[simp] theorem info_96 : (Try.prog.info? 96).isSome = true := by kernel_rfl
attribute [simp] Try.underlying97
@[simp] theorem cells_97 : Try.prog.cellsOf 97 = 0 := by kernel_rfl
@[simp] theorem bytes_97 : Try.prog.bytesOf 97 = 0 := by kernel_rfl
@[simp] theorem zval_97 : zval Try.prog 97 = some (.agg []) := by kernel_rfl
@[simp] theorem aggT_97 : aggT Try.prog 97 = some true := by kernel_rfl
@[simp] theorem info_97 : (Try.prog.info? 97).isSome = true := by kernel_rfl
attribute [simp] Try.underlying98
@[simp] theorem cells_98 : Try.prog.cellsOf 98 = 0 := by kernel_rfl
@[simp] theorem bytes_98 : Try.prog.bytesOf 98 = 0 := by kernel_rfl
@[simp] theorem zval_98 : zval Try.prog 98 = some (.agg []) := by kernel_rfl
@[simp] theorem aggT_98 : aggT Try.prog 98 = some true := by kernel_rfl
@[simp] theorem info_98 : (Try.prog.info? 98).isSome = true := by kernel_rfl
attribute [simp] Try.underlying99
@[simp] theorem cells_99 : Try.prog.cellsOf 99 = 0 := by kernel_rfl
@[simp] theorem bytes_99 : Try.prog.bytesOf 99 = 0 := by kernel_rfl
@[simp] theorem zval_99 : zval Try.prog 99 = some (.agg []) := by kernel_rfl
@[simp] theorem aggT_99 : aggT Try.prog 99 = some true := by kernel_rfl
@[simp] theorem info_99 : (Try.prog.info? 99).isSome = true := by kernel_rfl
attribute [simp] Try.underlying101
@[simp] theorem cells_101 : Try.prog.cellsOf 101 = 1 := by kernel_rfl
@[simp] theorem bytes_101 : Try.prog.bytesOf 101 = 4 := by kernel_rfl
@[simp] theorem zval_101 : zval Try.prog 101 = some (.int .u32 0) := by kernel_rfl
@[simp] theorem aggT_101 : aggT Try.prog 101 = some false := by kernel_rfl
@[simp] theorem info_101 : (Try.prog.info? 101).isSome = true := by kernel_rfl
attribute [simp] Try.underlying102
@[simp] theorem cells_102 : Try.prog.cellsOf 102 = 1 := by kernel_rfl
@[simp] theorem bytes_102 : Try.prog.bytesOf 102 = 1 := by kernel_rfl
@[simp] theorem zval_102 : zval Try.prog 102 = some (.int .u8 0) := by kernel_rfl
@[simp] theorem aggT_102 : aggT Try.prog 102 = some false := by kernel_rfl
@[simp] theorem info_102 : (Try.prog.info? 102).isSome = true := by kernel_rfl
attribute [simp] Try.underlying103
@[simp] theorem cells_103 : Try.prog.cellsOf 103 = 1 := by kernel_rfl
@[simp] theorem bytes_103 : Try.prog.bytesOf 103 = 1 := by kernel_rfl
@[simp] theorem zval_103 : zval Try.prog 103 = some (.int .u8 0) := by kernel_rfl
@[simp] theorem aggT_103 : aggT Try.prog 103 = some false := by kernel_rfl
@[simp] theorem info_103 : (Try.prog.info? 103).isSome = true := by kernel_rfl
attribute [simp] Try.underlying105
@[simp] theorem cells_105 : Try.prog.cellsOf 105 = 1 := by kernel_rfl
@[simp] theorem bytes_105 : Try.prog.bytesOf 105 = 8 := by kernel_rfl
@[simp] theorem zval_105 : zval Try.prog 105 = some (.nilp) := by kernel_rfl
@[simp] theorem aggT_105 : aggT Try.prog 105 = some false := by kernel_rfl
@[simp] theorem info_105 : (Try.prog.info? 105).isSome = true := by kernel_rfl
attribute [simp] Try.underlying106
@[simp] theorem cells_106 : Try.prog.cellsOf 106 = 1 := by kernel_rfl
@[simp] theorem bytes_106 : Try.prog.bytesOf 106 = 4 := by kernel_rfl
@[simp] theorem zval_106 : zval Try.prog 106 = some (.int .i32 0) := by kernel_rfl
@[simp] theorem aggT_106 : aggT Try.prog 106 = some false := by kernel_rfl
@[simp] theorem info_106 : (Try.prog.info? 106).isSome = true := by kernel_rfl
attribute [simp] Try.underlying107
@[simp] theorem cells_107 : Try.prog.cellsOf 107 = 1 := by kernel_rfl
@[simp] theorem bytes_107 : Try.prog.bytesOf 107 = 4 := by kernel_rfl
@[simp] theorem zval_107 : zval Try.prog 107 = some (.int .i32 0) := by kernel_rfl
@[simp] theorem aggT_107 : aggT Try.prog 107 = some false := by kernel_rfl
@[simp] theorem info_107 : (Try.prog.info? 107).isSome = true := by kernel_rfl
attribute [simp] Try.underlying108
@[simp] theorem cells_108 : Try.prog.cellsOf 108 = 11 := by kernel_rfl
@[simp] theorem bytes_108 : Try.prog.bytesOf 108 = 48 := by kernel_rfl
@[simp] theorem zval_108 : zval Try.prog 108 = some (.agg [.int .u64 0, .int .u64 0, .int .u32 0, .int .u8 0, .int .u8 0, .int .u8 0, .int .u8 0, .nilf, .nilp, .int .i32 0, .int .i32 0]) := by kernel_rfl
@[simp] theorem aggT_108 : aggT Try.prog 108 = some true := by kernel_rfl
@[simp] theorem info_108 : (Try.prog.info? 108).isSome = true := by kernel_rfl
attribute [simp] Try.underlying109
@[simp] theorem cells_109 : Try.prog.cellsOf 109 = 11 := by kernel_rfl
@[simp] theorem bytes_109 : Try.prog.bytesOf 109 = 48 := by kernel_rfl
@[simp] theorem zval_109 : zval Try.prog 109 = some (.agg [.int .u64 0, .int .u64 0, .int .u32 0, .int .u8 0, .int .u8 0, .int .u8 0, .int .u8 0, .nilf, .nilp, .int .i32 0, .int .i32 0]) := by kernel_rfl
@[simp] theorem aggT_109 : aggT Try.prog 109 = some true := by kernel_rfl
@[simp] theorem info_109 : (Try.prog.info? 109).isSome = true := by kernel_rfl
attribute [simp] Try.underlying110
@[simp] theorem cells_110 : Try.prog.cellsOf 110 = 1 := by kernel_rfl
@[simp] theorem bytes_110 : Try.prog.bytesOf 110 = 8 := by kernel_rfl
@[simp] theorem zval_110 : zval Try.prog 110 = some (.nilp) := by kernel_rfl
@[simp] theorem aggT_110 : aggT Try.prog 110 = some false := by kernel_rfl
@[simp] theorem info_110 : (Try.prog.info? 110).isSome = true := by kernel_rfl
theorem mixed : Try.prog.follows .mixedOrders = true := by kernel_rfl
end Go.Proofs.Ytaacfmakfkaddaa.Ax
