/- Facts on the types of the translation, for simp; by program. -/
import Derived.Test.YtjjagophlcminaaAxN
import Derived.Test.YtjjagophlcminaaProg
import Derived.KernelRfl
set_option linter.unusedSimpArgs false
set_option maxRecDepth 20000
namespace Go.Proofs.Ytjjagophlcminaa.Ax
open Go Go.Proofs

attribute [simp] Try.underlying2
@[simp] theorem cells_2 : Try.prog.cellsOf 2 = 1 := by kernel_rfl
@[simp] theorem bytes_2 : Try.prog.bytesOf 2 = 8 := by kernel_rfl
@[simp] theorem zval_2 : zval Try.prog 2 = some (.int .i64 0) := by kernel_rfl
@[simp] theorem aggT_2 : aggT Try.prog 2 = some false := by kernel_rfl
@[simp] theorem info_2 : (Try.prog.info? 2).isSome = true := by kernel_rfl
attribute [simp] Try.underlying3
@[simp] theorem cells_3 : Try.prog.cellsOf 3 = 1 := by kernel_rfl
@[simp] theorem bytes_3 : Try.prog.bytesOf 3 = 8 := by kernel_rfl
@[simp] theorem zval_3 : zval Try.prog 3 = some (.int .i64 0) := by kernel_rfl
@[simp] theorem aggT_3 : aggT Try.prog 3 = some false := by kernel_rfl
@[simp] theorem info_3 : (Try.prog.info? 3).isSome = true := by kernel_rfl
attribute [simp] Try.underlying4
@[simp] theorem cells_4 : Try.prog.cellsOf 4 = 1 := by kernel_rfl
@[simp] theorem bytes_4 : Try.prog.bytesOf 4 = 1 := by kernel_rfl
@[simp] theorem zval_4 : zval Try.prog 4 = some (.bool false) := by kernel_rfl
@[simp] theorem aggT_4 : aggT Try.prog 4 = some false := by kernel_rfl
@[simp] theorem info_4 : (Try.prog.info? 4).isSome = true := by kernel_rfl
attribute [simp] Try.underlying5
@[simp] theorem cells_5 : Try.prog.cellsOf 5 = 1 := by kernel_rfl
@[simp] theorem bytes_5 : Try.prog.bytesOf 5 = 1 := by kernel_rfl
@[simp] theorem zval_5 : zval Try.prog 5 = some (.int .u8 0) := by kernel_rfl
@[simp] theorem aggT_5 : aggT Try.prog 5 = some false := by kernel_rfl
@[simp] theorem info_5 : (Try.prog.info? 5).isSome = true := by kernel_rfl
attribute [simp] Try.underlying6
@[simp] theorem cells_6 : Try.prog.cellsOf 6 = 1 := by kernel_rfl
@[simp] theorem bytes_6 : Try.prog.bytesOf 6 = 1 := by kernel_rfl
@[simp] theorem zval_6 : zval Try.prog 6 = some (.int .u8 0) := by kernel_rfl
@[simp] theorem aggT_6 : aggT Try.prog 6 = some false := by kernel_rfl
@[simp] theorem info_6 : (Try.prog.info? 6).isSome = true := by kernel_rfl
attribute [simp] Try.underlying7
@[simp] theorem cells_7 : Try.prog.cellsOf 7 = 4 := by kernel_rfl
@[simp] theorem bytes_7 : Try.prog.bytesOf 7 = 24 := by kernel_rfl
@[simp] theorem zval_7 : zval Try.prog 7 = some (.agg [.int .i64 0, .int .i64 0, .bool false, .int .u8 0]) := by kernel_rfl
@[simp] theorem aggT_7 : aggT Try.prog 7 = some true := by kernel_rfl
@[simp] theorem info_7 : (Try.prog.info? 7).isSome = true := by kernel_rfl
attribute [simp] Try.underlying8
@[simp] theorem cells_8 : Try.prog.cellsOf 8 = 4 := by kernel_rfl
@[simp] theorem bytes_8 : Try.prog.bytesOf 8 = 24 := by kernel_rfl
@[simp] theorem zval_8 : zval Try.prog 8 = some (.agg [.int .i64 0, .int .i64 0, .bool false, .int .u8 0]) := by kernel_rfl
@[simp] theorem aggT_8 : aggT Try.prog 8 = some true := by kernel_rfl
@[simp] theorem info_8 : (Try.prog.info? 8).isSome = true := by kernel_rfl
attribute [simp] Try.underlying9
@[simp] theorem cells_9 : Try.prog.cellsOf 9 = 1 := by kernel_rfl
@[simp] theorem bytes_9 : Try.prog.bytesOf 9 = 16 := by kernel_rfl
@[simp] theorem zval_9 : zval Try.prog 9 = some (.str ⟨#[]⟩) := by kernel_rfl
@[simp] theorem aggT_9 : aggT Try.prog 9 = some false := by kernel_rfl
@[simp] theorem info_9 : (Try.prog.info? 9).isSome = true := by kernel_rfl
attribute [simp] Try.underlying10
@[simp] theorem cells_10 : Try.prog.cellsOf 10 = 1 := by kernel_rfl
@[simp] theorem bytes_10 : Try.prog.bytesOf 10 = 16 := by kernel_rfl
@[simp] theorem zval_10 : zval Try.prog 10 = some (.str ⟨#[]⟩) := by kernel_rfl
@[simp] theorem aggT_10 : aggT Try.prog 10 = some false := by kernel_rfl
@[simp] theorem info_10 : (Try.prog.info? 10).isSome = true := by kernel_rfl
attribute [simp] Try.underlying11
@[simp] theorem cells_11 : Try.prog.cellsOf 11 = 1 := by kernel_rfl
@[simp] theorem bytes_11 : Try.prog.bytesOf 11 = 16 := by kernel_rfl
@[simp] theorem zval_11 : zval Try.prog 11 = some (.str ⟨#[]⟩) := by kernel_rfl
@[simp] theorem aggT_11 : aggT Try.prog 11 = some false := by kernel_rfl
@[simp] theorem info_11 : (Try.prog.info? 11).isSome = true := by kernel_rfl
attribute [simp] Try.underlying12
@[simp] theorem cells_12 : Try.prog.cellsOf 12 = 1 := by kernel_rfl
@[simp] theorem bytes_12 : Try.prog.bytesOf 12 = 8 := by kernel_rfl
@[simp] theorem zval_12 : zval Try.prog 12 = some (.int .u64 0) := by kernel_rfl
@[simp] theorem aggT_12 : aggT Try.prog 12 = some false := by kernel_rfl
@[simp] theorem info_12 : (Try.prog.info? 12).isSome = true := by kernel_rfl
attribute [simp] Try.underlying13
@[simp] theorem cells_13 : Try.prog.cellsOf 13 = 2 := by kernel_rfl
@[simp] theorem bytes_13 : Try.prog.bytesOf 13 = 24 := by kernel_rfl
@[simp] theorem zval_13 : zval Try.prog 13 = some (.agg [.str ⟨#[]⟩, .int .u64 0]) := by kernel_rfl
@[simp] theorem aggT_13 : aggT Try.prog 13 = some true := by kernel_rfl
@[simp] theorem info_13 : (Try.prog.info? 13).isSome = true := by kernel_rfl
attribute [simp] Try.underlying14
@[simp] theorem cells_14 : Try.prog.cellsOf 14 = 2 := by kernel_rfl
@[simp] theorem bytes_14 : Try.prog.bytesOf 14 = 24 := by kernel_rfl
@[simp] theorem zval_14 : zval Try.prog 14 = some (.agg [.str ⟨#[]⟩, .int .u64 0]) := by kernel_rfl
@[simp] theorem aggT_14 : aggT Try.prog 14 = some true := by kernel_rfl
@[simp] theorem info_14 : (Try.prog.info? 14).isSome = true := by kernel_rfl
attribute [simp] Try.underlying15
@[simp] theorem cells_15 : Try.prog.cellsOf 15 = 1 := by kernel_rfl
@[simp] theorem bytes_15 : Try.prog.bytesOf 15 = 8 := by kernel_rfl
@[simp] theorem zval_15 : zval Try.prog 15 = some (.nilp) := by kernel_rfl
@[simp] theorem aggT_15 : aggT Try.prog 15 = some false := by kernel_rfl
@[simp] theorem info_15 : (Try.prog.info? 15).isSome = true := by kernel_rfl
attribute [simp] Try.underlying16
@[simp] theorem cells_16 : Try.prog.cellsOf 16 = 1 := by kernel_rfl
@[simp] theorem bytes_16 : Try.prog.bytesOf 16 = 8 := by kernel_rfl
@[simp] theorem zval_16 : zval Try.prog 16 = some (.nilp) := by kernel_rfl
@[simp] theorem aggT_16 : aggT Try.prog 16 = some false := by kernel_rfl
@[simp] theorem info_16 : (Try.prog.info? 16).isSome = true := by kernel_rfl
attribute [simp] Try.underlying17
@[simp] theorem cells_17 : Try.prog.cellsOf 17 = 1 := by kernel_rfl
@[simp] theorem bytes_17 : Try.prog.bytesOf 17 = 8 := by kernel_rfl
@[simp] theorem zval_17 : zval Try.prog 17 = some (.nilp) := by kernel_rfl
@[simp] theorem aggT_17 : aggT Try.prog 17 = some false := by kernel_rfl
@[simp] theorem info_17 : (Try.prog.info? 17).isSome = true := by kernel_rfl
attribute [simp] Try.underlying18
@[simp] theorem cells_18 : Try.prog.cellsOf 18 = 1 := by kernel_rfl
@[simp] theorem bytes_18 : Try.prog.bytesOf 18 = 8 := by kernel_rfl
@[simp] theorem zval_18 : zval Try.prog 18 = some (.agg [.nilp]) := by kernel_rfl
@[simp] theorem aggT_18 : aggT Try.prog 18 = some true := by kernel_rfl
@[simp] theorem info_18 : (Try.prog.info? 18).isSome = true := by kernel_rfl
attribute [simp] Try.underlying19
@[simp] theorem cells_19 : Try.prog.cellsOf 19 = 1 := by kernel_rfl
@[simp] theorem bytes_19 : Try.prog.bytesOf 19 = 8 := by kernel_rfl
@[simp] theorem zval_19 : zval Try.prog 19 = some (.agg [.nilp]) := by kernel_rfl
@[simp] theorem aggT_19 : aggT Try.prog 19 = some true := by kernel_rfl
@[simp] theorem info_19 : (Try.prog.info? 19).isSome = true := by kernel_rfl
attribute [simp] Try.underlying20
@[simp] theorem cells_20 : Try.prog.cellsOf 20 = 1 := by kernel_rfl
@[simp] theorem bytes_20 : Try.prog.bytesOf 20 = 16 := by kernel_rfl
@[simp] theorem zval_20 : zval Try.prog 20 = some (.nilif) := by kernel_rfl
@[simp] theorem aggT_20 : aggT Try.prog 20 = some false := by kernel_rfl
@[simp] theorem info_20 : (Try.prog.info? 20).isSome = true := by kernel_rfl
attribute [simp] Try.underlying21
@[simp] theorem cells_21 : Try.prog.cellsOf 21 = 1 := by kernel_rfl
@[simp] theorem bytes_21 : Try.prog.bytesOf 21 = 4 := by kernel_rfl
@[simp] theorem zval_21 : zval Try.prog 21 = some (.int .i32 0) := by kernel_rfl
@[simp] theorem aggT_21 : aggT Try.prog 21 = some false := by kernel_rfl
@[simp] theorem info_21 : (Try.prog.info? 21).isSome = true := by kernel_rfl
attribute [simp] Try.underlying22
@[simp] theorem cells_22 : Try.prog.cellsOf 22 = 1 := by kernel_rfl
@[simp] theorem bytes_22 : Try.prog.bytesOf 22 = 24 := by kernel_rfl
@[simp] theorem zval_22 : zval Try.prog 22 = some (.nils) := by kernel_rfl
@[simp] theorem aggT_22 : aggT Try.prog 22 = some false := by kernel_rfl
@[simp] theorem info_22 : (Try.prog.info? 22).isSome = true := by kernel_rfl
attribute [simp] Try.underlying23
@[simp] theorem cells_23 : Try.prog.cellsOf 23 = 3 := by kernel_rfl
@[simp] theorem bytes_23 : Try.prog.bytesOf 23 = 56 := by kernel_rfl
@[simp] theorem zval_23 : zval Try.prog 23 = some (.agg [.int .i64 0, .nils, .nils]) := by kernel_rfl
@[simp] theorem aggT_23 : aggT Try.prog 23 = some true := by kernel_rfl
@[simp] theorem info_23 : (Try.prog.info? 23).isSome = true := by kernel_rfl
attribute [simp] Try.underlying24
@[simp] theorem cells_24 : Try.prog.cellsOf 24 = 3 := by kernel_rfl
@[simp] theorem bytes_24 : Try.prog.bytesOf 24 = 56 := by kernel_rfl
@[simp] theorem zval_24 : zval Try.prog 24 = some (.agg [.int .i64 0, .nils, .nils]) := by kernel_rfl
@[simp] theorem aggT_24 : aggT Try.prog 24 = some true := by kernel_rfl
@[simp] theorem info_24 : (Try.prog.info? 24).isSome = true := by kernel_rfl
attribute [simp] Try.underlying25
@[simp] theorem cells_25 : Try.prog.cellsOf 25 = 1 := by kernel_rfl
@[simp] theorem bytes_25 : Try.prog.bytesOf 25 = 8 := by kernel_rfl
@[simp] theorem zval_25 : zval Try.prog 25 = some (.int .i64 0) := by kernel_rfl
@[simp] theorem aggT_25 : aggT Try.prog 25 = some false := by kernel_rfl
@[simp] theorem info_25 : (Try.prog.info? 25).isSome = true := by kernel_rfl
attribute [simp] Try.underlying28
@[simp] theorem cells_28 : Try.prog.cellsOf 28 = 1 := by kernel_rfl
@[simp] theorem bytes_28 : Try.prog.bytesOf 28 = 24 := by kernel_rfl
@[simp] theorem zval_28 : zval Try.prog 28 = some (.nils) := by kernel_rfl
@[simp] theorem aggT_28 : aggT Try.prog 28 = some false := by kernel_rfl
@[simp] theorem info_28 : (Try.prog.info? 28).isSome = true := by kernel_rfl
attribute [simp] Try.underlying29
@[simp] theorem cells_29 : Try.prog.cellsOf 29 = 3 := by kernel_rfl
@[simp] theorem bytes_29 : Try.prog.bytesOf 29 = 40 := by kernel_rfl
@[simp] theorem zval_29 : zval Try.prog 29 = some (.agg [.int .i64 0, .int .i64 0, .nils]) := by kernel_rfl
@[simp] theorem aggT_29 : aggT Try.prog 29 = some true := by kernel_rfl
@[simp] theorem info_29 : (Try.prog.info? 29).isSome = true := by kernel_rfl
attribute [simp] Try.underlying30
@[simp] theorem cells_30 : Try.prog.cellsOf 30 = 3 := by kernel_rfl
@[simp] theorem bytes_30 : Try.prog.bytesOf 30 = 40 := by kernel_rfl
@[simp] theorem zval_30 : zval Try.prog 30 = some (.agg [.int .i64 0, .int .i64 0, .nils]) := by kernel_rfl
@[simp] theorem aggT_30 : aggT Try.prog 30 = some true := by kernel_rfl
@[simp] theorem info_30 : (Try.prog.info? 30).isSome = true := by kernel_rfl
attribute [simp] Try.underlying34
@[simp] theorem cells_34 : Try.prog.cellsOf 34 = 1 := by kernel_rfl
@[simp] theorem bytes_34 : Try.prog.bytesOf 34 = 24 := by kernel_rfl
@[simp] theorem zval_34 : zval Try.prog 34 = some (.nils) := by kernel_rfl
@[simp] theorem aggT_34 : aggT Try.prog 34 = some false := by kernel_rfl
@[simp] theorem info_34 : (Try.prog.info? 34).isSome = true := by kernel_rfl
attribute [simp] Try.underlying48
@[simp] theorem cells_48 : Try.prog.cellsOf 48 = 1 := by kernel_rfl
@[simp] theorem bytes_48 : Try.prog.bytesOf 48 = 24 := by kernel_rfl
@[simp] theorem zval_48 : zval Try.prog 48 = some (.nils) := by kernel_rfl
@[simp] theorem aggT_48 : aggT Try.prog 48 = some false := by kernel_rfl
@[simp] theorem info_48 : (Try.prog.info? 48).isSome = true := by kernel_rfl
attribute [simp] Try.underlying56
@[simp] theorem cells_56 : Try.prog.cellsOf 56 = 1 := by kernel_rfl
@[simp] theorem bytes_56 : Try.prog.bytesOf 56 = 8 := by kernel_rfl
@[simp] theorem zval_56 : zval Try.prog 56 = some (.int .u64 0) := by kernel_rfl
@[simp] theorem aggT_56 : aggT Try.prog 56 = some false := by kernel_rfl
@[simp] theorem info_56 : (Try.prog.info? 56).isSome = true := by kernel_rfl
attribute [simp] Try.underlying61
@[simp] theorem cells_61 : Try.prog.cellsOf 61 = 1 := by kernel_rfl
@[simp] theorem bytes_61 : Try.prog.bytesOf 61 = 8 := by kernel_rfl
@[simp] theorem zval_61 : zval Try.prog 61 = some (.nilf) := by kernel_rfl
@[simp] theorem aggT_61 : aggT Try.prog 61 = some false := by kernel_rfl
@[simp] theorem info_61 : (Try.prog.info? 61).isSome = true := by kernel_rfl
attribute [simp] Try.underlying64
@[simp] theorem cells_64 : Try.prog.cellsOf 64 = 1 := by kernel_rfl
@[simp] theorem bytes_64 : Try.prog.bytesOf 64 = 4 := by kernel_rfl
@[simp] theorem zval_64 : zval Try.prog 64 = some (.int .u32 0) := by kernel_rfl
@[simp] theorem aggT_64 : aggT Try.prog 64 = some false := by kernel_rfl
@[simp] theorem info_64 : (Try.prog.info? 64).isSome = true := by kernel_rfl
attribute [simp] Try.underlying70
@[simp] theorem cells_70 : Try.prog.cellsOf 70 = 64 := by kernel_rfl
@[simp] theorem bytes_70 : Try.prog.bytesOf 70 = 512 := by kernel_rfl
@[simp] theorem zval_70 : zval Try.prog 70 = some (.agg [.int .i64 0, .int .i64 0, .int .i64 0, .int .i64 0, .int .i64 0, .int .i64 0, .int .i64 0, .int .i64 0, .int .i64 0, .int .i64 0, .int .i64 0, .int .i64 0, .int .i64 0, .int .i64 0, .int .i64 0, .int .i64 0, .int .i64 0, .int .i64 0, .int .i64 0, .int .i64 0, .int .i64 0, .int .i64 0, .int .i64 0, .int .i64 0, .int .i64 0, .int .i64 0, .int .i64 0, .int .i64 0, .int .i64 0, .int .i64 0, .int .i64 0, .int .i64 0, .int .i64 0, .int .i64 0, .int .i64 0, .int .i64 0, .int .i64 0, .int .i64 0, .int .i64 0, .int .i64 0, .int .i64 0, .int .i64 0, .int .i64 0, .int .i64 0, .int .i64 0, .int .i64 0, .int .i64 0, .int .i64 0, .int .i64 0, .int .i64 0, .int .i64 0, .int .i64 0, .int .i64 0, .int .i64 0, .int .i64 0, .int .i64 0, .int .i64 0, .int .i64 0, .int .i64 0, .int .i64 0, .int .i64 0, .int .i64 0, .int .i64 0, .int .i64 0]) := by kernel_rfl
@[simp] theorem aggT_70 : aggT Try.prog 70 = some true := by kernel_rfl
@[simp] theorem info_70 : (Try.prog.info? 70).isSome = true := by kernel_rfl
attribute [simp] Try.underlying71
@[simp] theorem cells_71 : Try.prog.cellsOf 71 = 64 := by kernel_rfl
@[simp] theorem bytes_71 : Try.prog.bytesOf 71 = 512 := by kernel_rfl
@[simp] theorem zval_71 : zval Try.prog 71 = some (.agg [.int .i64 0, .int .i64 0, .int .i64 0, .int .i64 0, .int .i64 0, .int .i64 0, .int .i64 0, .int .i64 0, .int .i64 0, .int .i64 0, .int .i64 0, .int .i64 0, .int .i64 0, .int .i64 0, .int .i64 0, .int .i64 0, .int .i64 0, .int .i64 0, .int .i64 0, .int .i64 0, .int .i64 0, .int .i64 0, .int .i64 0, .int .i64 0, .int .i64 0, .int .i64 0, .int .i64 0, .int .i64 0, .int .i64 0, .int .i64 0, .int .i64 0, .int .i64 0, .int .i64 0, .int .i64 0, .int .i64 0, .int .i64 0, .int .i64 0, .int .i64 0, .int .i64 0, .int .i64 0, .int .i64 0, .int .i64 0, .int .i64 0, .int .i64 0, .int .i64 0, .int .i64 0, .int .i64 0, .int .i64 0, .int .i64 0, .int .i64 0, .int .i64 0, .int .i64 0, .int .i64 0, .int .i64 0, .int .i64 0, .int .i64 0, .int .i64 0, .int .i64 0, .int .i64 0, .int .i64 0, .int .i64 0, .int .i64 0, .int .i64 0, .int .i64 0]) := by kernel_rfl
@[simp] theorem aggT_71 : aggT Try.prog 71 = some true := by kernel_rfl
@[simp] theorem info_71 : (Try.prog.info? 71).isSome = true := by kernel_rfl
attribute [simp] Try.underlying79
@[simp] theorem cells_79 : Try.prog.cellsOf 79 = 1 := by kernel_rfl
@[simp] theorem bytes_79 : Try.prog.bytesOf 79 = 8 := by kernel_rfl
@[simp] theorem zval_79 : zval Try.prog 79 = some (.nilp) := by kernel_rfl
@[simp] theorem aggT_79 : aggT Try.prog 79 = some false := by kernel_rfl
@[simp] theorem info_79 : (Try.prog.info? 79).isSome = true := by kernel_rfl
attribute [simp] Try.underlying81
@[simp] theorem cells_81 : Try.prog.cellsOf 81 = 1 := by kernel_rfl
@[simp] theorem bytes_81 : Try.prog.bytesOf 81 = 8 := by kernel_rfl
@[simp] theorem zval_81 : zval Try.prog 81 = some (.nilp) := by kernel_rfl
@[simp] theorem aggT_81 : aggT Try.prog 81 = some false := by kernel_rfl
@[simp] theorem info_81 : (Try.prog.info? 81).isSome = true := by kernel_rfl
attribute [simp] Try.underlying82
@[simp] theorem cells_82 : Try.prog.cellsOf 82 = 2 := by kernel_rfl
@[simp] theorem bytes_82 : Try.prog.bytesOf 82 = 32 := by kernel_rfl
@[simp] theorem zval_82 : zval Try.prog 82 = some (.agg [.nils, .int .i64 0]) := by kernel_rfl
@[simp] theorem aggT_82 : aggT Try.prog 82 = some true := by kernel_rfl
@[simp] theorem info_82 : (Try.prog.info? 82).isSome = true := by kernel_rfl
attribute [simp] Try.underlying83
@[simp] theorem cells_83 : Try.prog.cellsOf 83 = 2 := by kernel_rfl
@[simp] theorem bytes_83 : Try.prog.bytesOf 83 = 32 := by kernel_rfl
@[simp] theorem zval_83 : zval Try.prog 83 = some (.agg [.nils, .int .i64 0]) := by kernel_rfl
@[simp] theorem aggT_83 : aggT Try.prog 83 = some true := by kernel_rfl
@[simp] theorem info_83 : (Try.prog.info? 83).isSome = true := by kernel_rfl
attribute [simp] Try.underlying91
@[simp] theorem cells_91 : Try.prog.cellsOf 91 = 3 := by kernel_rfl
@[simp] theorem bytes_91 : Try.prog.bytesOf 91 = 40 := by kernel_rfl
@[simp] theorem zval_91 : zval Try.prog 91 = some (.agg [.int .i64 0, .int .i64 0, .nils]) := by kernel_rfl
@[simp] theorem aggT_91 : aggT Try.prog 91 = some true := by kernel_rfl
@[simp] theorem info_91 : (Try.prog.info? 91).isSome = true := by kernel_rfl
attribute [simp] Try.underlying92
@[simp] theorem cells_92 : Try.prog.cellsOf 92 = 3 := by kernel_rfl
@[simp] theorem bytes_92 : Try.prog.bytesOf 92 = 40 := by kernel_rfl
@[simp] theorem zval_92 : zval Try.prog 92 = some (.agg [.int .i64 0, .int .i64 0, .nils]) := by kernel_rfl
@[simp] theorem aggT_92 : aggT Try.prog 92 = some true := by kernel_rfl
@[simp] theorem info_92 : (Try.prog.info? 92).isSome = true := by kernel_rfl
attribute [simp] Try.underlying97
@[simp] theorem cells_97 : Try.prog.cellsOf 97 = 1 := by kernel_rfl
@[simp] theorem bytes_97 : Try.prog.bytesOf 97 = 2 := by kernel_rfl
@[simp] theorem zval_97 : zval Try.prog 97 = some (.int .u16 0) := by kernel_rfl
@[simp] theorem aggT_97 : aggT Try.prog 97 = some false := by kernel_rfl
@[simp] theorem info_97 : (Try.prog.info? 97).isSome = true := by kernel_rfl
attribute [simp] Try.underlying98
@[simp] theorem cells_98 : Try.prog.cellsOf 98 = 1 := by kernel_rfl
@[simp] theorem bytes_98 : Try.prog.bytesOf 98 = 8 := by kernel_rfl
@[simp] theorem zval_98 : zval Try.prog 98 = some (.int .u64 0) := by kernel_rfl
@[simp] theorem aggT_98 : aggT Try.prog 98 = some false := by kernel_rfl
@[simp] theorem info_98 : (Try.prog.info? 98).isSome = true := by kernel_rfl
attribute [simp] Try.underlying100
@[simp] theorem cells_100 : Try.prog.cellsOf 100 = 3 := by kernel_rfl
@[simp] theorem bytes_100 : Try.prog.bytesOf 100 = 24 := by kernel_rfl
@[simp] theorem zval_100 : zval Try.prog 100 = some (.agg [.int .i64 0, .int .i64 0, .int .i64 0]) := by kernel_rfl
@[simp] theorem aggT_100 : aggT Try.prog 100 = some true := by kernel_rfl
@[simp] theorem info_100 : (Try.prog.info? 100).isSome = true := by kernel_rfl
attribute [simp] Try.underlying101
@[simp] theorem cells_101 : Try.prog.cellsOf 101 = 3 := by kernel_rfl
@[simp] theorem bytes_101 : Try.prog.bytesOf 101 = 24 := by kernel_rfl
@[simp] theorem zval_101 : zval Try.prog 101 = some (.agg [.int .i64 0, .int .i64 0, .int .i64 0]) := by kernel_rfl
@[simp] theorem aggT_101 : aggT Try.prog 101 = some true := by kernel_rfl
@[simp] theorem info_101 : (Try.prog.info? 101).isSome = true := by kernel_rfl
attribute [simp] Try.underlying104
@[simp] theorem cells_104 : Try.prog.cellsOf 104 = 1 := by kernel_rfl
@[simp] theorem bytes_104 : Try.prog.bytesOf 104 = 16 := by kernel_rfl
@[simp] theorem zval_104 : zval Try.prog 104 = some (.nilif) := by kernel_rfl
@[simp] theorem aggT_104 : aggT Try.prog 104 = some false := by kernel_rfl
@[simp] theorem info_104 : (Try.prog.info? 104).isSome = true := by kernel_rfl
attribute [simp] Try.underlying105
@[simp] theorem cells_105 : Try.prog.cellsOf 105 = 1 := by kernel_rfl
@[simp] theorem bytes_105 : Try.prog.bytesOf 105 = 16 := by kernel_rfl
@[simp] theorem zval_105 : zval Try.prog 105 = some (.nilif) := by kernel_rfl
@[simp] theorem aggT_105 : aggT Try.prog 105 = some false := by kernel_rfl
@[simp] theorem info_105 : (Try.prog.info? 105).isSome = true := by kernel_rfl
attribute [simp] Try.underlying107
@[simp] theorem cells_107 : Try.prog.cellsOf 107 = 6 := by kernel_rfl
@[simp] theorem bytes_107 : Try.prog.bytesOf 107 = 80 := by kernel_rfl
@[simp] theorem zval_107 : zval Try.prog 107 = some (.agg [.int .i64 0, .int .i64 0, .nils, .int .i64 0, .int .i64 0, .nils]) := by kernel_rfl
@[simp] theorem aggT_107 : aggT Try.prog 107 = some true := by kernel_rfl
@[simp] theorem info_107 : (Try.prog.info? 107).isSome = true := by kernel_rfl
attribute [simp] Try.underlying108
@[simp] theorem cells_108 : Try.prog.cellsOf 108 = 6 := by kernel_rfl
@[simp] theorem bytes_108 : Try.prog.bytesOf 108 = 80 := by kernel_rfl
@[simp] theorem zval_108 : zval Try.prog 108 = some (.agg [.int .i64 0, .int .i64 0, .nils, .int .i64 0, .int .i64 0, .nils]) := by kernel_rfl
@[simp] theorem aggT_108 : aggT Try.prog 108 = some true := by kernel_rfl
@[simp] theorem info_108 : (Try.prog.info? 108).isSome = true := by kernel_rfl
attribute [simp] Try.underlying110
@[simp] theorem cells_110 : Try.prog.cellsOf 110 = 6 := by kernel_rfl
@[simp] theorem bytes_110 : Try.prog.bytesOf 110 = 80 := by kernel_rfl
@[simp] theorem zval_110 : zval Try.prog 110 = some (.agg [.int .i64 0, .int .i64 0, .nils, .int .i64 0, .int .i64 0, .nils]) := by kernel_rfl
@[simp] theorem aggT_110 : aggT Try.prog 110 = some true := by kernel_rfl
@[simp] theorem info_110 : (Try.prog.info? 110).isSome = true := by kernel_rfl
attribute [simp] Try.underlying111
@[simp] theorem cells_111 : Try.prog.cellsOf 111 = 4 := by kernel_rfl
@[simp] theorem bytes_111 : Try.prog.bytesOf 111 = 48 := by kernel_rfl
@[simp] theorem zval_111 : zval Try.prog 111 = some (.agg [.int .i64 0, .int .i64 0, .int .i64 0, .nils]) := by kernel_rfl
@[simp] theorem aggT_111 : aggT Try.prog 111 = some true := by kernel_rfl
@[simp] theorem info_111 : (Try.prog.info? 111).isSome = true := by kernel_rfl
attribute [simp] Try.underlying112
@[simp] theorem cells_112 : Try.prog.cellsOf 112 = 4 := by kernel_rfl
@[simp] theorem bytes_112 : Try.prog.bytesOf 112 = 48 := by kernel_rfl
@[simp] theorem zval_112 : zval Try.prog 112 = some (.agg [.int .i64 0, .int .i64 0, .int .i64 0, .nils]) := by kernel_rfl
@[simp] theorem aggT_112 : aggT Try.prog 112 = some true := by kernel_rfl
@[simp] theorem info_112 : (Try.prog.info? 112).isSome = true := by kernel_rfl
attribute [simp] Try.underlying127
@[simp] theorem cells_127 : Try.prog.cellsOf 127 = 4 := by kernel_rfl
@[simp] theorem bytes_127 : Try.prog.bytesOf 127 = 40 := by kernel_rfl
@[simp] theorem zval_127 : zval Try.prog 127 = some (.agg [.nilp, .nilp, .nilp, .str ⟨#[]⟩]) := by kernel_rfl
@[simp] theorem aggT_127 : aggT Try.prog 127 = some true := by kernel_rfl
@[simp] theorem info_127 : (Try.prog.info? 127).isSome = true := by kernel_rfl
attribute [simp] Try.underlying128
@[simp] theorem cells_128 : Try.prog.cellsOf 128 = 4 := by kernel_rfl
@[simp] theorem bytes_128 : Try.prog.bytesOf 128 = 40 := by kernel_rfl
@[simp] theorem zval_128 : zval Try.prog 128 = some (.agg [.nilp, .nilp, .nilp, .str ⟨#[]⟩]) := by kernel_rfl
@[simp] theorem aggT_128 : aggT Try.prog 128 = some true := by kernel_rfl
@[simp] theorem info_128 : (Try.prog.info? 128).isSome = true := by kernel_rfl
attribute [simp] Try.underlying129
@[simp] theorem cells_129 : Try.prog.cellsOf 129 = 0 := by kernel_rfl
@[simp] theorem bytes_129 : Try.prog.bytesOf 129 = 0 := by kernel_rfl
@[simp] theorem zval_129 : zval Try.prog 129 = some (.agg []) := by kernel_rfl
@[simp] theorem aggT_129 : aggT Try.prog 129 = some true := by kernel_rfl
@[simp] theorem info_129 : (Try.prog.info? 129).isSome = true := by kernel_rfl
attribute [simp] Try.underlying130
@[simp] theorem cells_130 : Try.prog.cellsOf 130 = 0 := by kernel_rfl
@[simp] theorem bytes_130 : Try.prog.bytesOf 130 = 0 := by kernel_rfl
@[simp] theorem zval_130 : zval Try.prog 130 = some (.agg []) := by kernel_rfl
@[simp] theorem aggT_130 : aggT Try.prog 130 = some true := by kernel_rfl
@[simp] theorem info_130 : (Try.prog.info? 130).isSome = true := by kernel_rfl
attribute [simp] Try.underlying131
@[simp] theorem cells_131 : Try.prog.cellsOf 131 = 0 := by kernel_rfl
@[simp] theorem bytes_131 : Try.prog.bytesOf 131 = 0 := by kernel_rfl
@[simp] theorem zval_131 : zval Try.prog 131 = some (.agg []) := by kernel_rfl
@[simp] theorem aggT_131 : aggT Try.prog 131 = some true := by kernel_rfl
@[simp] theorem info_131 : (Try.prog.info? 131).isSome = true := by kernel_rfl
attribute [simp] Try.underlying133
@[simp] theorem cells_133 : Try.prog.cellsOf 133 = 1 := by kernel_rfl
@[simp] theorem bytes_133 : Try.prog.bytesOf 133 = 1 := by kernel_rfl
@[simp] theorem zval_133 : zval Try.prog 133 = some (.int .u8 0) := by kernel_rfl
@[simp] theorem aggT_133 : aggT Try.prog 133 = some false := by kernel_rfl
@[simp] theorem info_133 : (Try.prog.info? 133).isSome = true := by kernel_rfl
attribute [simp] Try.underlying134
@[simp] theorem cells_134 : Try.prog.cellsOf 134 = 1 := by kernel_rfl
@[simp] theorem bytes_134 : Try.prog.bytesOf 134 = 1 := by kernel_rfl
@[simp] theorem zval_134 : zval Try.prog 134 = some (.int .u8 0) := by kernel_rfl
@[simp] theorem aggT_134 : aggT Try.prog 134 = some false := by kernel_rfl
@[simp] theorem info_134 : (Try.prog.info? 134).isSome = true := by kernel_rfl
attribute [simp] Try.underlying136
@[simp] theorem cells_136 : Try.prog.cellsOf 136 = 1 := by kernel_rfl
@[simp] theorem bytes_136 : Try.prog.bytesOf 136 = 8 := by kernel_rfl
@[simp] theorem zval_136 : zval Try.prog 136 = some (.nilp) := by kernel_rfl
@[simp] theorem aggT_136 : aggT Try.prog 136 = some false := by kernel_rfl
@[simp] theorem info_136 : (Try.prog.info? 136).isSome = true := by kernel_rfl
attribute [simp] Try.underlying137
@[simp] theorem cells_137 : Try.prog.cellsOf 137 = 1 := by kernel_rfl
@[simp] theorem bytes_137 : Try.prog.bytesOf 137 = 4 := by kernel_rfl
@[simp] theorem zval_137 : zval Try.prog 137 = some (.int .i32 0) := by kernel_rfl
@[simp] theorem aggT_137 : aggT Try.prog 137 = some false := by kernel_rfl
@[simp] theorem info_137 : (Try.prog.info? 137).isSome = true := by kernel_rfl
attribute [simp] Try.underlying138
@[simp] theorem cells_138 : Try.prog.cellsOf 138 = 1 := by kernel_rfl
@[simp] theorem bytes_138 : Try.prog.bytesOf 138 = 4 := by kernel_rfl
@[simp] theorem zval_138 : zval Try.prog 138 = some (.int .i32 0) := by kernel_rfl
@[simp] theorem aggT_138 : aggT Try.prog 138 = some false := by kernel_rfl
@[simp] theorem info_138 : (Try.prog.info? 138).isSome = true := by kernel_rfl
attribute [simp] Try.underlying139
@[simp] theorem cells_139 : Try.prog.cellsOf 139 = 11 := by kernel_rfl
@[simp] theorem bytes_139 : Try.prog.bytesOf 139 = 48 := by kernel_rfl
@[simp] theorem zval_139 : zval Try.prog 139 = some (.agg [.int .u64 0, .int .u64 0, .int .u32 0, .int .u8 0, .int .u8 0, .int .u8 0, .int .u8 0, .nilf, .nilp, .int .i32 0, .int .i32 0]) := by kernel_rfl
@[simp] theorem aggT_139 : aggT Try.prog 139 = some true := by kernel_rfl
@[simp] theorem info_139 : (Try.prog.info? 139).isSome = true := by kernel_rfl
attribute [simp] Try.underlying140
@[simp] theorem cells_140 : Try.prog.cellsOf 140 = 11 := by kernel_rfl
@[simp] theorem bytes_140 : Try.prog.bytesOf 140 = 48 := by kernel_rfl
@[simp] theorem zval_140 : zval Try.prog 140 = some (.agg [.int .u64 0, .int .u64 0, .int .u32 0, .int .u8 0, .int .u8 0, .int .u8 0, .int .u8 0, .nilf, .nilp, .int .i32 0, .int .i32 0]) := by kernel_rfl
@[simp] theorem aggT_140 : aggT Try.prog 140 = some true := by kernel_rfl
@[simp] theorem info_140 : (Try.prog.info? 140).isSome = true := by kernel_rfl
attribute [simp] Try.underlying142
@[simp] theorem cells_142 : Try.prog.cellsOf 142 = 1 := by kernel_rfl
@[simp] theorem bytes_142 : Try.prog.bytesOf 142 = 8 := by kernel_rfl
@[simp] theorem zval_142 : zval Try.prog 142 = some (.nilp) := by kernel_rfl
@[simp] theorem aggT_142 : aggT Try.prog 142 = some false := by kernel_rfl
@[simp] theorem info_142 : (Try.prog.info? 142).isSome = true := by kernel_rfl
theorem mixed : Try.prog.follows .mixedOrders = true := by kernel_rfl
end Go.Proofs.Ytjjagophlcminaa.Ax
