/- Facts on the types of the translation, for simp; by program. -/
import Derived.Test.YtdpphpdjimmpbaaAxN
import Derived.Test.YtdpphpdjimmpbaaProg
import Derived.KernelRfl
set_option linter.unusedSimpArgs false
set_option maxRecDepth 20000
namespace Go.Proofs.Ytdpphpdjimmpbaa.Ax
open Go Go.Proofs

attribute [simp] Try.underlying1
@[simp] theorem cells_1 : Try.prog.cellsOf 1 = 1 := by kernel_rfl
@[simp] theorem bytes_1 : Try.prog.bytesOf 1 = 8 := by kernel_rfl
@[simp] theorem zval_1 : zval Try.prog 1 = some (.nilf) := by kernel_rfl
@[simp] theorem aggT_1 : aggT Try.prog 1 = some false := by kernel_rfl
@[simp] theorem info_1 : (Try.prog.info? 1).isSome = true := by kernel_rfl
attribute [simp] Try.underlying2
@[simp] theorem cells_2 : Try.prog.cellsOf 2 = 1 := by kernel_rfl
@[simp] theorem bytes_2 : Try.prog.bytesOf 2 = 8 := by kernel_rfl
@[simp] theorem zval_2 : zval Try.prog 2 = some (.int .i64 0) := by kernel_rfl
@[simp] theorem aggT_2 : aggT Try.prog 2 = some false := by kernel_rfl
@[simp] theorem info_2 : (Try.prog.info? 2).isSome = true := by kernel_rfl
attribute [simp] Try.underlying3
@[simp] theorem cells_3 : Try.prog.cellsOf 3 = 1 := by kernel_rfl
@[simp] theorem bytes_3 : Try.prog.bytesOf 3 = 8 := by kernel_rfl
@[simp] theorem zval_3 : zval Try.prog 3 = some (.int .i64 0) := by kernel_rfl
@[simp] theorem aggT_3 : aggT Try.prog 3 = some false := by kernel_rfl
@[simp] theorem info_3 : (Try.prog.info? 3).isSome = true := by kernel_rfl
attribute [simp] Try.underlying4
@[simp] theorem cells_4 : Try.prog.cellsOf 4 = 1 := by kernel_rfl
@[simp] theorem bytes_4 : Try.prog.bytesOf 4 = 1 := by kernel_rfl
@[simp] theorem zval_4 : zval Try.prog 4 = some (.bool false) := by kernel_rfl
@[simp] theorem aggT_4 : aggT Try.prog 4 = some false := by kernel_rfl
@[simp] theorem info_4 : (Try.prog.info? 4).isSome = true := by kernel_rfl
attribute [simp] Try.underlying5
@[simp] theorem cells_5 : Try.prog.cellsOf 5 = 1 := by kernel_rfl
@[simp] theorem bytes_5 : Try.prog.bytesOf 5 = 1 := by kernel_rfl
@[simp] theorem zval_5 : zval Try.prog 5 = some (.int .u8 0) := by kernel_rfl
@[simp] theorem aggT_5 : aggT Try.prog 5 = some false := by kernel_rfl
@[simp] theorem info_5 : (Try.prog.info? 5).isSome = true := by kernel_rfl
attribute [simp] Try.underlying6
@[simp] theorem cells_6 : Try.prog.cellsOf 6 = 1 := by kernel_rfl
@[simp] theorem bytes_6 : Try.prog.bytesOf 6 = 1 := by kernel_rfl
@[simp] theorem zval_6 : zval Try.prog 6 = some (.int .u8 0) := by kernel_rfl
@[simp] theorem aggT_6 : aggT Try.prog 6 = some false := by kernel_rfl
@[simp] theorem info_6 : (Try.prog.info? 6).isSome = true := by kernel_rfl
attribute [simp] Try.underlying7
@[simp] theorem cells_7 : Try.prog.cellsOf 7 = 4 := by kernel_rfl
@[simp] theorem bytes_7 : Try.prog.bytesOf 7 = 24 := by kernel_rfl
@[simp] theorem zval_7 : zval Try.prog 7 = some (.agg [.int .i64 0, .int .i64 0, .bool false, .int .u8 0]) := by kernel_rfl
@[simp] theorem aggT_7 : aggT Try.prog 7 = some true := by kernel_rfl
@[simp] theorem info_7 : (Try.prog.info? 7).isSome = true := by kernel_rfl
attribute [simp] Try.underlying8
@[simp] theorem cells_8 : Try.prog.cellsOf 8 = 4 := by kernel_rfl
@[simp] theorem bytes_8 : Try.prog.bytesOf 8 = 24 := by kernel_rfl
@[simp] theorem zval_8 : zval Try.prog 8 = some (.agg [.int .i64 0, .int .i64 0, .bool false, .int .u8 0]) := by kernel_rfl
@[simp] theorem aggT_8 : aggT Try.prog 8 = some true := by kernel_rfl
@[simp] theorem info_8 : (Try.prog.info? 8).isSome = true := by kernel_rfl
attribute [simp] Try.underlying9
@[simp] theorem cells_9 : Try.prog.cellsOf 9 = 1 := by kernel_rfl
@[simp] theorem bytes_9 : Try.prog.bytesOf 9 = 16 := by kernel_rfl
@[simp] theorem zval_9 : zval Try.prog 9 = some (.str ⟨#[]⟩) := by kernel_rfl
@[simp] theorem aggT_9 : aggT Try.prog 9 = some false := by kernel_rfl
@[simp] theorem info_9 : (Try.prog.info? 9).isSome = true := by kernel_rfl
attribute [simp] Try.underlying10
@[simp] theorem cells_10 : Try.prog.cellsOf 10 = 1 := by kernel_rfl
@[simp] theorem bytes_10 : Try.prog.bytesOf 10 = 16 := by kernel_rfl
@[simp] theorem zval_10 : zval Try.prog 10 = some (.str ⟨#[]⟩) := by kernel_rfl
@[simp] theorem aggT_10 : aggT Try.prog 10 = some false := by kernel_rfl
@[simp] theorem info_10 : (Try.prog.info? 10).isSome = true := by kernel_rfl
attribute [simp] Try.underlying11
@[simp] theorem cells_11 : Try.prog.cellsOf 11 = 1 := by kernel_rfl
@[simp] theorem bytes_11 : Try.prog.bytesOf 11 = 16 := by kernel_rfl
@[simp] theorem zval_11 : zval Try.prog 11 = some (.str ⟨#[]⟩) := by kernel_rfl
@[simp] theorem aggT_11 : aggT Try.prog 11 = some false := by kernel_rfl
@[simp] theorem info_11 : (Try.prog.info? 11).isSome = true := by kernel_rfl
attribute [simp] Try.underlying12
@[simp] theorem cells_12 : Try.prog.cellsOf 12 = 1 := by kernel_rfl
@[simp] theorem bytes_12 : Try.prog.bytesOf 12 = 8 := by kernel_rfl
@[simp] theorem zval_12 : zval Try.prog 12 = some (.int .u64 0) := by kernel_rfl
@[simp] theorem aggT_12 : aggT Try.prog 12 = some false := by kernel_rfl
@[simp] theorem info_12 : (Try.prog.info? 12).isSome = true := by kernel_rfl
attribute [simp] Try.underlying13
@[simp] theorem cells_13 : Try.prog.cellsOf 13 = 2 := by kernel_rfl
@[simp] theorem bytes_13 : Try.prog.bytesOf 13 = 24 := by kernel_rfl
@[simp] theorem zval_13 : zval Try.prog 13 = some (.agg [.str ⟨#[]⟩, .int .u64 0]) := by kernel_rfl
@[simp] theorem aggT_13 : aggT Try.prog 13 = some true := by kernel_rfl
@[simp] theorem info_13 : (Try.prog.info? 13).isSome = true := by kernel_rfl
attribute [simp] Try.underlying14
@[simp] theorem cells_14 : Try.prog.cellsOf 14 = 2 := by kernel_rfl
@[simp] theorem bytes_14 : Try.prog.bytesOf 14 = 24 := by kernel_rfl
@[simp] theorem zval_14 : zval Try.prog 14 = some (.agg [.str ⟨#[]⟩, .int .u64 0]) := by kernel_rfl
@[simp] theorem aggT_14 : aggT Try.prog 14 = some true := by kernel_rfl
@[simp] theorem info_14 : (Try.prog.info? 14).isSome = true := by kernel_rfl
attribute [simp] Try.underlying15
@[simp] theorem cells_15 : Try.prog.cellsOf 15 = 1 := by kernel_rfl
@[simp] theorem bytes_15 : Try.prog.bytesOf 15 = 8 := by kernel_rfl
@[simp] theorem zval_15 : zval Try.prog 15 = some (.nilp) := by kernel_rfl
@[simp] theorem aggT_15 : aggT Try.prog 15 = some false := by kernel_rfl
@[simp] theorem info_15 : (Try.prog.info? 15).isSome = true := by kernel_rfl
attribute [simp] Try.underlying16
@[simp] theorem cells_16 : Try.prog.cellsOf 16 = 1 := by kernel_rfl
@[simp] theorem bytes_16 : Try.prog.bytesOf 16 = 8 := by kernel_rfl
@[simp] theorem zval_16 : zval Try.prog 16 = some (.nilp) := by kernel_rfl
@[simp] theorem aggT_16 : aggT Try.prog 16 = some false := by kernel_rfl
@[simp] theorem info_16 : (Try.prog.info? 16).isSome = true := by kernel_rfl
attribute [simp] Try.underlying17
@[simp] theorem cells_17 : Try.prog.cellsOf 17 = 1 := by kernel_rfl
@[simp] theorem bytes_17 : Try.prog.bytesOf 17 = 8 := by kernel_rfl
@[simp] theorem zval_17 : zval Try.prog 17 = some (.nilp) := by kernel_rfl
@[simp] theorem aggT_17 : aggT Try.prog 17 = some false := by kernel_rfl
@[simp] theorem info_17 : (Try.prog.info? 17).isSome = true := by kernel_rfl
attribute [simp] Try.underlying18
@[simp] theorem cells_18 : Try.prog.cellsOf 18 = 1 := by kernel_rfl
@[simp] theorem bytes_18 : Try.prog.bytesOf 18 = 8 := by kernel_rfl
@[simp] theorem zval_18 : zval Try.prog 18 = some (.agg [.nilp]) := by kernel_rfl
@[simp] theorem aggT_18 : aggT Try.prog 18 = some true := by kernel_rfl
@[simp] theorem info_18 : (Try.prog.info? 18).isSome = true := by kernel_rfl
attribute [simp] Try.underlying19
@[simp] theorem cells_19 : Try.prog.cellsOf 19 = 1 := by kernel_rfl
@[simp] theorem bytes_19 : Try.prog.bytesOf 19 = 8 := by kernel_rfl
@[simp] theorem zval_19 : zval Try.prog 19 = some (.agg [.nilp]) := by kernel_rfl
@[simp] theorem aggT_19 : aggT Try.prog 19 = some true := by kernel_rfl
@[simp] theorem info_19 : (Try.prog.info? 19).isSome = true := by kernel_rfl
attribute [simp] Try.underlying20
@[simp] theorem cells_20 : Try.prog.cellsOf 20 = 1 := by kernel_rfl
@[simp] theorem bytes_20 : Try.prog.bytesOf 20 = 16 := by kernel_rfl
@[simp] theorem zval_20 : zval Try.prog 20 = some (.nilif) := by kernel_rfl
@[simp] theorem aggT_20 : aggT Try.prog 20 = some false := by kernel_rfl
@[simp] theorem info_20 : (Try.prog.info? 20).isSome = true := by kernel_rfl
attribute [simp] Try.underlying21
@[simp] theorem cells_21 : Try.prog.cellsOf 21 = 1 := by kernel_rfl
@[simp] theorem bytes_21 : Try.prog.bytesOf 21 = 4 := by kernel_rfl
@[simp] theorem zval_21 : zval Try.prog 21 = some (.int .i32 0) := by kernel_rfl
@[simp] theorem aggT_21 : aggT Try.prog 21 = some false := by kernel_rfl
@[simp] theorem info_21 : (Try.prog.info? 21).isSome = true := by kernel_rfl
attribute [simp] Try.underlying22
@[simp] theorem cells_22 : Try.prog.cellsOf 22 = 1 := by kernel_rfl
@[simp] theorem bytes_22 : Try.prog.bytesOf 22 = 24 := by kernel_rfl
@[simp] theorem zval_22 : zval Try.prog 22 = some (.nils) := by kernel_rfl
@[simp] theorem aggT_22 : aggT Try.prog 22 = some false := by kernel_rfl
@[simp] theorem info_22 : (Try.prog.info? 22).isSome = true := by kernel_rfl
attribute [simp] Try.underlying23
@[simp] theorem cells_23 : Try.prog.cellsOf 23 = 3 := by kernel_rfl
@[simp] theorem bytes_23 : Try.prog.bytesOf 23 = 56 := by kernel_rfl
@[simp] theorem zval_23 : zval Try.prog 23 = some (.agg [.int .i64 0, .nils, .nils]) := by kernel_rfl
@[simp] theorem aggT_23 : aggT Try.prog 23 = some true := by kernel_rfl
@[simp] theorem info_23 : (Try.prog.info? 23).isSome = true := by kernel_rfl
attribute [simp] Try.underlying24
@[simp] theorem cells_24 : Try.prog.cellsOf 24 = 3 := by kernel_rfl
@[simp] theorem bytes_24 : Try.prog.bytesOf 24 = 56 := by kernel_rfl
@[simp] theorem zval_24 : zval Try.prog 24 = some (.agg [.int .i64 0, .nils, .nils]) := by kernel_rfl
@[simp] theorem aggT_24 : aggT Try.prog 24 = some true := by kernel_rfl
@[simp] theorem info_24 : (Try.prog.info? 24).isSome = true := by kernel_rfl
attribute [simp] Try.underlying25
@[simp] theorem cells_25 : Try.prog.cellsOf 25 = 1 := by kernel_rfl
@[simp] theorem bytes_25 : Try.prog.bytesOf 25 = 24 := by kernel_rfl
@[simp] theorem zval_25 : zval Try.prog 25 = some (.nils) := by kernel_rfl
@[simp] theorem aggT_25 : aggT Try.prog 25 = some false := by kernel_rfl
@[simp] theorem info_25 : (Try.prog.info? 25).isSome = true := by kernel_rfl
attribute [simp] Try.underlying26
@[simp] theorem cells_26 : Try.prog.cellsOf 26 = 3 := by kernel_rfl
@[simp] theorem bytes_26 : Try.prog.bytesOf 26 = 40 := by kernel_rfl
@[simp] theorem zval_26 : zval Try.prog 26 = some (.agg [.int .i64 0, .int .i64 0, .nils]) := by kernel_rfl
@[simp] theorem aggT_26 : aggT Try.prog 26 = some true := by kernel_rfl
@[simp] theorem info_26 : (Try.prog.info? 26).isSome = true := by kernel_rfl
attribute [simp] Try.underlying27
@[simp] theorem cells_27 : Try.prog.cellsOf 27 = 3 := by kernel_rfl
@[simp] theorem bytes_27 : Try.prog.bytesOf 27 = 40 := by kernel_rfl
@[simp] theorem zval_27 : zval Try.prog 27 = some (.agg [.int .i64 0, .int .i64 0, .nils]) := by kernel_rfl
@[simp] theorem aggT_27 : aggT Try.prog 27 = some true := by kernel_rfl
@[simp] theorem info_27 : (Try.prog.info? 27).isSome = true := by kernel_rfl
attribute [simp] Try.underlying28
@[simp] theorem cells_28 : Try.prog.cellsOf 28 = 1 := by kernel_rfl
@[simp] theorem bytes_28 : Try.prog.bytesOf 28 = 24 := by kernel_rfl
@[simp] theorem zval_28 : zval Try.prog 28 = some (.nils) := by kernel_rfl
@[simp] theorem aggT_28 : aggT Try.prog 28 = some false := by kernel_rfl
@[simp] theorem info_28 : (Try.prog.info? 28).isSome = true := by kernel_rfl
attribute [simp] Try.underlying29
@[simp] theorem cells_29 : Try.prog.cellsOf 29 = 1 := by kernel_rfl
@[simp] theorem bytes_29 : Try.prog.bytesOf 29 = 8 := by kernel_rfl
@[simp] theorem zval_29 : zval Try.prog 29 = some (.int .i64 0) := by kernel_rfl
@[simp] theorem aggT_29 : aggT Try.prog 29 = some false := by kernel_rfl
@[simp] theorem info_29 : (Try.prog.info? 29).isSome = true := by kernel_rfl
attribute [simp] Try.underlying31
@[simp] theorem cells_31 : Try.prog.cellsOf 31 = 1 := by kernel_rfl
@[simp] theorem bytes_31 : Try.prog.bytesOf 31 = 8 := by kernel_rfl
@[simp] theorem zval_31 : zval Try.prog 31 = some (.nilf) := by kernel_rfl
@[simp] theorem aggT_31 : aggT Try.prog 31 = some false := by kernel_rfl
@[simp] theorem info_31 : (Try.prog.info? 31).isSome = true := by kernel_rfl
attribute [simp] Try.underlying32
@[simp] theorem cells_32 : Try.prog.cellsOf 32 = 1 := by kernel_rfl
@[simp] theorem bytes_32 : Try.prog.bytesOf 32 = 8 := by kernel_rfl
@[simp] theorem zval_32 : zval Try.prog 32 = some (.nilf) := by kernel_rfl
@[simp] theorem aggT_32 : aggT Try.prog 32 = some false := by kernel_rfl
@[simp] theorem info_32 : (Try.prog.info? 32).isSome = true := by kernel_rfl
attribute [simp] Try.underlying33
@[simp] theorem cells_33 : Try.prog.cellsOf 33 = 1 := by kernel_rfl
@[simp] theorem bytes_33 : Try.prog.bytesOf 33 = 8 := by kernel_rfl
@[simp] theorem zval_33 : zval Try.prog 33 = some (.nilf) := by kernel_rfl
@[simp] theorem aggT_33 : aggT Try.prog 33 = some false := by kernel_rfl
@[simp] theorem info_33 : (Try.prog.info? 33).isSome = true := by kernel_rfl
attribute [simp] Try.underlying34
@[simp] theorem cells_34 : Try.prog.cellsOf 34 = 1 := by kernel_rfl
@[simp] theorem bytes_34 : Try.prog.bytesOf 34 = 8 := by kernel_rfl
@[simp] theorem zval_34 : zval Try.prog 34 = some (.nilf) := by kernel_rfl
@[simp] theorem aggT_34 : aggT Try.prog 34 = some false := by kernel_rfl
@[simp] theorem info_34 : (Try.prog.info? 34).isSome = true := by kernel_rfl
attribute [simp] Try.underlying35
@[simp] theorem cells_35 : Try.prog.cellsOf 35 = 1 := by kernel_rfl
@[simp] theorem bytes_35 : Try.prog.bytesOf 35 = 8 := by kernel_rfl
@[simp] theorem zval_35 : zval Try.prog 35 = some (.nilp) := by kernel_rfl
@[simp] theorem aggT_35 : aggT Try.prog 35 = some false := by kernel_rfl
@[simp] theorem info_35 : (Try.prog.info? 35).isSome = true := by kernel_rfl
attribute [simp] Try.underlying36
@[simp] theorem cells_36 : Try.prog.cellsOf 36 = 1 := by kernel_rfl
@[simp] theorem bytes_36 : Try.prog.bytesOf 36 = 8 := by kernel_rfl
@[simp] theorem zval_36 : zval Try.prog 36 = some (.nilf) := by kernel_rfl
@[simp] theorem aggT_36 : aggT Try.prog 36 = some false := by kernel_rfl
@[simp] theorem info_36 : (Try.prog.info? 36).isSome = true := by kernel_rfl
attribute [simp] Try.underlying38
@[simp] theorem cells_38 : Try.prog.cellsOf 38 = 1 := by kernel_rfl
@[simp] theorem bytes_38 : Try.prog.bytesOf 38 = 8 := by kernel_rfl
@[simp] theorem zval_38 : zval Try.prog 38 = some (.nilf) := by kernel_rfl
@[simp] theorem aggT_38 : aggT Try.prog 38 = some false := by kernel_rfl
@[simp] theorem info_38 : (Try.prog.info? 38).isSome = true := by kernel_rfl
attribute [simp] Try.underlying40
@[simp] theorem cells_40 : Try.prog.cellsOf 40 = 1 := by kernel_rfl
@[simp] theorem bytes_40 : Try.prog.bytesOf 40 = 8 := by kernel_rfl
@[simp] theorem zval_40 : zval Try.prog 40 = some (.nilf) := by kernel_rfl
@[simp] theorem aggT_40 : aggT Try.prog 40 = some false := by kernel_rfl
@[simp] theorem info_40 : (Try.prog.info? 40).isSome = true := by kernel_rfl
attribute [simp] Try.underlying41
@[simp] theorem cells_41 : Try.prog.cellsOf 41 = 1 := by kernel_rfl
@[simp] theorem bytes_41 : Try.prog.bytesOf 41 = 8 := by kernel_rfl
@[simp] theorem zval_41 : zval Try.prog 41 = some (.nilf) := by kernel_rfl
@[simp] theorem aggT_41 : aggT Try.prog 41 = some false := by kernel_rfl
@[simp] theorem info_41 : (Try.prog.info? 41).isSome = true := by kernel_rfl
attribute [simp] Try.underlying42
@[simp] theorem cells_42 : Try.prog.cellsOf 42 = 1 := by kernel_rfl
@[simp] theorem bytes_42 : Try.prog.bytesOf 42 = 8 := by kernel_rfl
@[simp] theorem zval_42 : zval Try.prog 42 = some (.nilf) := by kernel_rfl
@[simp] theorem aggT_42 : aggT Try.prog 42 = some false := by kernel_rfl
@[simp] theorem info_42 : (Try.prog.info? 42).isSome = true := by kernel_rfl
attribute [simp] Try.underlying43
@[simp] theorem cells_43 : Try.prog.cellsOf 43 = 1 := by kernel_rfl
@[simp] theorem bytes_43 : Try.prog.bytesOf 43 = 8 := by kernel_rfl
@[simp] theorem zval_43 : zval Try.prog 43 = some (.nilf) := by kernel_rfl
@[simp] theorem aggT_43 : aggT Try.prog 43 = some false := by kernel_rfl
@[simp] theorem info_43 : (Try.prog.info? 43).isSome = true := by kernel_rfl
attribute [simp] Try.underlying44
@[simp] theorem cells_44 : Try.prog.cellsOf 44 = 1 := by kernel_rfl
@[simp] theorem bytes_44 : Try.prog.bytesOf 44 = 8 := by kernel_rfl
@[simp] theorem zval_44 : zval Try.prog 44 = some (.nilf) := by kernel_rfl
@[simp] theorem aggT_44 : aggT Try.prog 44 = some false := by kernel_rfl
@[simp] theorem info_44 : (Try.prog.info? 44).isSome = true := by kernel_rfl
attribute [simp] Try.underlying45
@[simp] theorem cells_45 : Try.prog.cellsOf 45 = 1 := by kernel_rfl
@[simp] theorem bytes_45 : Try.prog.bytesOf 45 = 8 := by kernel_rfl
@[simp] theorem zval_45 : zval Try.prog 45 = some (.int .u64 0) := by kernel_rfl
@[simp] theorem aggT_45 : aggT Try.prog 45 = some false := by kernel_rfl
@[simp] theorem info_45 : (Try.prog.info? 45).isSome = true := by kernel_rfl
attribute [simp] Try.underlying47
@[simp] theorem cells_47 : Try.prog.cellsOf 47 = 1 := by kernel_rfl
@[simp] theorem bytes_47 : Try.prog.bytesOf 47 = 8 := by kernel_rfl
@[simp] theorem zval_47 : zval Try.prog 47 = some (.nilf) := by kernel_rfl
@[simp] theorem aggT_47 : aggT Try.prog 47 = some false := by kernel_rfl
@[simp] theorem info_47 : (Try.prog.info? 47).isSome = true := by kernel_rfl
attribute [simp] Try.underlying48
@[simp] theorem cells_48 : Try.prog.cellsOf 48 = 1 := by kernel_rfl
@[simp] theorem bytes_48 : Try.prog.bytesOf 48 = 24 := by kernel_rfl
@[simp] theorem zval_48 : zval Try.prog 48 = some (.nils) := by kernel_rfl
@[simp] theorem aggT_48 : aggT Try.prog 48 = some false := by kernel_rfl
@[simp] theorem info_48 : (Try.prog.info? 48).isSome = true := by kernel_rfl
attribute [simp] Try.underlying50
@[simp] theorem cells_50 : Try.prog.cellsOf 50 = 1 := by kernel_rfl
@[simp] theorem bytes_50 : Try.prog.bytesOf 50 = 8 := by kernel_rfl
@[simp] theorem zval_50 : zval Try.prog 50 = some (.nilf) := by kernel_rfl
@[simp] theorem aggT_50 : aggT Try.prog 50 = some false := by kernel_rfl
@[simp] theorem info_50 : (Try.prog.info? 50).isSome = true := by kernel_rfl
attribute [simp] Try.underlying51
@[simp] theorem cells_51 : Try.prog.cellsOf 51 = 1 := by kernel_rfl
@[simp] theorem bytes_51 : Try.prog.bytesOf 51 = 8 := by kernel_rfl
@[simp] theorem zval_51 : zval Try.prog 51 = some (.nilf) := by kernel_rfl
@[simp] theorem aggT_51 : aggT Try.prog 51 = some false := by kernel_rfl
@[simp] theorem info_51 : (Try.prog.info? 51).isSome = true := by kernel_rfl
attribute [simp] Try.underlying52
@[simp] theorem cells_52 : Try.prog.cellsOf 52 = 1 := by kernel_rfl
@[simp] theorem bytes_52 : Try.prog.bytesOf 52 = 8 := by kernel_rfl
@[simp] theorem zval_52 : zval Try.prog 52 = some (.nilf) := by kernel_rfl
@[simp] theorem aggT_52 : aggT Try.prog 52 = some false := by kernel_rfl
@[simp] theorem info_52 : (Try.prog.info? 52).isSome = true := by kernel_rfl
attribute [simp] Try.underlying53
@[simp] theorem cells_53 : Try.prog.cellsOf 53 = 1 := by kernel_rfl
@[simp] theorem bytes_53 : Try.prog.bytesOf 53 = 8 := by kernel_rfl
@[simp] theorem zval_53 : zval Try.prog 53 = some (.nilf) := by kernel_rfl
@[simp] theorem aggT_53 : aggT Try.prog 53 = some false := by kernel_rfl
@[simp] theorem info_53 : (Try.prog.info? 53).isSome = true := by kernel_rfl
attribute [simp] Try.underlying54
@[simp] theorem cells_54 : Try.prog.cellsOf 54 = 1 := by kernel_rfl
@[simp] theorem bytes_54 : Try.prog.bytesOf 54 = 24 := by kernel_rfl
@[simp] theorem zval_54 : zval Try.prog 54 = some (.nils) := by kernel_rfl
@[simp] theorem aggT_54 : aggT Try.prog 54 = some false := by kernel_rfl
@[simp] theorem info_54 : (Try.prog.info? 54).isSome = true := by kernel_rfl
attribute [simp] Try.underlying55
@[simp] theorem cells_55 : Try.prog.cellsOf 55 = 2 := by kernel_rfl
@[simp] theorem bytes_55 : Try.prog.bytesOf 55 = 32 := by kernel_rfl
@[simp] theorem zval_55 : zval Try.prog 55 = some (.agg [.int .i64 0, .nils]) := by kernel_rfl
@[simp] theorem aggT_55 : aggT Try.prog 55 = some true := by kernel_rfl
@[simp] theorem info_55 : (Try.prog.info? 55).isSome = true := by kernel_rfl
attribute [simp] Try.underlying56
@[simp] theorem cells_56 : Try.prog.cellsOf 56 = 2 := by kernel_rfl
@[simp] theorem bytes_56 : Try.prog.bytesOf 56 = 32 := by kernel_rfl
@[simp] theorem zval_56 : zval Try.prog 56 = some (.agg [.int .i64 0, .nils]) := by kernel_rfl
@[simp] theorem aggT_56 : aggT Try.prog 56 = some true := by kernel_rfl
@[simp] theorem info_56 : (Try.prog.info? 56).isSome = true := by kernel_rfl
attribute [simp] Try.underlying58
@[simp] theorem cells_58 : Try.prog.cellsOf 58 = 1 := by kernel_rfl
@[simp] theorem bytes_58 : Try.prog.bytesOf 58 = 8 := by kernel_rfl
@[simp] theorem zval_58 : zval Try.prog 58 = some (.nilf) := by kernel_rfl
@[simp] theorem aggT_58 : aggT Try.prog 58 = some false := by kernel_rfl
@[simp] theorem info_58 : (Try.prog.info? 58).isSome = true := by kernel_rfl
attribute [simp] Try.underlying59
@[simp] theorem cells_59 : Try.prog.cellsOf 59 = 5 := by kernel_rfl
@[simp] theorem bytes_59 : Try.prog.bytesOf 59 = 56 := by kernel_rfl
@[simp] theorem zval_59 : zval Try.prog 59 = some (.agg [.int .i64 0, .int .i64 0, .int .i64 0, .nils, .int .i64 0]) := by kernel_rfl
@[simp] theorem aggT_59 : aggT Try.prog 59 = some true := by kernel_rfl
@[simp] theorem info_59 : (Try.prog.info? 59).isSome = true := by kernel_rfl
attribute [simp] Try.underlying60
@[simp] theorem cells_60 : Try.prog.cellsOf 60 = 5 := by kernel_rfl
@[simp] theorem bytes_60 : Try.prog.bytesOf 60 = 56 := by kernel_rfl
@[simp] theorem zval_60 : zval Try.prog 60 = some (.agg [.int .i64 0, .int .i64 0, .int .i64 0, .nils, .int .i64 0]) := by kernel_rfl
@[simp] theorem aggT_60 : aggT Try.prog 60 = some true := by kernel_rfl
@[simp] theorem info_60 : (Try.prog.info? 60).isSome = true := by kernel_rfl
attribute [simp] Try.underlying62
@[simp] theorem cells_62 : Try.prog.cellsOf 62 = 1 := by kernel_rfl
@[simp] theorem bytes_62 : Try.prog.bytesOf 62 = 8 := by kernel_rfl
@[simp] theorem zval_62 : zval Try.prog 62 = some (.nilf) := by kernel_rfl
@[simp] theorem aggT_62 : aggT Try.prog 62 = some false := by kernel_rfl
@[simp] theorem info_62 : (Try.prog.info? 62).isSome = true := by kernel_rfl
attribute [simp] Try.underlying63
@[simp] theorem cells_63 : Try.prog.cellsOf 63 = 1 := by kernel_rfl
@[simp] theorem bytes_63 : Try.prog.bytesOf 63 = 8 := by kernel_rfl
@[simp] theorem zval_63 : zval Try.prog 63 = some (.nilf) := by kernel_rfl
@[simp] theorem aggT_63 : aggT Try.prog 63 = some false := by kernel_rfl
@[simp] theorem info_63 : (Try.prog.info? 63).isSome = true := by kernel_rfl
attribute [simp] Try.underlying64
@[simp] theorem cells_64 : Try.prog.cellsOf 64 = 1 := by kernel_rfl
@[simp] theorem bytes_64 : Try.prog.bytesOf 64 = 8 := by kernel_rfl
@[simp] theorem zval_64 : zval Try.prog 64 = some (.nilf) := by kernel_rfl
@[simp] theorem aggT_64 : aggT Try.prog 64 = some false := by kernel_rfl
@[simp] theorem info_64 : (Try.prog.info? 64).isSome = true := by kernel_rfl
attribute [simp] Try.underlying66
@[simp] theorem cells_66 : Try.prog.cellsOf 66 = 1 := by kernel_rfl
@[simp] theorem bytes_66 : Try.prog.bytesOf 66 = 8 := by kernel_rfl
@[simp] theorem zval_66 : zval Try.prog 66 = some (.nilf) := by kernel_rfl
@[simp] theorem aggT_66 : aggT Try.prog 66 = some false := by kernel_rfl
@[simp] theorem info_66 : (Try.prog.info? 66).isSome = true := by kernel_rfl
attribute [simp] Try.underlying67
@[simp] theorem cells_67 : Try.prog.cellsOf 67 = 1 := by kernel_rfl
@[simp] theorem bytes_67 : Try.prog.bytesOf 67 = 8 := by kernel_rfl
@[simp] theorem zval_67 : zval Try.prog 67 = some (.nilf) := by kernel_rfl
@[simp] theorem aggT_67 : aggT Try.prog 67 = some false := by kernel_rfl
@[simp] theorem info_67 : (Try.prog.info? 67).isSome = true := by kernel_rfl
attribute [simp] Try.underlying68
@[simp] theorem cells_68 : Try.prog.cellsOf 68 = 1 := by kernel_rfl
@[simp] theorem bytes_68 : Try.prog.bytesOf 68 = 24 := by kernel_rfl
@[simp] theorem zval_68 : zval Try.prog 68 = some (.nils) := by kernel_rfl
@[simp] theorem aggT_68 : aggT Try.prog 68 = some false := by kernel_rfl
@[simp] theorem info_68 : (Try.prog.info? 68).isSome = true := by kernel_rfl
attribute [simp] Try.underlying70
@[simp] theorem cells_70 : Try.prog.cellsOf 70 = 1 := by kernel_rfl
@[simp] theorem bytes_70 : Try.prog.bytesOf 70 = 8 := by kernel_rfl
@[simp] theorem zval_70 : zval Try.prog 70 = some (.nilf) := by kernel_rfl
@[simp] theorem aggT_70 : aggT Try.prog 70 = some false := by kernel_rfl
@[simp] theorem info_70 : (Try.prog.info? 70).isSome = true := by kernel_rfl
attribute [simp] Try.underlying71
@[simp] theorem cells_71 : Try.prog.cellsOf 71 = 1 := by kernel_rfl
@[simp] theorem bytes_71 : Try.prog.bytesOf 71 = 8 := by kernel_rfl
@[simp] theorem zval_71 : zval Try.prog 71 = some (.nilf) := by kernel_rfl
@[simp] theorem aggT_71 : aggT Try.prog 71 = some false := by kernel_rfl
@[simp] theorem info_71 : (Try.prog.info? 71).isSome = true := by kernel_rfl
attribute [simp] Try.underlying73
@[simp] theorem cells_73 : Try.prog.cellsOf 73 = 1 := by kernel_rfl
@[simp] theorem bytes_73 : Try.prog.bytesOf 73 = 8 := by kernel_rfl
@[simp] theorem zval_73 : zval Try.prog 73 = some (.nilf) := by kernel_rfl
@[simp] theorem aggT_73 : aggT Try.prog 73 = some false := by kernel_rfl
@[simp] theorem info_73 : (Try.prog.info? 73).isSome = true := by kernel_rfl
attribute [simp] Try.underlying74
@[simp] theorem cells_74 : Try.prog.cellsOf 74 = 1 := by kernel_rfl
@[simp] theorem bytes_74 : Try.prog.bytesOf 74 = 8 := by kernel_rfl
@[simp] theorem zval_74 : zval Try.prog 74 = some (.nilp) := by kernel_rfl
@[simp] theorem aggT_74 : aggT Try.prog 74 = some false := by kernel_rfl
@[simp] theorem info_74 : (Try.prog.info? 74).isSome = true := by kernel_rfl
attribute [simp] Try.underlying76
@[simp] theorem cells_76 : Try.prog.cellsOf 76 = 1 := by kernel_rfl
@[simp] theorem bytes_76 : Try.prog.bytesOf 76 = 8 := by kernel_rfl
@[simp] theorem zval_76 : zval Try.prog 76 = some (.nilf) := by kernel_rfl
@[simp] theorem aggT_76 : aggT Try.prog 76 = some false := by kernel_rfl
@[simp] theorem info_76 : (Try.prog.info? 76).isSome = true := by kernel_rfl
attribute [simp] Try.underlying78
@[simp] theorem cells_78 : Try.prog.cellsOf 78 = 1 := by kernel_rfl
@[simp] theorem bytes_78 : Try.prog.bytesOf 78 = 8 := by kernel_rfl
@[simp] theorem zval_78 : zval Try.prog 78 = some (.nilf) := by kernel_rfl
@[simp] theorem aggT_78 : aggT Try.prog 78 = some false := by kernel_rfl
@[simp] theorem info_78 : (Try.prog.info? 78).isSome = true := by kernel_rfl
attribute [simp] Try.underlying79
@[simp] theorem cells_79 : Try.prog.cellsOf 79 = 64 := by kernel_rfl
@[simp] theorem bytes_79 : Try.prog.bytesOf 79 = 512 := by kernel_rfl
@[simp] theorem zval_79 : zval Try.prog 79 = some (.agg [.int .i64 0, .int .i64 0, .int .i64 0, .int .i64 0, .int .i64 0, .int .i64 0, .int .i64 0, .int .i64 0, .int .i64 0, .int .i64 0, .int .i64 0, .int .i64 0, .int .i64 0, .int .i64 0, .int .i64 0, .int .i64 0, .int .i64 0, .int .i64 0, .int .i64 0, .int .i64 0, .int .i64 0, .int .i64 0, .int .i64 0, .int .i64 0, .int .i64 0, .int .i64 0, .int .i64 0, .int .i64 0, .int .i64 0, .int .i64 0, .int .i64 0, .int .i64 0, .int .i64 0, .int .i64 0, .int .i64 0, .int .i64 0, .int .i64 0, .int .i64 0, .int .i64 0, .int .i64 0, .int .i64 0, .int .i64 0, .int .i64 0, .int .i64 0, .int .i64 0, .int .i64 0, .int .i64 0, .int .i64 0, .int .i64 0, .int .i64 0, .int .i64 0, .int .i64 0, .int .i64 0, .int .i64 0, .int .i64 0, .int .i64 0, .int .i64 0, .int .i64 0, .int .i64 0, .int .i64 0, .int .i64 0, .int .i64 0, .int .i64 0, .int .i64 0]) := by kernel_rfl
@[simp] theorem aggT_79 : aggT Try.prog 79 = some true := by kernel_rfl
@[simp] theorem info_79 : (Try.prog.info? 79).isSome = true := by kernel_rfl
attribute [simp] Try.underlying80
@[simp] theorem cells_80 : Try.prog.cellsOf 80 = 68 := by kernel_rfl
@[simp] theorem bytes_80 : Try.prog.bytesOf 80 = 576 := by kernel_rfl
@[simp] theorem zval_80 : zval Try.prog 80 = some (.agg [.int .i64 0, .nils, .nils, .int .i64 0, .int .i64 0, .int .i64 0, .int .i64 0, .int .i64 0, .int .i64 0, .int .i64 0, .int .i64 0, .int .i64 0, .int .i64 0, .int .i64 0, .int .i64 0, .int .i64 0, .int .i64 0, .int .i64 0, .int .i64 0, .int .i64 0, .int .i64 0, .int .i64 0, .int .i64 0, .int .i64 0, .int .i64 0, .int .i64 0, .int .i64 0, .int .i64 0, .int .i64 0, .int .i64 0, .int .i64 0, .int .i64 0, .int .i64 0, .int .i64 0, .int .i64 0, .int .i64 0, .int .i64 0, .int .i64 0, .int .i64 0, .int .i64 0, .int .i64 0, .int .i64 0, .int .i64 0, .int .i64 0, .int .i64 0, .int .i64 0, .int .i64 0, .int .i64 0, .int .i64 0, .int .i64 0, .int .i64 0, .int .i64 0, .int .i64 0, .int .i64 0, .int .i64 0, .int .i64 0, .int .i64 0, .int .i64 0, .int .i64 0, .int .i64 0, .int .i64 0, .int .i64 0, .int .i64 0, .int .i64 0, .int .i64 0, .int .i64 0, .int .i64 0, .int .i64 0]) := by kernel_rfl
@[simp] theorem aggT_80 : aggT Try.prog 80 = some true := by kernel_rfl
@[simp] theorem info_80 : (Try.prog.info? 80).isSome = true := by kernel_rfl
attribute [simp] Try.underlying81
@[simp] theorem cells_81 : Try.prog.cellsOf 81 = 68 := by kernel_rfl
@[simp] theorem bytes_81 : Try.prog.bytesOf 81 = 576 := by kernel_rfl
@[simp] theorem zval_81 : zval Try.prog 81 = some (.agg [.int .i64 0, .nils, .nils, .int .i64 0, .int .i64 0, .int .i64 0, .int .i64 0, .int .i64 0, .int .i64 0, .int .i64 0, .int .i64 0, .int .i64 0, .int .i64 0, .int .i64 0, .int .i64 0, .int .i64 0, .int .i64 0, .int .i64 0, .int .i64 0, .int .i64 0, .int .i64 0, .int .i64 0, .int .i64 0, .int .i64 0, .int .i64 0, .int .i64 0, .int .i64 0, .int .i64 0, .int .i64 0, .int .i64 0, .int .i64 0, .int .i64 0, .int .i64 0, .int .i64 0, .int .i64 0, .int .i64 0, .int .i64 0, .int .i64 0, .int .i64 0, .int .i64 0, .int .i64 0, .int .i64 0, .int .i64 0, .int .i64 0, .int .i64 0, .int .i64 0, .int .i64 0, .int .i64 0, .int .i64 0, .int .i64 0, .int .i64 0, .int .i64 0, .int .i64 0, .int .i64 0, .int .i64 0, .int .i64 0, .int .i64 0, .int .i64 0, .int .i64 0, .int .i64 0, .int .i64 0, .int .i64 0, .int .i64 0, .int .i64 0, .int .i64 0, .int .i64 0, .int .i64 0, .int .i64 0]) := by kernel_rfl
@[simp] theorem aggT_81 : aggT Try.prog 81 = some true := by kernel_rfl
@[simp] theorem info_81 : (Try.prog.info? 81).isSome = true := by kernel_rfl
attribute [simp] Try.underlying82
@[simp] theorem cells_82 : Try.prog.cellsOf 82 = 1 := by kernel_rfl
@[simp] theorem bytes_82 : Try.prog.bytesOf 82 = 8 := by kernel_rfl
@[simp] theorem zval_82 : zval Try.prog 82 = some (.nilf) := by kernel_rfl
@[simp] theorem aggT_82 : aggT Try.prog 82 = some false := by kernel_rfl
@[simp] theorem info_82 : (Try.prog.info? 82).isSome = true := by kernel_rfl
attribute [simp] Try.underlying83
@[simp] theorem cells_83 : Try.prog.cellsOf 83 = 1 := by kernel_rfl
@[simp] theorem bytes_83 : Try.prog.bytesOf 83 = 8 := by kernel_rfl
@[simp] theorem zval_83 : zval Try.prog 83 = some (.nilf) := by kernel_rfl
@[simp] theorem aggT_83 : aggT Try.prog 83 = some false := by kernel_rfl
@[simp] theorem info_83 : (Try.prog.info? 83).isSome = true := by kernel_rfl
attribute [simp] Try.underlying84
@[simp] theorem cells_84 : Try.prog.cellsOf 84 = 1 := by kernel_rfl
@[simp] theorem bytes_84 : Try.prog.bytesOf 84 = 8 := by kernel_rfl
@[simp] theorem zval_84 : zval Try.prog 84 = some (.nilf) := by kernel_rfl
@[simp] theorem aggT_84 : aggT Try.prog 84 = some false := by kernel_rfl
@[simp] theorem info_84 : (Try.prog.info? 84).isSome = true := by kernel_rfl
attribute [simp] Try.underlying85
@[simp] theorem cells_85 : Try.prog.cellsOf 85 = 1 := by kernel_rfl
@[simp] theorem bytes_85 : Try.prog.bytesOf 85 = 8 := by kernel_rfl
@[simp] theorem zval_85 : zval Try.prog 85 = some (.nilf) := by kernel_rfl
@[simp] theorem aggT_85 : aggT Try.prog 85 = some false := by kernel_rfl
@[simp] theorem info_85 : (Try.prog.info? 85).isSome = true := by kernel_rfl
attribute [simp] Try.underlying86
@[simp] theorem cells_86 : Try.prog.cellsOf 86 = 1 := by kernel_rfl
@[simp] theorem bytes_86 : Try.prog.bytesOf 86 = 8 := by kernel_rfl
@[simp] theorem zval_86 : zval Try.prog 86 = some (.nilm) := by kernel_rfl
@[simp] theorem aggT_86 : aggT Try.prog 86 = some false := by kernel_rfl
@[simp] theorem info_86 : (Try.prog.info? 86).isSome = true := by kernel_rfl
attribute [simp] Try.underlying87
@[simp] theorem cells_87 : Try.prog.cellsOf 87 = 1 := by kernel_rfl
@[simp] theorem bytes_87 : Try.prog.bytesOf 87 = 24 := by kernel_rfl
@[simp] theorem zval_87 : zval Try.prog 87 = some (.nils) := by kernel_rfl
@[simp] theorem aggT_87 : aggT Try.prog 87 = some false := by kernel_rfl
@[simp] theorem info_87 : (Try.prog.info? 87).isSome = true := by kernel_rfl
attribute [simp] Try.underlying88
@[simp] theorem cells_88 : Try.prog.cellsOf 88 = 3 := by kernel_rfl
@[simp] theorem bytes_88 : Try.prog.bytesOf 88 = 40 := by kernel_rfl
@[simp] theorem zval_88 : zval Try.prog 88 = some (.agg [.int .i64 0, .nils, .nilm]) := by kernel_rfl
@[simp] theorem aggT_88 : aggT Try.prog 88 = some true := by kernel_rfl
@[simp] theorem info_88 : (Try.prog.info? 88).isSome = true := by kernel_rfl
attribute [simp] Try.underlying89
@[simp] theorem cells_89 : Try.prog.cellsOf 89 = 3 := by kernel_rfl
@[simp] theorem bytes_89 : Try.prog.bytesOf 89 = 40 := by kernel_rfl
@[simp] theorem zval_89 : zval Try.prog 89 = some (.agg [.int .i64 0, .nils, .nilm]) := by kernel_rfl
@[simp] theorem aggT_89 : aggT Try.prog 89 = some true := by kernel_rfl
@[simp] theorem info_89 : (Try.prog.info? 89).isSome = true := by kernel_rfl
attribute [simp] Try.underlying90
@[simp] theorem cells_90 : Try.prog.cellsOf 90 = 1 := by kernel_rfl
@[simp] theorem bytes_90 : Try.prog.bytesOf 90 = 8 := by kernel_rfl
@[simp] theorem zval_90 : zval Try.prog 90 = some (.nilf) := by kernel_rfl
@[simp] theorem aggT_90 : aggT Try.prog 90 = some false := by kernel_rfl
@[simp] theorem info_90 : (Try.prog.info? 90).isSome = true := by kernel_rfl
attribute [simp] Try.underlying91
@[simp] theorem cells_91 : Try.prog.cellsOf 91 = 1 := by kernel_rfl
@[simp] theorem bytes_91 : Try.prog.bytesOf 91 = 4 := by kernel_rfl
@[simp] theorem zval_91 : zval Try.prog 91 = some (.int .u32 0) := by kernel_rfl
@[simp] theorem aggT_91 : aggT Try.prog 91 = some false := by kernel_rfl
@[simp] theorem info_91 : (Try.prog.info? 91).isSome = true := by kernel_rfl
attribute [simp] Try.underlying92
@[simp] theorem cells_92 : Try.prog.cellsOf 92 = 4 := by kernel_rfl
@[simp] theorem bytes_92 : Try.prog.bytesOf 92 = 16 := by kernel_rfl
@[simp] theorem zval_92 : zval Try.prog 92 = some (.agg [.int .i32 0, .int .i32 0, .int .i32 0, .int .i32 0]) := by kernel_rfl
@[simp] theorem aggT_92 : aggT Try.prog 92 = some true := by kernel_rfl
@[simp] theorem info_92 : (Try.prog.info? 92).isSome = true := by kernel_rfl
attribute [simp] Try.underlying93
@[simp] theorem cells_93 : Try.prog.cellsOf 93 = 5 := by kernel_rfl
@[simp] theorem bytes_93 : Try.prog.bytesOf 93 = 20 := by kernel_rfl
@[simp] theorem zval_93 : zval Try.prog 93 = some (.agg [.int .u32 0, .int .i32 0, .int .i32 0, .int .i32 0, .int .i32 0]) := by kernel_rfl
@[simp] theorem aggT_93 : aggT Try.prog 93 = some true := by kernel_rfl
@[simp] theorem info_93 : (Try.prog.info? 93).isSome = true := by kernel_rfl
attribute [simp] Try.underlying94
@[simp] theorem cells_94 : Try.prog.cellsOf 94 = 5 := by kernel_rfl
@[simp] theorem bytes_94 : Try.prog.bytesOf 94 = 20 := by kernel_rfl
@[simp] theorem zval_94 : zval Try.prog 94 = some (.agg [.int .u32 0, .int .i32 0, .int .i32 0, .int .i32 0, .int .i32 0]) := by kernel_rfl
@[simp] theorem aggT_94 : aggT Try.prog 94 = some true := by kernel_rfl
@[simp] theorem info_94 : (Try.prog.info? 94).isSome = true := by kernel_rfl
attribute [simp] Try.underlying95
@[simp] theorem cells_95 : Try.prog.cellsOf 95 = 7 := by kernel_rfl
@[simp] theorem bytes_95 : Try.prog.bytesOf 95 = 40 := by kernel_rfl
@[simp] theorem zval_95 : zval Try.prog 95 = some (.agg [.int .u32 0, .int .i32 0, .int .i32 0, .int .i32 0, .int .i32 0, .int .u64 0, .int .i64 0]) := by kernel_rfl
@[simp] theorem aggT_95 : aggT Try.prog 95 = some true := by kernel_rfl
@[simp] theorem info_95 : (Try.prog.info? 95).isSome = true := by kernel_rfl
attribute [simp] Try.underlying96
@[simp] theorem cells_96 : Try.prog.cellsOf 96 = 7 := by kernel_rfl
@[simp] theorem bytes_96 : Try.prog.bytesOf 96 = 40 := by kernel_rfl
@[simp] theorem zval_96 : zval Try.prog 96 = some (.agg [.int .u32 0, .int .i32 0, .int .i32 0, .int .i32 0, .int .i32 0, .int .u64 0, .int .i64 0]) := by kernel_rfl
@[simp] theorem aggT_96 : aggT Try.prog 96 = some true := by kernel_rfl
@[simp] theorem info_96 : (Try.prog.info? 96).isSome = true := by kernel_rfl
attribute [simp] Try.underlying97
@[simp] theorem cells_97 : Try.prog.cellsOf 97 = 1 := by kernel_rfl
@[simp] theorem bytes_97 : Try.prog.bytesOf 97 = 8 := by kernel_rfl
@[simp] theorem zval_97 : zval Try.prog 97 = some (.nilf) := by kernel_rfl
@[simp] theorem aggT_97 : aggT Try.prog 97 = some false := by kernel_rfl
@[simp] theorem info_97 : (Try.prog.info? 97).isSome = true := by kernel_rfl
attribute [simp] Try.underlying98
@[simp] theorem cells_98 : Try.prog.cellsOf 98 = 1 := by kernel_rfl
@[simp] theorem bytes_98 : Try.prog.bytesOf 98 = 8 := by kernel_rfl
@[simp] theorem zval_98 : zval Try.prog 98 = some (.nilf) := by kernel_rfl
@[simp] theorem aggT_98 : aggT Try.prog 98 = some false := by kernel_rfl
@[simp] theorem info_98 : (Try.prog.info? 98).isSome = true := by kernel_rfl
attribute [simp] Try.underlying99
@[simp] theorem cells_99 : Try.prog.cellsOf 99 = 1 := by kernel_rfl
@[simp] theorem bytes_99 : Try.prog.bytesOf 99 = 8 := by kernel_rfl
@[simp] theorem zval_99 : zval Try.prog 99 = some (.nilf) := by kernel_rfl
@[simp] theorem aggT_99 : aggT Try.prog 99 = some false := by kernel_rfl
@[simp] theorem info_99 : (Try.prog.info? 99).isSome = true := by kernel_rfl
attribute [simp] Try.underlying100
@[simp] theorem cells_100 : Try.prog.cellsOf 100 = 1 := by kernel_rfl
@[simp] theorem bytes_100 : Try.prog.bytesOf 100 = 8 := by kernel_rfl
@[simp] theorem zval_100 : zval Try.prog 100 = some (.nilf) := by kernel_rfl
@[simp] theorem aggT_100 : aggT Try.prog 100 = some false := by kernel_rfl
@[simp] theorem info_100 : (Try.prog.info? 100).isSome = true := by kernel_rfl
attribute [simp] Try.underlying101
@[simp] theorem cells_101 : Try.prog.cellsOf 101 = 1 := by kernel_rfl
@[simp] theorem bytes_101 : Try.prog.bytesOf 101 = 8 := by kernel_rfl
@[simp] theorem zval_101 : zval Try.prog 101 = some (.nilf) := by kernel_rfl
@[simp] theorem aggT_101 : aggT Try.prog 101 = some false := by kernel_rfl
@[simp] theorem info_101 : (Try.prog.info? 101).isSome = true := by kernel_rfl
attribute [simp] Try.underlying102
@[simp] theorem cells_102 : Try.prog.cellsOf 102 = 1 := by kernel_rfl
@[simp] theorem bytes_102 : Try.prog.bytesOf 102 = 8 := by kernel_rfl
@[simp] theorem zval_102 : zval Try.prog 102 = some (.nilf) := by kernel_rfl
@[simp] theorem aggT_102 : aggT Try.prog 102 = some false := by kernel_rfl
@[simp] theorem info_102 : (Try.prog.info? 102).isSome = true := by kernel_rfl
attribute [simp] Try.underlying103
@[simp] theorem cells_103 : Try.prog.cellsOf 103 = 1 := by kernel_rfl
@[simp] theorem bytes_103 : Try.prog.bytesOf 103 = 8 := by kernel_rfl
@[simp] theorem zval_103 : zval Try.prog 103 = some (.nilf) := by kernel_rfl
@[simp] theorem aggT_103 : aggT Try.prog 103 = some false := by kernel_rfl
@[simp] theorem info_103 : (Try.prog.info? 103).isSome = true := by kernel_rfl
attribute [simp] Try.underlying104
@[simp] theorem cells_104 : Try.prog.cellsOf 104 = 1 := by kernel_rfl
@[simp] theorem bytes_104 : Try.prog.bytesOf 104 = 8 := by kernel_rfl
@[simp] theorem zval_104 : zval Try.prog 104 = some (.nilf) := by kernel_rfl
@[simp] theorem aggT_104 : aggT Try.prog 104 = some false := by kernel_rfl
@[simp] theorem info_104 : (Try.prog.info? 104).isSome = true := by kernel_rfl
attribute [simp] Try.underlying105
@[simp] theorem cells_105 : Try.prog.cellsOf 105 = 1 := by kernel_rfl
@[simp] theorem bytes_105 : Try.prog.bytesOf 105 = 8 := by kernel_rfl
@[simp] theorem zval_105 : zval Try.prog 105 = some (.nilf) := by kernel_rfl
@[simp] theorem aggT_105 : aggT Try.prog 105 = some false := by kernel_rfl
@[simp] theorem info_105 : (Try.prog.info? 105).isSome = true := by kernel_rfl
attribute [simp] Try.underlying106
@[simp] theorem cells_106 : Try.prog.cellsOf 106 = 1 := by kernel_rfl
@[simp] theorem bytes_106 : Try.prog.bytesOf 106 = 8 := by kernel_rfl
@[simp] theorem zval_106 : zval Try.prog 106 = some (.nilf) := by kernel_rfl
@[simp] theorem aggT_106 : aggT Try.prog 106 = some false := by kernel_rfl
@[simp] theorem info_106 : (Try.prog.info? 106).isSome = true := by kernel_rfl
attribute [simp] Try.underlying107
@[simp] theorem cells_107 : Try.prog.cellsOf 107 = 1 := by kernel_rfl
@[simp] theorem bytes_107 : Try.prog.bytesOf 107 = 8 := by kernel_rfl
@[simp] theorem zval_107 : zval Try.prog 107 = some (.nilf) := by kernel_rfl
@[simp] theorem aggT_107 : aggT Try.prog 107 = some false := by kernel_rfl
@[simp] theorem info_107 : (Try.prog.info? 107).isSome = true := by kernel_rfl
attribute [simp] Try.underlying109
@[simp] theorem cells_109 : Try.prog.cellsOf 109 = 1 := by kernel_rfl
@[simp] theorem bytes_109 : Try.prog.bytesOf 109 = 8 := by kernel_rfl
@[simp] theorem zval_109 : zval Try.prog 109 = some (.nilf) := by kernel_rfl
@[simp] theorem aggT_109 : aggT Try.prog 109 = some false := by kernel_rfl
@[simp] theorem info_109 : (Try.prog.info? 109).isSome = true := by kernel_rfl
attribute [simp] Try.underlying110
@[simp] theorem cells_110 : Try.prog.cellsOf 110 = 1 := by kernel_rfl
@[simp] theorem bytes_110 : Try.prog.bytesOf 110 = 8 := by kernel_rfl
@[simp] theorem zval_110 : zval Try.prog 110 = some (.nilf) := by kernel_rfl
@[simp] theorem aggT_110 : aggT Try.prog 110 = some false := by kernel_rfl
@[simp] theorem info_110 : (Try.prog.info? 110).isSome = true := by kernel_rfl
attribute [simp] Try.underlying111
@[simp] theorem cells_111 : Try.prog.cellsOf 111 = 1 := by kernel_rfl
@[simp] theorem bytes_111 : Try.prog.bytesOf 111 = 8 := by kernel_rfl
@[simp] theorem zval_111 : zval Try.prog 111 = some (.nilp) := by kernel_rfl
@[simp] theorem aggT_111 : aggT Try.prog 111 = some false := by kernel_rfl
@[simp] theorem info_111 : (Try.prog.info? 111).isSome = true := by kernel_rfl
attribute [simp] Try.underlying112
@[simp] theorem cells_112 : Try.prog.cellsOf 112 = 2 := by kernel_rfl
@[simp] theorem bytes_112 : Try.prog.bytesOf 112 = 32 := by kernel_rfl
@[simp] theorem zval_112 : zval Try.prog 112 = some (.agg [.nils, .int .i64 0]) := by kernel_rfl
@[simp] theorem aggT_112 : aggT Try.prog 112 = some true := by kernel_rfl
@[simp] theorem info_112 : (Try.prog.info? 112).isSome = true := by kernel_rfl
attribute [simp] Try.underlying113
@[simp] theorem cells_113 : Try.prog.cellsOf 113 = 2 := by kernel_rfl
@[simp] theorem bytes_113 : Try.prog.bytesOf 113 = 32 := by kernel_rfl
@[simp] theorem zval_113 : zval Try.prog 113 = some (.agg [.nils, .int .i64 0]) := by kernel_rfl
@[simp] theorem aggT_113 : aggT Try.prog 113 = some true := by kernel_rfl
@[simp] theorem info_113 : (Try.prog.info? 113).isSome = true := by kernel_rfl
attribute [simp] Try.underlying114
@[simp] theorem cells_114 : Try.prog.cellsOf 114 = 1 := by kernel_rfl
@[simp] theorem bytes_114 : Try.prog.bytesOf 114 = 8 := by kernel_rfl
@[simp] theorem zval_114 : zval Try.prog 114 = some (.nilf) := by kernel_rfl
@[simp] theorem aggT_114 : aggT Try.prog 114 = some false := by kernel_rfl
@[simp] theorem info_114 : (Try.prog.info? 114).isSome = true := by kernel_rfl
attribute [simp] Try.underlying115
@[simp] theorem cells_115 : Try.prog.cellsOf 115 = 1 := by kernel_rfl
@[simp] theorem bytes_115 : Try.prog.bytesOf 115 = 8 := by kernel_rfl
@[simp] theorem zval_115 : zval Try.prog 115 = some (.nilf) := by kernel_rfl
@[simp] theorem aggT_115 : aggT Try.prog 115 = some false := by kernel_rfl
@[simp] theorem info_115 : (Try.prog.info? 115).isSome = true := by kernel_rfl
attribute [simp] Try.underlying116
@[simp] theorem cells_116 : Try.prog.cellsOf 116 = 1 := by kernel_rfl
@[simp] theorem bytes_116 : Try.prog.bytesOf 116 = 8 := by kernel_rfl
@[simp] theorem zval_116 : zval Try.prog 116 = some (.nilf) := by kernel_rfl
@[simp] theorem aggT_116 : aggT Try.prog 116 = some false := by kernel_rfl
@[simp] theorem info_116 : (Try.prog.info? 116).isSome = true := by kernel_rfl
attribute [simp] Try.underlying117
@[simp] theorem cells_117 : Try.prog.cellsOf 117 = 1 := by kernel_rfl
@[simp] theorem bytes_117 : Try.prog.bytesOf 117 = 8 := by kernel_rfl
@[simp] theorem zval_117 : zval Try.prog 117 = some (.nilf) := by kernel_rfl
@[simp] theorem aggT_117 : aggT Try.prog 117 = some false := by kernel_rfl
@[simp] theorem info_117 : (Try.prog.info? 117).isSome = true := by kernel_rfl
attribute [simp] Try.underlying118
@[simp] theorem cells_118 : Try.prog.cellsOf 118 = 1 := by kernel_rfl
@[simp] theorem bytes_118 : Try.prog.bytesOf 118 = 8 := by kernel_rfl
@[simp] theorem zval_118 : zval Try.prog 118 = some (.nilf) := by kernel_rfl
@[simp] theorem aggT_118 : aggT Try.prog 118 = some false := by kernel_rfl
@[simp] theorem info_118 : (Try.prog.info? 118).isSome = true := by kernel_rfl
attribute [simp] Try.underlying119
@[simp] theorem cells_119 : Try.prog.cellsOf 119 = 1 := by kernel_rfl
@[simp] theorem bytes_119 : Try.prog.bytesOf 119 = 8 := by kernel_rfl
@[simp] theorem zval_119 : zval Try.prog 119 = some (.nilf) := by kernel_rfl
@[simp] theorem aggT_119 : aggT Try.prog 119 = some false := by kernel_rfl
@[simp] theorem info_119 : (Try.prog.info? 119).isSome = true := by kernel_rfl
attribute [simp] Try.underlying120
@[simp] theorem cells_120 : Try.prog.cellsOf 120 = 1 := by kernel_rfl
@[simp] theorem bytes_120 : Try.prog.bytesOf 120 = 8 := by kernel_rfl
@[simp] theorem zval_120 : zval Try.prog 120 = some (.nilf) := by kernel_rfl
@[simp] theorem aggT_120 : aggT Try.prog 120 = some false := by kernel_rfl
@[simp] theorem info_120 : (Try.prog.info? 120).isSome = true := by kernel_rfl
attribute [simp] Try.underlying121
@[simp] theorem cells_121 : Try.prog.cellsOf 121 = 1 := by kernel_rfl
@[simp] theorem bytes_121 : Try.prog.bytesOf 121 = 8 := by kernel_rfl
@[simp] theorem zval_121 : zval Try.prog 121 = some (.nilf) := by kernel_rfl
@[simp] theorem aggT_121 : aggT Try.prog 121 = some false := by kernel_rfl
@[simp] theorem info_121 : (Try.prog.info? 121).isSome = true := by kernel_rfl
attribute [simp] Try.underlying122
@[simp] theorem cells_122 : Try.prog.cellsOf 122 = 1 := by kernel_rfl
@[simp] theorem bytes_122 : Try.prog.bytesOf 122 = 8 := by kernel_rfl
@[simp] theorem zval_122 : zval Try.prog 122 = some (.nilf) := by kernel_rfl
@[simp] theorem aggT_122 : aggT Try.prog 122 = some false := by kernel_rfl
@[simp] theorem info_122 : (Try.prog.info? 122).isSome = true := by kernel_rfl
attribute [simp] Try.underlying123
@[simp] theorem cells_123 : Try.prog.cellsOf 123 = 1 := by kernel_rfl
@[simp] theorem bytes_123 : Try.prog.bytesOf 123 = 8 := by kernel_rfl
@[simp] theorem zval_123 : zval Try.prog 123 = some (.nilf) := by kernel_rfl
@[simp] theorem aggT_123 : aggT Try.prog 123 = some false := by kernel_rfl
@[simp] theorem info_123 : (Try.prog.info? 123).isSome = true := by kernel_rfl
attribute [simp] Try.underlying124
@[simp] theorem cells_124 : Try.prog.cellsOf 124 = 1 := by kernel_rfl
@[simp] theorem bytes_124 : Try.prog.bytesOf 124 = 8 := by kernel_rfl
@[simp] theorem zval_124 : zval Try.prog 124 = some (.nilp) := by kernel_rfl
@[simp] theorem aggT_124 : aggT Try.prog 124 = some false := by kernel_rfl
@[simp] theorem info_124 : (Try.prog.info? 124).isSome = true := by kernel_rfl
attribute [simp] Try.underlying125
@[simp] theorem cells_125 : Try.prog.cellsOf 125 = 2 := by kernel_rfl
@[simp] theorem bytes_125 : Try.prog.bytesOf 125 = 32 := by kernel_rfl
@[simp] theorem zval_125 : zval Try.prog 125 = some (.agg [.nils, .int .i64 0]) := by kernel_rfl
@[simp] theorem aggT_125 : aggT Try.prog 125 = some true := by kernel_rfl
@[simp] theorem info_125 : (Try.prog.info? 125).isSome = true := by kernel_rfl
attribute [simp] Try.underlying126
@[simp] theorem cells_126 : Try.prog.cellsOf 126 = 2 := by kernel_rfl
@[simp] theorem bytes_126 : Try.prog.bytesOf 126 = 32 := by kernel_rfl
@[simp] theorem zval_126 : zval Try.prog 126 = some (.agg [.nils, .int .i64 0]) := by kernel_rfl
@[simp] theorem aggT_126 : aggT Try.prog 126 = some true := by kernel_rfl
@[simp] theorem info_126 : (Try.prog.info? 126).isSome = true := by kernel_rfl
attribute [simp] Try.underlying127
@[simp] theorem cells_127 : Try.prog.cellsOf 127 = 1 := by kernel_rfl
@[simp] theorem bytes_127 : Try.prog.bytesOf 127 = 8 := by kernel_rfl
@[simp] theorem zval_127 : zval Try.prog 127 = some (.nilf) := by kernel_rfl
@[simp] theorem aggT_127 : aggT Try.prog 127 = some false := by kernel_rfl
@[simp] theorem info_127 : (Try.prog.info? 127).isSome = true := by kernel_rfl
attribute [simp] Try.underlying128
@[simp] theorem cells_128 : Try.prog.cellsOf 128 = 1 := by kernel_rfl
@[simp] theorem bytes_128 : Try.prog.bytesOf 128 = 8 := by kernel_rfl
@[simp] theorem zval_128 : zval Try.prog 128 = some (.nilf) := by kernel_rfl
@[simp] theorem aggT_128 : aggT Try.prog 128 = some false := by kernel_rfl
@[simp] theorem info_128 : (Try.prog.info? 128).isSome = true := by kernel_rfl
attribute [simp] Try.underlying129
@[simp] theorem cells_129 : Try.prog.cellsOf 129 = 3 := by kernel_rfl
@[simp] theorem bytes_129 : Try.prog.bytesOf 129 = 40 := by kernel_rfl
@[simp] theorem zval_129 : zval Try.prog 129 = some (.agg [.nils, .int .i64 0, .int .i64 0]) := by kernel_rfl
@[simp] theorem aggT_129 : aggT Try.prog 129 = some true := by kernel_rfl
@[simp] theorem info_129 : (Try.prog.info? 129).isSome = true := by kernel_rfl
attribute [simp] Try.underlying130
@[simp] theorem cells_130 : Try.prog.cellsOf 130 = 3 := by kernel_rfl
@[simp] theorem bytes_130 : Try.prog.bytesOf 130 = 40 := by kernel_rfl
@[simp] theorem zval_130 : zval Try.prog 130 = some (.agg [.nils, .int .i64 0, .int .i64 0]) := by kernel_rfl
@[simp] theorem aggT_130 : aggT Try.prog 130 = some true := by kernel_rfl
@[simp] theorem info_130 : (Try.prog.info? 130).isSome = true := by kernel_rfl
attribute [simp] Try.underlying131
@[simp] theorem cells_131 : Try.prog.cellsOf 131 = 1 := by kernel_rfl
@[simp] theorem bytes_131 : Try.prog.bytesOf 131 = 8 := by kernel_rfl
@[simp] theorem zval_131 : zval Try.prog 131 = some (.nilf) := by kernel_rfl
@[simp] theorem aggT_131 : aggT Try.prog 131 = some false := by kernel_rfl
@[simp] theorem info_131 : (Try.prog.info? 131).isSome = true := by kernel_rfl
attribute [simp] Try.underlying132
@[simp] theorem cells_132 : Try.prog.cellsOf 132 = 6 := by kernel_rfl
@[simp] theorem bytes_132 : Try.prog.bytesOf 132 = 64 := by kernel_rfl
@[simp] theorem zval_132 : zval Try.prog 132 = some (.agg [.int .i64 0, .int .i64 0, .nils, .int .i64 0, .int .i64 0, .int .i64 0]) := by kernel_rfl
@[simp] theorem aggT_132 : aggT Try.prog 132 = some true := by kernel_rfl
@[simp] theorem info_132 : (Try.prog.info? 132).isSome = true := by kernel_rfl
attribute [simp] Try.underlying133
@[simp] theorem cells_133 : Try.prog.cellsOf 133 = 6 := by kernel_rfl
@[simp] theorem bytes_133 : Try.prog.bytesOf 133 = 64 := by kernel_rfl
@[simp] theorem zval_133 : zval Try.prog 133 = some (.agg [.int .i64 0, .int .i64 0, .nils, .int .i64 0, .int .i64 0, .int .i64 0]) := by kernel_rfl
@[simp] theorem aggT_133 : aggT Try.prog 133 = some true := by kernel_rfl
@[simp] theorem info_133 : (Try.prog.info? 133).isSome = true := by kernel_rfl
attribute [simp] Try.underlying134
@[simp] theorem cells_134 : Try.prog.cellsOf 134 = 2 := by kernel_rfl
@[simp] theorem bytes_134 : Try.prog.bytesOf 134 = 16 := by kernel_rfl
@[simp] theorem zval_134 : zval Try.prog 134 = some (.agg [.bool false, .int .i64 0]) := by kernel_rfl
@[simp] theorem aggT_134 : aggT Try.prog 134 = some true := by kernel_rfl
@[simp] theorem info_134 : (Try.prog.info? 134).isSome = true := by kernel_rfl
attribute [simp] Try.underlying135
@[simp] theorem cells_135 : Try.prog.cellsOf 135 = 2 := by kernel_rfl
@[simp] theorem bytes_135 : Try.prog.bytesOf 135 = 16 := by kernel_rfl
@[simp] theorem zval_135 : zval Try.prog 135 = some (.agg [.bool false, .int .i64 0]) := by kernel_rfl
@[simp] theorem aggT_135 : aggT Try.prog 135 = some true := by kernel_rfl
@[simp] theorem info_135 : (Try.prog.info? 135).isSome = true := by kernel_rfl
attribute [simp] Try.underlying136
@[simp] theorem cells_136 : Try.prog.cellsOf 136 = 1 := by kernel_rfl
@[simp] theorem bytes_136 : Try.prog.bytesOf 136 = 8 := by kernel_rfl
@[simp] theorem zval_136 : zval Try.prog 136 = some (.nilf) := by kernel_rfl
@[simp] theorem aggT_136 : aggT Try.prog 136 = some false := by kernel_rfl
@[simp] theorem info_136 : (Try.prog.info? 136).isSome = true := by kernel_rfl
attribute [simp] Try.underlying137
@[simp] theorem cells_137 : Try.prog.cellsOf 137 = 1 := by kernel_rfl
@[simp] theorem bytes_137 : Try.prog.bytesOf 137 = 8 := by kernel_rfl
@[simp] theorem zval_137 : zval Try.prog 137 = some (.nilf) := by kernel_rfl
@[simp] theorem aggT_137 : aggT Try.prog 137 = some false := by kernel_rfl
@[simp] theorem info_137 : (Try.prog.info? 137).isSome = true := by kernel_rfl
attribute [simp] Try.underlying139
@[simp] theorem cells_139 : Try.prog.cellsOf 139 = 1 := by kernel_rfl
@[simp] theorem bytes_139 : Try.prog.bytesOf 139 = 8 := by kernel_rfl
@[simp] theorem zval_139 : zval Try.prog 139 = some (.nilf) := by kernel_rfl
@[simp] theorem aggT_139 : aggT Try.prog 139 = some false := by kernel_rfl
@[simp] theorem info_139 : (Try.prog.info? 139).isSome = true := by kernel_rfl
attribute [simp] Try.underlying140
@[simp] theorem cells_140 : Try.prog.cellsOf 140 = 1 := by kernel_rfl
@[simp] theorem bytes_140 : Try.prog.bytesOf 140 = 8 := by kernel_rfl
@[simp] theorem zval_140 : zval Try.prog 140 = some (.nilf) := by kernel_rfl
@[simp] theorem aggT_140 : aggT Try.prog 140 = some false := by kernel_rfl
@[simp] theorem info_140 : (Try.prog.info? 140).isSome = true := by kernel_rfl
attribute [simp] Try.underlying141
@[simp] theorem cells_141 : Try.prog.cellsOf 141 = 1 := by kernel_rfl
@[simp] theorem bytes_141 : Try.prog.bytesOf 141 = 8 := by kernel_rfl
@[simp] theorem zval_141 : zval Try.prog 141 = some (.nilf) := by kernel_rfl
@[simp] theorem aggT_141 : aggT Try.prog 141 = some false := by kernel_rfl
@[simp] theorem info_141 : (Try.prog.info? 141).isSome = true := by kernel_rfl
attribute [simp] Try.underlying142
@[simp] theorem cells_142 : Try.prog.cellsOf 142 = 1 := by kernel_rfl
@[simp] theorem bytes_142 : Try.prog.bytesOf 142 = 8 := by kernel_rfl
@[simp] theorem zval_142 : zval Try.prog 142 = some (.nilf) := by kernel_rfl
@[simp] theorem aggT_142 : aggT Try.prog 142 = some false := by kernel_rfl
@[simp] theorem info_142 : (Try.prog.info? 142).isSome = true := by kernel_rfl
attribute [simp] Try.underlying143
@[simp] theorem cells_143 : Try.prog.cellsOf 143 = 1 := by kernel_rfl
@[simp] theorem bytes_143 : Try.prog.bytesOf 143 = 8 := by kernel_rfl
@[simp] theorem zval_143 : zval Try.prog 143 = some (.nilf) := by kernel_rfl
@[simp] theorem aggT_143 : aggT Try.prog 143 = some false := by kernel_rfl
@[simp] theorem info_143 : (Try.prog.info? 143).isSome = true := by kernel_rfl
attribute [simp] Try.underlying144
@[simp] theorem cells_144 : Try.prog.cellsOf 144 = 1 := by kernel_rfl
@[simp] theorem bytes_144 : Try.prog.bytesOf 144 = 8 := by kernel_rfl
@[simp] theorem zval_144 : zval Try.prog 144 = some (.nilf) := by kernel_rfl
@[simp] theorem aggT_144 : aggT Try.prog 144 = some false := by kernel_rfl
@[simp] theorem info_144 : (Try.prog.info? 144).isSome = true := by kernel_rfl
attribute [simp] Try.underlying145
@[simp] theorem cells_145 : Try.prog.cellsOf 145 = 1 := by kernel_rfl
@[simp] theorem bytes_145 : Try.prog.bytesOf 145 = 8 := by kernel_rfl
@[simp] theorem zval_145 : zval Try.prog 145 = some (.int .u64 0) := by kernel_rfl
@[simp] theorem aggT_145 : aggT Try.prog 145 = some false := by kernel_rfl
@[simp] theorem info_145 : (Try.prog.info? 145).isSome = true := by kernel_rfl
attribute [simp] Try.underlying146
@[simp] theorem cells_146 : Try.prog.cellsOf 146 = 1 := by kernel_rfl
@[simp] theorem bytes_146 : Try.prog.bytesOf 146 = 8 := by kernel_rfl
@[simp] theorem zval_146 : zval Try.prog 146 = some (.nilf) := by kernel_rfl
@[simp] theorem aggT_146 : aggT Try.prog 146 = some false := by kernel_rfl
@[simp] theorem info_146 : (Try.prog.info? 146).isSome = true := by kernel_rfl
attribute [simp] Try.underlying148
@[simp] theorem cells_148 : Try.prog.cellsOf 148 = 1 := by kernel_rfl
@[simp] theorem bytes_148 : Try.prog.bytesOf 148 = 8 := by kernel_rfl
@[simp] theorem zval_148 : zval Try.prog 148 = some (.nilf) := by kernel_rfl
@[simp] theorem aggT_148 : aggT Try.prog 148 = some false := by kernel_rfl
@[simp] theorem info_148 : (Try.prog.info? 148).isSome = true := by kernel_rfl
attribute [simp] Try.underlying149
@[simp] theorem cells_149 : Try.prog.cellsOf 149 = 1 := by kernel_rfl
@[simp] theorem bytes_149 : Try.prog.bytesOf 149 = 24 := by kernel_rfl
@[simp] theorem zval_149 : zval Try.prog 149 = some (.nils) := by kernel_rfl
@[simp] theorem aggT_149 : aggT Try.prog 149 = some false := by kernel_rfl
@[simp] theorem info_149 : (Try.prog.info? 149).isSome = true := by kernel_rfl
attribute [simp] Try.underlying150
@[simp] theorem cells_150 : Try.prog.cellsOf 150 = 1 := by kernel_rfl
@[simp] theorem bytes_150 : Try.prog.bytesOf 150 = 8 := by kernel_rfl
@[simp] theorem zval_150 : zval Try.prog 150 = some (.nilf) := by kernel_rfl
@[simp] theorem aggT_150 : aggT Try.prog 150 = some false := by kernel_rfl
@[simp] theorem info_150 : (Try.prog.info? 150).isSome = true := by kernel_rfl
attribute [simp] Try.underlying152
@[simp] theorem cells_152 : Try.prog.cellsOf 152 = 1 := by kernel_rfl
@[simp] theorem bytes_152 : Try.prog.bytesOf 152 = 8 := by kernel_rfl
@[simp] theorem zval_152 : zval Try.prog 152 = some (.nilf) := by kernel_rfl
@[simp] theorem aggT_152 : aggT Try.prog 152 = some false := by kernel_rfl
@[simp] theorem info_152 : (Try.prog.info? 152).isSome = true := by kernel_rfl
attribute [simp] Try.underlying153
@[simp] theorem cells_153 : Try.prog.cellsOf 153 = 1 := by kernel_rfl
@[simp] theorem bytes_153 : Try.prog.bytesOf 153 = 8 := by kernel_rfl
@[simp] theorem zval_153 : zval Try.prog 153 = some (.nilf) := by kernel_rfl
@[simp] theorem aggT_153 : aggT Try.prog 153 = some false := by kernel_rfl
@[simp] theorem info_153 : (Try.prog.info? 153).isSome = true := by kernel_rfl
attribute [simp] Try.underlying154
@[simp] theorem cells_154 : Try.prog.cellsOf 154 = 1 := by kernel_rfl
@[simp] theorem bytes_154 : Try.prog.bytesOf 154 = 8 := by kernel_rfl
@[simp] theorem zval_154 : zval Try.prog 154 = some (.nilf) := by kernel_rfl
@[simp] theorem aggT_154 : aggT Try.prog 154 = some false := by kernel_rfl
@[simp] theorem info_154 : (Try.prog.info? 154).isSome = true := by kernel_rfl
attribute [simp] Try.underlying155
@[simp] theorem cells_155 : Try.prog.cellsOf 155 = 1 := by kernel_rfl
@[simp] theorem bytes_155 : Try.prog.bytesOf 155 = 8 := by kernel_rfl
@[simp] theorem zval_155 : zval Try.prog 155 = some (.nilf) := by kernel_rfl
@[simp] theorem aggT_155 : aggT Try.prog 155 = some false := by kernel_rfl
@[simp] theorem info_155 : (Try.prog.info? 155).isSome = true := by kernel_rfl
attribute [simp] Try.underlying156
@[simp] theorem cells_156 : Try.prog.cellsOf 156 = 1 := by kernel_rfl
@[simp] theorem bytes_156 : Try.prog.bytesOf 156 = 8 := by kernel_rfl
@[simp] theorem zval_156 : zval Try.prog 156 = some (.nilf) := by kernel_rfl
@[simp] theorem aggT_156 : aggT Try.prog 156 = some false := by kernel_rfl
@[simp] theorem info_156 : (Try.prog.info? 156).isSome = true := by kernel_rfl
attribute [simp] Try.underlying157
@[simp] theorem cells_157 : Try.prog.cellsOf 157 = 1 := by kernel_rfl
@[simp] theorem bytes_157 : Try.prog.bytesOf 157 = 2 := by kernel_rfl
@[simp] theorem zval_157 : zval Try.prog 157 = some (.int .u16 0) := by kernel_rfl
@[simp] theorem aggT_157 : aggT Try.prog 157 = some false := by kernel_rfl
@[simp] theorem info_157 : (Try.prog.info? 157).isSome = true := by kernel_rfl
attribute [simp] Try.underlying159
@[simp] theorem cells_159 : Try.prog.cellsOf 159 = 1 := by kernel_rfl
@[simp] theorem bytes_159 : Try.prog.bytesOf 159 = 8 := by kernel_rfl
@[simp] theorem zval_159 : zval Try.prog 159 = some (.nilf) := by kernel_rfl
@[simp] theorem aggT_159 : aggT Try.prog 159 = some false := by kernel_rfl
@[simp] theorem info_159 : (Try.prog.info? 159).isSome = true := by kernel_rfl
attribute [simp] Try.underlying160
@[simp] theorem cells_160 : Try.prog.cellsOf 160 = 3 := by kernel_rfl
@[simp] theorem bytes_160 : Try.prog.bytesOf 160 = 24 := by kernel_rfl
@[simp] theorem zval_160 : zval Try.prog 160 = some (.agg [.int .i64 0, .int .i64 0, .int .i64 0]) := by kernel_rfl
@[simp] theorem aggT_160 : aggT Try.prog 160 = some true := by kernel_rfl
@[simp] theorem info_160 : (Try.prog.info? 160).isSome = true := by kernel_rfl
attribute [simp] Try.underlying161
@[simp] theorem cells_161 : Try.prog.cellsOf 161 = 3 := by kernel_rfl
@[simp] theorem bytes_161 : Try.prog.bytesOf 161 = 24 := by kernel_rfl
@[simp] theorem zval_161 : zval Try.prog 161 = some (.agg [.int .i64 0, .int .i64 0, .int .i64 0]) := by kernel_rfl
@[simp] theorem aggT_161 : aggT Try.prog 161 = some true := by kernel_rfl
@[simp] theorem info_161 : (Try.prog.info? 161).isSome = true := by kernel_rfl
attribute [simp] Try.underlying162
@[simp] theorem cells_162 : Try.prog.cellsOf 162 = 1 := by kernel_rfl
@[simp] theorem bytes_162 : Try.prog.bytesOf 162 = 8 := by kernel_rfl
@[simp] theorem zval_162 : zval Try.prog 162 = some (.nilf) := by kernel_rfl
@[simp] theorem aggT_162 : aggT Try.prog 162 = some false := by kernel_rfl
@[simp] theorem info_162 : (Try.prog.info? 162).isSome = true := by kernel_rfl
attribute [simp] Try.underlying163
@[simp] theorem cells_163 : Try.prog.cellsOf 163 = 1 := by kernel_rfl
@[simp] theorem bytes_163 : Try.prog.bytesOf 163 = 8 := by kernel_rfl
@[simp] theorem zval_163 : zval Try.prog 163 = some (.nilf) := by kernel_rfl
@[simp] theorem aggT_163 : aggT Try.prog 163 = some false := by kernel_rfl
@[simp] theorem info_163 : (Try.prog.info? 163).isSome = true := by kernel_rfl
attribute [simp] Try.underlying164
@[simp] theorem cells_164 : Try.prog.cellsOf 164 = 1 := by kernel_rfl
@[simp] theorem bytes_164 : Try.prog.bytesOf 164 = 8 := by kernel_rfl
@[simp] theorem zval_164 : zval Try.prog 164 = some (.nilf) := by kernel_rfl
@[simp] theorem aggT_164 : aggT Try.prog 164 = some false := by kernel_rfl
@[simp] theorem info_164 : (Try.prog.info? 164).isSome = true := by kernel_rfl
attribute [simp] Try.underlying165
@[simp] theorem cells_165 : Try.prog.cellsOf 165 = 1 := by kernel_rfl
@[simp] theorem bytes_165 : Try.prog.bytesOf 165 = 8 := by kernel_rfl
@[simp] theorem zval_165 : zval Try.prog 165 = some (.nilf) := by kernel_rfl
@[simp] theorem aggT_165 : aggT Try.prog 165 = some false := by kernel_rfl
@[simp] theorem info_165 : (Try.prog.info? 165).isSome = true := by kernel_rfl
attribute [simp] Try.underlying166
@[simp] theorem cells_166 : Try.prog.cellsOf 166 = 1 := by kernel_rfl
@[simp] theorem bytes_166 : Try.prog.bytesOf 166 = 8 := by kernel_rfl
@[simp] theorem zval_166 : zval Try.prog 166 = some (.nilf) := by kernel_rfl
@[simp] theorem aggT_166 : aggT Try.prog 166 = some false := by kernel_rfl
@[simp] theorem info_166 : (Try.prog.info? 166).isSome = true := by kernel_rfl
attribute [simp] Try.underlying167
@[simp] theorem cells_167 : Try.prog.cellsOf 167 = 1 := by kernel_rfl
@[simp] theorem bytes_167 : Try.prog.bytesOf 167 = 8 := by kernel_rfl
@[simp] theorem zval_167 : zval Try.prog 167 = some (.nilf) := by kernel_rfl
@[simp] theorem aggT_167 : aggT Try.prog 167 = some false := by kernel_rfl
@[simp] theorem info_167 : (Try.prog.info? 167).isSome = true := by kernel_rfl
attribute [simp] Try.underlying168
@[simp] theorem cells_168 : Try.prog.cellsOf 168 = 1 := by kernel_rfl
@[simp] theorem bytes_168 : Try.prog.bytesOf 168 = 8 := by kernel_rfl
@[simp] theorem zval_168 : zval Try.prog 168 = some (.nilf) := by kernel_rfl
@[simp] theorem aggT_168 : aggT Try.prog 168 = some false := by kernel_rfl
@[simp] theorem info_168 : (Try.prog.info? 168).isSome = true := by kernel_rfl
attribute [simp] Try.underlying169
@[simp] theorem cells_169 : Try.prog.cellsOf 169 = 1 := by kernel_rfl
@[simp] theorem bytes_169 : Try.prog.bytesOf 169 = 8 := by kernel_rfl
@[simp] theorem zval_169 : zval Try.prog 169 = some (.nilf) := by kernel_rfl
@[simp] theorem aggT_169 : aggT Try.prog 169 = some false := by kernel_rfl
@[simp] theorem info_169 : (Try.prog.info? 169).isSome = true := by kernel_rfl
attribute [simp] Try.underlying170
@[simp] theorem cells_170 : Try.prog.cellsOf 170 = 1 := by kernel_rfl
@[simp] theorem bytes_170 : Try.prog.bytesOf 170 = 8 := by kernel_rfl
@[simp] theorem zval_170 : zval Try.prog 170 = some (.nilf) := by kernel_rfl
@[simp] theorem aggT_170 : aggT Try.prog 170 = some false := by kernel_rfl
@[simp] theorem info_170 : (Try.prog.info? 170).isSome = true := by kernel_rfl
attribute [simp] Try.underlying171
@[simp] theorem cells_171 : Try.prog.cellsOf 171 = 1 := by kernel_rfl
@[simp] theorem bytes_171 : Try.prog.bytesOf 171 = 8 := by kernel_rfl
@[simp] theorem zval_171 : zval Try.prog 171 = some (.nilf) := by kernel_rfl
@[simp] theorem aggT_171 : aggT Try.prog 171 = some false := by kernel_rfl
@[simp] theorem info_171 : (Try.prog.info? 171).isSome = true := by kernel_rfl
attribute [simp] Try.underlying172
@[simp] theorem cells_172 : Try.prog.cellsOf 172 = 1 := by kernel_rfl
@[simp] theorem bytes_172 : Try.prog.bytesOf 172 = 8 := by kernel_rfl
@[simp] theorem zval_172 : zval Try.prog 172 = some (.nilf) := by kernel_rfl
@[simp] theorem aggT_172 : aggT Try.prog 172 = some false := by kernel_rfl
@[simp] theorem info_172 : (Try.prog.info? 172).isSome = true := by kernel_rfl
attribute [simp] Try.underlying173
@[simp] theorem cells_173 : Try.prog.cellsOf 173 = 3 := by kernel_rfl
@[simp] theorem bytes_173 : Try.prog.bytesOf 173 = 40 := by kernel_rfl
@[simp] theorem zval_173 : zval Try.prog 173 = some (.agg [.int .i64 0, .int .i64 0, .nils]) := by kernel_rfl
@[simp] theorem aggT_173 : aggT Try.prog 173 = some true := by kernel_rfl
@[simp] theorem info_173 : (Try.prog.info? 173).isSome = true := by kernel_rfl
attribute [simp] Try.underlying174
@[simp] theorem cells_174 : Try.prog.cellsOf 174 = 3 := by kernel_rfl
@[simp] theorem bytes_174 : Try.prog.bytesOf 174 = 40 := by kernel_rfl
@[simp] theorem zval_174 : zval Try.prog 174 = some (.agg [.int .i64 0, .int .i64 0, .nils]) := by kernel_rfl
@[simp] theorem aggT_174 : aggT Try.prog 174 = some true := by kernel_rfl
@[simp] theorem info_174 : (Try.prog.info? 174).isSome = true := by kernel_rfl
attribute [simp] Try.underlying175
@[simp] theorem cells_175 : Try.prog.cellsOf 175 = 1 := by kernel_rfl
@[simp] theorem bytes_175 : Try.prog.bytesOf 175 = 8 := by kernel_rfl
@[simp] theorem zval_175 : zval Try.prog 175 = some (.nilf) := by kernel_rfl
@[simp] theorem aggT_175 : aggT Try.prog 175 = some false := by kernel_rfl
@[simp] theorem info_175 : (Try.prog.info? 175).isSome = true := by kernel_rfl
attribute [simp] Try.underlying177
@[simp] theorem cells_177 : Try.prog.cellsOf 177 = 1 := by kernel_rfl
@[simp] theorem bytes_177 : Try.prog.bytesOf 177 = 8 := by kernel_rfl
@[simp] theorem zval_177 : zval Try.prog 177 = some (.nilf) := by kernel_rfl
@[simp] theorem aggT_177 : aggT Try.prog 177 = some false := by kernel_rfl
@[simp] theorem info_177 : (Try.prog.info? 177).isSome = true := by kernel_rfl
attribute [simp] Try.underlying178
@[simp] theorem cells_178 : Try.prog.cellsOf 178 = 1 := by kernel_rfl
@[simp] theorem bytes_178 : Try.prog.bytesOf 178 = 8 := by kernel_rfl
@[simp] theorem zval_178 : zval Try.prog 178 = some (.nilf) := by kernel_rfl
@[simp] theorem aggT_178 : aggT Try.prog 178 = some false := by kernel_rfl
@[simp] theorem info_178 : (Try.prog.info? 178).isSome = true := by kernel_rfl
attribute [simp] Try.underlying179
@[simp] theorem cells_179 : Try.prog.cellsOf 179 = 1 := by kernel_rfl
@[simp] theorem bytes_179 : Try.prog.bytesOf 179 = 8 := by kernel_rfl
@[simp] theorem zval_179 : zval Try.prog 179 = some (.nilf) := by kernel_rfl
@[simp] theorem aggT_179 : aggT Try.prog 179 = some false := by kernel_rfl
@[simp] theorem info_179 : (Try.prog.info? 179).isSome = true := by kernel_rfl
attribute [simp] Try.underlying180
@[simp] theorem cells_180 : Try.prog.cellsOf 180 = 1 := by kernel_rfl
@[simp] theorem bytes_180 : Try.prog.bytesOf 180 = 8 := by kernel_rfl
@[simp] theorem zval_180 : zval Try.prog 180 = some (.nilf) := by kernel_rfl
@[simp] theorem aggT_180 : aggT Try.prog 180 = some false := by kernel_rfl
@[simp] theorem info_180 : (Try.prog.info? 180).isSome = true := by kernel_rfl
attribute [simp] Try.underlying181
@[simp] theorem cells_181 : Try.prog.cellsOf 181 = 1 := by kernel_rfl
@[simp] theorem bytes_181 : Try.prog.bytesOf 181 = 8 := by kernel_rfl
@[simp] theorem zval_181 : zval Try.prog 181 = some (.nilf) := by kernel_rfl
@[simp] theorem aggT_181 : aggT Try.prog 181 = some false := by kernel_rfl
@[simp] theorem info_181 : (Try.prog.info? 181).isSome = true := by kernel_rfl
attribute [simp] Try.underlying182
@[simp] theorem cells_182 : Try.prog.cellsOf 182 = 1 := by kernel_rfl
@[simp] theorem bytes_182 : Try.prog.bytesOf 182 = 8 := by kernel_rfl
@[simp] theorem zval_182 : zval Try.prog 182 = some (.nilf) := by kernel_rfl
@[simp] theorem aggT_182 : aggT Try.prog 182 = some false := by kernel_rfl
@[simp] theorem info_182 : (Try.prog.info? 182).isSome = true := by kernel_rfl
attribute [simp] Try.underlying183
@[simp] theorem cells_183 : Try.prog.cellsOf 183 = 1 := by kernel_rfl
@[simp] theorem bytes_183 : Try.prog.bytesOf 183 = 8 := by kernel_rfl
@[simp] theorem zval_183 : zval Try.prog 183 = some (.nilf) := by kernel_rfl
@[simp] theorem aggT_183 : aggT Try.prog 183 = some false := by kernel_rfl
@[simp] theorem info_183 : (Try.prog.info? 183).isSome = true := by kernel_rfl
attribute [simp] Try.underlying184
@[simp] theorem cells_184 : Try.prog.cellsOf 184 = 1 := by kernel_rfl
@[simp] theorem bytes_184 : Try.prog.bytesOf 184 = 8 := by kernel_rfl
@[simp] theorem zval_184 : zval Try.prog 184 = some (.nilf) := by kernel_rfl
@[simp] theorem aggT_184 : aggT Try.prog 184 = some false := by kernel_rfl
@[simp] theorem info_184 : (Try.prog.info? 184).isSome = true := by kernel_rfl
attribute [simp] Try.underlying185
@[simp] theorem cells_185 : Try.prog.cellsOf 185 = 1 := by kernel_rfl
@[simp] theorem bytes_185 : Try.prog.bytesOf 185 = 8 := by kernel_rfl
@[simp] theorem zval_185 : zval Try.prog 185 = some (.nilf) := by kernel_rfl
@[simp] theorem aggT_185 : aggT Try.prog 185 = some false := by kernel_rfl
@[simp] theorem info_185 : (Try.prog.info? 185).isSome = true := by kernel_rfl
attribute [simp] Try.underlying186
@[simp] theorem cells_186 : Try.prog.cellsOf 186 = 1 := by kernel_rfl
@[simp] theorem bytes_186 : Try.prog.bytesOf 186 = 8 := by kernel_rfl
@[simp] theorem zval_186 : zval Try.prog 186 = some (.nilf) := by kernel_rfl
@[simp] theorem aggT_186 : aggT Try.prog 186 = some false := by kernel_rfl
@[simp] theorem info_186 : (Try.prog.info? 186).isSome = true := by kernel_rfl
attribute [simp] Try.underlying187
@[simp] theorem cells_187 : Try.prog.cellsOf 187 = 1 := by kernel_rfl
@[simp] theorem bytes_187 : Try.prog.bytesOf 187 = 8 := by kernel_rfl
@[simp] theorem zval_187 : zval Try.prog 187 = some (.nilf) := by kernel_rfl
@[simp] theorem aggT_187 : aggT Try.prog 187 = some false := by kernel_rfl
@[simp] theorem info_187 : (Try.prog.info? 187).isSome = true := by kernel_rfl
attribute [simp] Try.underlying188
@[simp] theorem cells_188 : Try.prog.cellsOf 188 = 1 := by kernel_rfl
@[simp] theorem bytes_188 : Try.prog.bytesOf 188 = 16 := by kernel_rfl
@[simp] theorem zval_188 : zval Try.prog 188 = some (.nilif) := by kernel_rfl
@[simp] theorem aggT_188 : aggT Try.prog 188 = some false := by kernel_rfl
@[simp] theorem info_188 : (Try.prog.info? 188).isSome = true := by kernel_rfl
attribute [simp] Try.underlying189
@[simp] theorem cells_189 : Try.prog.cellsOf 189 = 1 := by kernel_rfl
@[simp] theorem bytes_189 : Try.prog.bytesOf 189 = 16 := by kernel_rfl
@[simp] theorem zval_189 : zval Try.prog 189 = some (.nilif) := by kernel_rfl
@[simp] theorem aggT_189 : aggT Try.prog 189 = some false := by kernel_rfl
@[simp] theorem info_189 : (Try.prog.info? 189).isSome = true := by kernel_rfl
attribute [simp] Try.underlying190
@[simp] theorem cells_190 : Try.prog.cellsOf 190 = 1 := by kernel_rfl
@[simp] theorem bytes_190 : Try.prog.bytesOf 190 = 8 := by kernel_rfl
@[simp] theorem zval_190 : zval Try.prog 190 = some (.nilf) := by kernel_rfl
@[simp] theorem aggT_190 : aggT Try.prog 190 = some false := by kernel_rfl
@[simp] theorem info_190 : (Try.prog.info? 190).isSome = true := by kernel_rfl
attribute [simp] Try.underlying191
@[simp] theorem cells_191 : Try.prog.cellsOf 191 = 6 := by kernel_rfl
@[simp] theorem bytes_191 : Try.prog.bytesOf 191 = 80 := by kernel_rfl
@[simp] theorem zval_191 : zval Try.prog 191 = some (.agg [.int .i64 0, .int .i64 0, .nils, .int .i64 0, .int .i64 0, .nils]) := by kernel_rfl
@[simp] theorem aggT_191 : aggT Try.prog 191 = some true := by kernel_rfl
@[simp] theorem info_191 : (Try.prog.info? 191).isSome = true := by kernel_rfl
attribute [simp] Try.underlying192
@[simp] theorem cells_192 : Try.prog.cellsOf 192 = 6 := by kernel_rfl
@[simp] theorem bytes_192 : Try.prog.bytesOf 192 = 80 := by kernel_rfl
@[simp] theorem zval_192 : zval Try.prog 192 = some (.agg [.int .i64 0, .int .i64 0, .nils, .int .i64 0, .int .i64 0, .nils]) := by kernel_rfl
@[simp] theorem aggT_192 : aggT Try.prog 192 = some true := by kernel_rfl
@[simp] theorem info_192 : (Try.prog.info? 192).isSome = true := by kernel_rfl
attribute [simp] Try.underlying193
@[simp] theorem cells_193 : Try.prog.cellsOf 193 = 6 := by kernel_rfl
@[simp] theorem bytes_193 : Try.prog.bytesOf 193 = 80 := by kernel_rfl
@[simp] theorem zval_193 : zval Try.prog 193 = some (.agg [.int .i64 0, .int .i64 0, .nils, .int .i64 0, .int .i64 0, .nils]) := by kernel_rfl
@[simp] theorem aggT_193 : aggT Try.prog 193 = some true := by kernel_rfl
@[simp] theorem info_193 : (Try.prog.info? 193).isSome = true := by kernel_rfl
attribute [simp] Try.underlying194
@[simp] theorem cells_194 : Try.prog.cellsOf 194 = 4 := by kernel_rfl
@[simp] theorem bytes_194 : Try.prog.bytesOf 194 = 48 := by kernel_rfl
@[simp] theorem zval_194 : zval Try.prog 194 = some (.agg [.int .i64 0, .int .i64 0, .int .i64 0, .nils]) := by kernel_rfl
@[simp] theorem aggT_194 : aggT Try.prog 194 = some true := by kernel_rfl
@[simp] theorem info_194 : (Try.prog.info? 194).isSome = true := by kernel_rfl
attribute [simp] Try.underlying195
@[simp] theorem cells_195 : Try.prog.cellsOf 195 = 4 := by kernel_rfl
@[simp] theorem bytes_195 : Try.prog.bytesOf 195 = 48 := by kernel_rfl
@[simp] theorem zval_195 : zval Try.prog 195 = some (.agg [.int .i64 0, .int .i64 0, .int .i64 0, .nils]) := by kernel_rfl
@[simp] theorem aggT_195 : aggT Try.prog 195 = some true := by kernel_rfl
@[simp] theorem info_195 : (Try.prog.info? 195).isSome = true := by kernel_rfl
attribute [simp] Try.underlying196
@[simp] theorem cells_196 : Try.prog.cellsOf 196 = 1 := by kernel_rfl
@[simp] theorem bytes_196 : Try.prog.bytesOf 196 = 8 := by kernel_rfl
@[simp] theorem zval_196 : zval Try.prog 196 = some (.nilf) := by kernel_rfl
@[simp] theorem aggT_196 : aggT Try.prog 196 = some false := by kernel_rfl
@[simp] theorem info_196 : (Try.prog.info? 196).isSome = true := by kernel_rfl
attribute [simp] Try.underlying197
@[simp] theorem cells_197 : Try.prog.cellsOf 197 = 4 := by kernel_rfl
@[simp] theorem bytes_197 : Try.prog.bytesOf 197 = 40 := by kernel_rfl
@[simp] theorem zval_197 : zval Try.prog 197 = some (.agg [.nilp, .nilp, .nilp, .str ⟨#[]⟩]) := by kernel_rfl
@[simp] theorem aggT_197 : aggT Try.prog 197 = some true := by kernel_rfl
@[simp] theorem info_197 : (Try.prog.info? 197).isSome = true := by kernel_rfl
attribute [simp] Try.underlying198
@[simp] theorem cells_198 : Try.prog.cellsOf 198 = 4 := by kernel_rfl
@[simp] theorem bytes_198 : Try.prog.bytesOf 198 = 40 := by kernel_rfl
@[simp] theorem zval_198 : zval Try.prog 198 = some (.agg [.nilp, .nilp, .nilp, .str ⟨#[]⟩]) := by kernel_rfl
@[simp] theorem aggT_198 : aggT Try.prog 198 = some true := by kernel_rfl
@[simp] theorem info_198 : (Try.prog.info? 198).isSome = true := by kernel_rfl
attribute [simp] Try.underlying199
@[simp] theorem cells_199 : Try.prog.cellsOf 199 = 0 := by kernel_rfl
@[simp] theorem bytes_199 : Try.prog.bytesOf 199 = 0 := by kernel_rfl
@[simp] theorem zval_199 : zval Try.prog 199 = some (.agg []) := by kernel_rfl
@[simp] theorem aggT_199 : aggT Try.prog 199 = some true := by kernel_rfl
@[simp] theorem info_199 : (Try.prog.info? 199).isSome = true := by kernel_rfl
attribute [simp] Try.underlying200
@[simp] theorem cells_200 : Try.prog.cellsOf 200 = 0 := by kernel_rfl
@[simp] theorem bytes_200 : Try.prog.bytesOf 200 = 0 := by kernel_rfl
@[simp] theorem zval_200 : zval Try.prog 200 = some (.agg []) := by kernel_rfl
@[simp] theorem aggT_200 : aggT Try.prog 200 = some true := by kernel_rfl
@[simp] theorem info_200 : (Try.prog.info? 200).isSome = true := by kernel_rfl
attribute [simp] Try.underlying201
@[simp] theorem cells_201 : Try.prog.cellsOf 201 = 0 := by kernel_rfl
@[simp] theorem bytes_201 : Try.prog.bytesOf 201 = 0 := by kernel_rfl
@[simp] theorem zval_201 : zval Try.prog 201 = some (.agg []) := by kernel_rfl
@[simp] theorem aggT_201 : aggT Try.prog 201 = some true := by kernel_rfl
@[simp] theorem info_201 : (Try.prog.info? 201).isSome = true := by kernel_rfl
attribute [simp] Try.underlying202
@[simp] theorem cells_202 : Try.prog.cellsOf 202 = 1 := by kernel_rfl
@[simp] theorem bytes_202 : Try.prog.bytesOf 202 = 1 := by kernel_rfl
@[simp] theorem zval_202 : zval Try.prog 202 = some (.int .u8 0) := by kernel_rfl
@[simp] theorem aggT_202 : aggT Try.prog 202 = some false := by kernel_rfl
@[simp] theorem info_202 : (Try.prog.info? 202).isSome = true := by kernel_rfl
attribute [simp] Try.underlying203
@[simp] theorem cells_203 : Try.prog.cellsOf 203 = 1 := by kernel_rfl
@[simp] theorem bytes_203 : Try.prog.bytesOf 203 = 1 := by kernel_rfl
@[simp] theorem zval_203 : zval Try.prog 203 = some (.int .u8 0) := by kernel_rfl
@[simp] theorem aggT_203 : aggT Try.prog 203 = some false := by kernel_rfl
@[simp] theorem info_203 : (Try.prog.info? 203).isSome = true := by kernel_rfl
attribute [simp] Try.underlying204
@[simp] theorem cells_204 : Try.prog.cellsOf 204 = 1 := by kernel_rfl
@[simp] theorem bytes_204 : Try.prog.bytesOf 204 = 8 := by kernel_rfl
@[simp] theorem zval_204 : zval Try.prog 204 = some (.nilf) := by kernel_rfl
@[simp] theorem aggT_204 : aggT Try.prog 204 = some false := by kernel_rfl
@[simp] theorem info_204 : (Try.prog.info? 204).isSome = true := by kernel_rfl
attribute [simp] Try.underlying205
@[simp] theorem cells_205 : Try.prog.cellsOf 205 = 1 := by kernel_rfl
@[simp] theorem bytes_205 : Try.prog.bytesOf 205 = 8 := by kernel_rfl
@[simp] theorem zval_205 : zval Try.prog 205 = some (.nilp) := by kernel_rfl
@[simp] theorem aggT_205 : aggT Try.prog 205 = some false := by kernel_rfl
@[simp] theorem info_205 : (Try.prog.info? 205).isSome = true := by kernel_rfl
attribute [simp] Try.underlying206
@[simp] theorem cells_206 : Try.prog.cellsOf 206 = 1 := by kernel_rfl
@[simp] theorem bytes_206 : Try.prog.bytesOf 206 = 4 := by kernel_rfl
@[simp] theorem zval_206 : zval Try.prog 206 = some (.int .i32 0) := by kernel_rfl
@[simp] theorem aggT_206 : aggT Try.prog 206 = some false := by kernel_rfl
@[simp] theorem info_206 : (Try.prog.info? 206).isSome = true := by kernel_rfl
attribute [simp] Try.underlying207
@[simp] theorem cells_207 : Try.prog.cellsOf 207 = 1 := by kernel_rfl
@[simp] theorem bytes_207 : Try.prog.bytesOf 207 = 4 := by kernel_rfl
@[simp] theorem zval_207 : zval Try.prog 207 = some (.int .i32 0) := by kernel_rfl
@[simp] theorem aggT_207 : aggT Try.prog 207 = some false := by kernel_rfl
@[simp] theorem info_207 : (Try.prog.info? 207).isSome = true := by kernel_rfl
attribute [simp] Try.underlying208
@[simp] theorem cells_208 : Try.prog.cellsOf 208 = 11 := by kernel_rfl
@[simp] theorem bytes_208 : Try.prog.bytesOf 208 = 48 := by kernel_rfl
@[simp] theorem zval_208 : zval Try.prog 208 = some (.agg [.int .u64 0, .int .u64 0, .int .u32 0, .int .u8 0, .int .u8 0, .int .u8 0, .int .u8 0, .nilf, .nilp, .int .i32 0, .int .i32 0]) := by kernel_rfl
@[simp] theorem aggT_208 : aggT Try.prog 208 = some true := by kernel_rfl
@[simp] theorem info_208 : (Try.prog.info? 208).isSome = true := by kernel_rfl
attribute [simp] Try.underlying209
@[simp] theorem cells_209 : Try.prog.cellsOf 209 = 11 := by kernel_rfl
@[simp] theorem bytes_209 : Try.prog.bytesOf 209 = 48 := by kernel_rfl
@[simp] theorem zval_209 : zval Try.prog 209 = some (.agg [.int .u64 0, .int .u64 0, .int .u32 0, .int .u8 0, .int .u8 0, .int .u8 0, .int .u8 0, .nilf, .nilp, .int .i32 0, .int .i32 0]) := by kernel_rfl
@[simp] theorem aggT_209 : aggT Try.prog 209 = some true := by kernel_rfl
@[simp] theorem info_209 : (Try.prog.info? 209).isSome = true := by kernel_rfl
attribute [simp] Try.underlying210
@[simp] theorem cells_210 : Try.prog.cellsOf 210 = 1 := by kernel_rfl
@[simp] theorem bytes_210 : Try.prog.bytesOf 210 = 8 := by kernel_rfl
@[simp] theorem zval_210 : zval Try.prog 210 = some (.nilf) := by kernel_rfl
@[simp] theorem aggT_210 : aggT Try.prog 210 = some false := by kernel_rfl
@[simp] theorem info_210 : (Try.prog.info? 210).isSome = true := by kernel_rfl
attribute [simp] Try.underlying211
@[simp] theorem cells_211 : Try.prog.cellsOf 211 = 1 := by kernel_rfl
@[simp] theorem bytes_211 : Try.prog.bytesOf 211 = 8 := by kernel_rfl
@[simp] theorem zval_211 : zval Try.prog 211 = some (.nilp) := by kernel_rfl
@[simp] theorem aggT_211 : aggT Try.prog 211 = some false := by kernel_rfl
@[simp] theorem info_211 : (Try.prog.info? 211).isSome = true := by kernel_rfl
theorem mixed : Try.prog.follows .mixedOrders = true := by kernel_rfl
end Go.Proofs.Ytdpphpdjimmpbaa.Ax
