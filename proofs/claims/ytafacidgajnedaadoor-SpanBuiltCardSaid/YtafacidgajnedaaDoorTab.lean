/- The table of the program's types (printed by wip/gen/tab.py). -/
import Derived.Test.YtafacidgajnedaaDoorAbsC
import Derived.Test.YtafacidgajnedaaDoorRows
namespace Go.Proofs.YtafacidgajnedaaDoor
set_option linter.all false
open Go Go.RowKit

def i2 : TI := ⟨.int .i64, 1, 8, .int .i64 0, []⟩
def i3 : TI := ⟨.int .i64, 1, 8, .int .i64 0, []⟩
def i4 : TI := ⟨.bool, 1, 1, .bool false, []⟩
def i5 : TI := ⟨.int .u8, 1, 1, .int .u8 0, []⟩
def i9 : TI := ⟨.str, 1, 16, .str .empty, []⟩
def i12 : TI := ⟨.int .u64, 1, 8, .int .u64 0, []⟩
def i20 : TI := ⟨.iface 0, 1, 16, .nilif, []⟩
def i21 : TI := ⟨.int .i32, 1, 4, .int .i32 0, []⟩
def i22 : TI := ⟨.slice 43 10, 1, 24, .nils, []⟩
def i23 : TI := ⟨.struct [(0, 22, 1)], 1, 24, .agg [.nils], []⟩
def i24 : TI := ⟨.struct [(0, 22, 1)], 1, 24, .agg [.nils], []⟩
def i25 : TI := ⟨.int .u16, 1, 2, .int .u16 0, []⟩
def i38 : TI := ⟨.int .u64, 1, 8, .int .u64 0, []⟩
def i39 : TI := ⟨.arr 4 38 1, 4, 32, .agg [.int .u64 0, .int .u64 0, .int .u64 0, .int .u64 0], [.int, .int, .int, .int]⟩
def i40 : TI := ⟨.arr 4 38 1, 4, 32, .agg [.int .u64 0, .int .u64 0, .int .u64 0, .int .u64 0], [.int, .int, .int, .int]⟩
def i42 : TI := ⟨.struct [(0, 3, 1), (1, 3, 1), (2, 3, 1), (3, 3, 1), (4, 3, 1), (5, 40, 4), (9, 9, 1)], 10, 88, .agg [.int .i64 0, .int .i64 0, .int .i64 0, .int .i64 0, .int .i64 0, .int .u64 0, .int .u64 0, .int .u64 0, .int .u64 0, .str .empty], [.int, .int, .int, .int, .int, .int, .int, .int, .int, .str]⟩
def i43 : TI := ⟨.struct [(0, 3, 1), (1, 3, 1), (2, 3, 1), (3, 3, 1), (4, 3, 1), (5, 40, 4), (9, 9, 1)], 10, 88, .agg [.int .i64 0, .int .i64 0, .int .i64 0, .int .i64 0, .int .i64 0, .int .u64 0, .int .u64 0, .int .u64 0, .int .u64 0, .str .empty], [.int, .int, .int, .int, .int, .int, .int, .int, .int, .str]⟩
def i46 : TI := ⟨.struct [(0, 3, 1), (1, 3, 1)], 2, 16, .agg [.int .i64 0, .int .i64 0], [.int, .int]⟩
def i47 : TI := ⟨.struct [(0, 3, 1), (1, 3, 1)], 2, 16, .agg [.int .i64 0, .int .i64 0], [.int, .int]⟩
def i52 : TI := ⟨.slice 3 1, 1, 24, .nils, []⟩
def i53 : TI := ⟨.slice 4 1, 1, 24, .nils, []⟩
def i69 : TI := ⟨.int .u32, 1, 4, .int .u32 0, []⟩
def i73 : TI := ⟨.ptr 5, 1, 8, .nilp, []⟩
def tbl : List (Nat × TI) := [(2, i2), (3, i3), (4, i4), (5, i5), (9, i9), (12, i12), (20, i20), (21, i21), (22, i22), (23, i23), (24, i24), (25, i25), (38, i38), (39, i39), (40, i40), (42, i42), (43, i43), (46, i46), (47, i47), (52, i52), (53, i53), (69, i69), (73, i73)]
def tb : Nat → Option TI := look tbl
theorem mix : Tryd.prog.follows .mixedOrders = true := by kernel_rfl
theorem tb_ok : TbOk Tryd.prog tb := tblCheck_ok (by kernel_rfl)
theorem tb_2 : tb 2 = some ⟨.int .i64, 1, 8, .int .i64 0, []⟩ := by kernel_rfl
theorem tb_3 : tb 3 = some ⟨.int .i64, 1, 8, .int .i64 0, []⟩ := by kernel_rfl
theorem tb_4 : tb 4 = some ⟨.bool, 1, 1, .bool false, []⟩ := by kernel_rfl
theorem tb_5 : tb 5 = some ⟨.int .u8, 1, 1, .int .u8 0, []⟩ := by kernel_rfl
theorem tb_9 : tb 9 = some ⟨.str, 1, 16, .str .empty, []⟩ := by kernel_rfl
theorem tb_12 : tb 12 = some ⟨.int .u64, 1, 8, .int .u64 0, []⟩ := by kernel_rfl
theorem tb_20 : tb 20 = some ⟨.iface 0, 1, 16, .nilif, []⟩ := by kernel_rfl
theorem tb_21 : tb 21 = some ⟨.int .i32, 1, 4, .int .i32 0, []⟩ := by kernel_rfl
theorem tb_22 : tb 22 = some ⟨.slice 43 10, 1, 24, .nils, []⟩ := by kernel_rfl
theorem tb_23 : tb 23 = some ⟨.struct [(0, 22, 1)], 1, 24, .agg [.nils], []⟩ := by kernel_rfl
theorem tb_24 : tb 24 = some ⟨.struct [(0, 22, 1)], 1, 24, .agg [.nils], []⟩ := by kernel_rfl
theorem tb_25 : tb 25 = some ⟨.int .u16, 1, 2, .int .u16 0, []⟩ := by kernel_rfl
theorem tb_38 : tb 38 = some ⟨.int .u64, 1, 8, .int .u64 0, []⟩ := by kernel_rfl
theorem tb_39 : tb 39 = some ⟨.arr 4 38 1, 4, 32, .agg [.int .u64 0, .int .u64 0, .int .u64 0, .int .u64 0], [.int, .int, .int, .int]⟩ := by kernel_rfl
theorem tb_40 : tb 40 = some ⟨.arr 4 38 1, 4, 32, .agg [.int .u64 0, .int .u64 0, .int .u64 0, .int .u64 0], [.int, .int, .int, .int]⟩ := by kernel_rfl
theorem tb_42 : tb 42 = some ⟨.struct [(0, 3, 1), (1, 3, 1), (2, 3, 1), (3, 3, 1), (4, 3, 1), (5, 40, 4), (9, 9, 1)], 10, 88, .agg [.int .i64 0, .int .i64 0, .int .i64 0, .int .i64 0, .int .i64 0, .int .u64 0, .int .u64 0, .int .u64 0, .int .u64 0, .str .empty], [.int, .int, .int, .int, .int, .int, .int, .int, .int, .str]⟩ := by kernel_rfl
theorem tb_43 : tb 43 = some ⟨.struct [(0, 3, 1), (1, 3, 1), (2, 3, 1), (3, 3, 1), (4, 3, 1), (5, 40, 4), (9, 9, 1)], 10, 88, .agg [.int .i64 0, .int .i64 0, .int .i64 0, .int .i64 0, .int .i64 0, .int .u64 0, .int .u64 0, .int .u64 0, .int .u64 0, .str .empty], [.int, .int, .int, .int, .int, .int, .int, .int, .int, .str]⟩ := by kernel_rfl
theorem tb_46 : tb 46 = some ⟨.struct [(0, 3, 1), (1, 3, 1)], 2, 16, .agg [.int .i64 0, .int .i64 0], [.int, .int]⟩ := by kernel_rfl
theorem tb_47 : tb 47 = some ⟨.struct [(0, 3, 1), (1, 3, 1)], 2, 16, .agg [.int .i64 0, .int .i64 0], [.int, .int]⟩ := by kernel_rfl
theorem tb_52 : tb 52 = some ⟨.slice 3 1, 1, 24, .nils, []⟩ := by kernel_rfl
theorem tb_53 : tb 53 = some ⟨.slice 4 1, 1, 24, .nils, []⟩ := by kernel_rfl
theorem tb_69 : tb 69 = some ⟨.int .u32, 1, 4, .int .u32 0, []⟩ := by kernel_rfl
theorem tb_73 : tb 73 = some ⟨.ptr 5, 1, 8, .nilp, []⟩ := by kernel_rfl
attribute [go_sem ↓] tb_2 tb_3 tb_4 tb_5 tb_9 tb_12 tb_20 tb_21 tb_22 tb_23 tb_24 tb_25 tb_38 tb_39 tb_40 tb_42 tb_43 tb_46 tb_47 tb_52 tb_53 tb_69 tb_73
attribute [go_sem] i2 i3 i4 i5 i9 i12 i20 i21 i22 i23 i24 i25 i38 i39 i40 i42 i43 i46 i47 i52 i53 i69 i73
def Z1 := @AW.seqC
def Z2 := @Cut.go
def Z3 := @AW.regionL
def Z4 := @AW.regionDL
def Z5 := @AW.condE
def Z6 := @AW.skip
def Z7 := @AW.exit
def Z8 := @AW.ret
def Z9 := @AW.blockC
def Za := @Bl.go
def Zb := @Bl.leave
def Zc := @Cut.out
def Zd := @Lp.out
def Ze := @Lw.out
def Zf := @Bl.ret
def Zg := @AW.goto
def Zh := @Sw.ret
def Zi := @Sw.go
def Zj := @Sw.exit
def Zk := @Bl.goto
def Zl := @Bl.exit
attribute [go_sem] ne_eq not_false_eq_true not_true_eq_false Nat.not_lt_zero decide_true decide_false
end Go.Proofs.YtafacidgajnedaaDoor
