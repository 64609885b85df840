/- The table of the program's types (printed by wip/gen/tab.py). -/
import Derived.Test.YtpnipapelnkjbaaDoorAbsC
import Derived.Test.YtpnipapelnkjbaaDoorRows
namespace Go.Proofs.YtpnipapelnkjbaaDoor
set_option linter.all false
open Go Go.RowKit

def i2 : TI := ⟨.int .i64, 1, 8, .int .i64 0, []⟩
def i3 : TI := ⟨.int .i64, 1, 8, .int .i64 0, []⟩
def i4 : TI := ⟨.bool, 1, 1, .bool false, []⟩
def i5 : TI := ⟨.int .u8, 1, 1, .int .u8 0, []⟩
def i9 : TI := ⟨.str, 1, 16, .str .empty, []⟩
def i12 : TI := ⟨.int .u64, 1, 8, .int .u64 0, []⟩
def i20 : TI := ⟨.iface 0, 1, 16, .nilif, []⟩
def i21 : TI := ⟨.int .i32, 1, 4, .int .i32 0, []⟩
def i22 : TI := ⟨.slice 36 10, 1, 24, .nils, []⟩
def i23 : TI := ⟨.struct [(0, 22, 1)], 1, 24, .agg [.nils], []⟩
def i24 : TI := ⟨.struct [(0, 22, 1)], 1, 24, .agg [.nils], []⟩
def i25 : TI := ⟨.int .u16, 1, 2, .int .u16 0, []⟩
def i32 : TI := ⟨.int .u64, 1, 8, .int .u64 0, []⟩
def i33 : TI := ⟨.arr 4 32 1, 4, 32, .agg [.int .u64 0, .int .u64 0, .int .u64 0, .int .u64 0], [.int, .int, .int, .int]⟩
def i34 : TI := ⟨.arr 4 32 1, 4, 32, .agg [.int .u64 0, .int .u64 0, .int .u64 0, .int .u64 0], [.int, .int, .int, .int]⟩
def i35 : TI := ⟨.struct [(0, 3, 1), (1, 3, 1), (2, 3, 1), (3, 3, 1), (4, 3, 1), (5, 34, 4), (9, 9, 1)], 10, 88, .agg [.int .i64 0, .int .i64 0, .int .i64 0, .int .i64 0, .int .i64 0, .int .u64 0, .int .u64 0, .int .u64 0, .int .u64 0, .str .empty], [.int, .int, .int, .int, .int, .int, .int, .int, .int, .str]⟩
def i36 : TI := ⟨.struct [(0, 3, 1), (1, 3, 1), (2, 3, 1), (3, 3, 1), (4, 3, 1), (5, 34, 4), (9, 9, 1)], 10, 88, .agg [.int .i64 0, .int .i64 0, .int .i64 0, .int .i64 0, .int .i64 0, .int .u64 0, .int .u64 0, .int .u64 0, .int .u64 0, .str .empty], [.int, .int, .int, .int, .int, .int, .int, .int, .int, .str]⟩
def i47 : TI := ⟨.int .i8, 1, 1, .int .i8 0, []⟩
def i49 : TI := ⟨.func, 1, 8, .nilfn, []⟩
def i54 : TI := ⟨.slice 3 1, 1, 24, .nils, []⟩
def i61 : TI := ⟨.iface 0, 1, 16, .nilif, []⟩
def i63 : TI := ⟨.struct [(0, 4, 1)], 1, 1, .agg [.bool false], [.bool]⟩
def i64 : TI := ⟨.struct [(0, 4, 1)], 1, 1, .agg [.bool false], [.bool]⟩
def i65 : TI := ⟨.struct [(0, 4, 1)], 1, 1, .agg [.bool false], [.bool]⟩
def i66 : TI := ⟨.struct [], 0, 0, .agg [], []⟩
def i67 : TI := ⟨.struct [], 0, 0, .agg [], []⟩
def i70 : TI := ⟨.slice 22 1, 1, 24, .nils, []⟩
def i72 : TI := ⟨.struct [], 0, 0, .agg [], []⟩
def i77 : TI := ⟨.arr 256 5 1, 256, 256, .agg [.int .u8 0, .int .u8 0, .int .u8 0, .int .u8 0, .int .u8 0, .int .u8 0, .int .u8 0, .int .u8 0, .int .u8 0, .int .u8 0, .int .u8 0, .int .u8 0, .int .u8 0, .int .u8 0, .int .u8 0, .int .u8 0, .int .u8 0, .int .u8 0, .int .u8 0, .int .u8 0, .int .u8 0, .int .u8 0, .int .u8 0, .int .u8 0, .int .u8 0, .int .u8 0, .int .u8 0, .int .u8 0, .int .u8 0, .int .u8 0, .int .u8 0, .int .u8 0, .int .u8 0, .int .u8 0, .int .u8 0, .int .u8 0, .int .u8 0, .int .u8 0, .int .u8 0, .int .u8 0, .int .u8 0, .int .u8 0, .int .u8 0, .int .u8 0, .int .u8 0, .int .u8 0, .int .u8 0, .int .u8 0, .int .u8 0, .int .u8 0, .int .u8 0, .int .u8 0, .int .u8 0, .int .u8 0, .int .u8 0, .int .u8 0, .int .u8 0, .int .u8 0, .int .u8 0, .int .u8 0, .int .u8 0, .int .u8 0, .int .u8 0, .int .u8 0, .int .u8 0, .int .u8 0, .int .u8 0, .int .u8 0, .int .u8 0, .int .u8 0, .int .u8 0, .int .u8 0, .int .u8 0, .int .u8 0, .int .u8 0, .int .u8 0, .int .u8 0, .int .u8 0, .int .u8 0, .int .u8 0, .int .u8 0, .int .u8 0, .int .u8 0, .int .u8 0, .int .u8 0, .int .u8 0, .int .u8 0, .int .u8 0, .int .u8 0, .int .u8 0, .int .u8 0, .int .u8 0, .int .u8 0, .int .u8 0, .int .u8 0, .int .u8 0, .int .u8 0, .int .u8 0, .int .u8 0, .int .u8 0, .int .u8 0, .int .u8 0, .int .u8 0, .int .u8 0, .int .u8 0, .int .u8 0, .int .u8 0, .int .u8 0, .int .u8 0, .int .u8 0, .int .u8 0, .int .u8 0, .int .u8 0, .int .u8 0, .int .u8 0, .int .u8 0, .int .u8 0, .int .u8 0, .int .u8 0, .int .u8 0, .int .u8 0, .int .u8 0, .int .u8 0, .int .u8 0, .int .u8 0, .int .u8 0, .int .u8 0, .int .u8 0, .int .u8 0, .int .u8 0, .int .u8 0, .int .u8 0, .int .u8 0, .int .u8 0, .int .u8 0, .int .u8 0, .int .u8 0, .int .u8 0, .int .u8 0, .int .u8 0, .int .u8 0, .int .u8 0, .int .u8 0, .int .u8 0, .int .u8 0, .int .u8 0, .int .u8 0, .int .u8 0, .int .u8 0, .int .u8 0, .int .u8 0, .int .u8 0, .int .u8 0, .int .u8 0, .int .u8 0, .int .u8 0, .int .u8 0, .int .u8 0, .int .u8 0, .int .u8 0, .int .u8 0, .int .u8 0, .int .u8 0, .int .u8 0, .int .u8 0, .int .u8 0, .int .u8 0, .int .u8 0, .int .u8 0, .int .u8 0, .int .u8 0, .int .u8 0, .int .u8 0, .int .u8 0, .int .u8 0, .int .u8 0, .int .u8 0, .int .u8 0, .int .u8 0, .int .u8 0, .int .u8 0, .int .u8 0, .int .u8 0, .int .u8 0, .int .u8 0, .int .u8 0, .int .u8 0, .int .u8 0, .int .u8 0, .int .u8 0, .int .u8 0, .int .u8 0, .int .u8 0, .int .u8 0, .int .u8 0, .int .u8 0, .int .u8 0, .int .u8 0, .int .u8 0, .int .u8 0, .int .u8 0, .int .u8 0, .int .u8 0, .int .u8 0, .int .u8 0, .int .u8 0, .int .u8 0, .int .u8 0, .int .u8 0, .int .u8 0, .int .u8 0, .int .u8 0, .int .u8 0, .int .u8 0, .int .u8 0, .int .u8 0, .int .u8 0, .int .u8 0, .int .u8 0, .int .u8 0, .int .u8 0, .int .u8 0, .int .u8 0, .int .u8 0, .int .u8 0, .int .u8 0, .int .u8 0, .int .u8 0, .int .u8 0, .int .u8 0, .int .u8 0, .int .u8 0, .int .u8 0, .int .u8 0, .int .u8 0, .int .u8 0, .int .u8 0, .int .u8 0, .int .u8 0, .int .u8 0, .int .u8 0, .int .u8 0, .int .u8 0, .int .u8 0, .int .u8 0, .int .u8 0, .int .u8 0, .int .u8 0, .int .u8 0, .int .u8 0, .int .u8 0, .int .u8 0, .int .u8 0, .int .u8 0, .int .u8 0, .int .u8 0], [.int, .int, .int, .int, .int, .int, .int, .int, .int, .int, .int, .int, .int, .int, .int, .int, .int, .int, .int, .int, .int, .int, .int, .int, .int, .int, .int, .int, .int, .int, .int, .int, .int, .int, .int, .int, .int, .int, .int, .int, .int, .int, .int, .int, .int, .int, .int, .int, .int, .int, .int, .int, .int, .int, .int, .int, .int, .int, .int, .int, .int, .int, .int, .int, .int, .int, .int, .int, .int, .int, .int, .int, .int, .int, .int, .int, .int, .int, .int, .int, .int, .int, .int, .int, .int, .int, .int, .int, .int, .int, .int, .int, .int, .int, .int, .int, .int, .int, .int, .int, .int, .int, .int, .int, .int, .int, .int, .int, .int, .int, .int, .int, .int, .int, .int, .int, .int, .int, .int, .int, .int, .int, .int, .int, .int, .int, .int, .int, .int, .int, .int, .int, .int, .int, .int, .int, .int, .int, .int, .int, .int, .int, .int, .int, .int, .int, .int, .int, .int, .int, .int, .int, .int, .int, .int, .int, .int, .int, .int, .int, .int, .int, .int, .int, .int, .int, .int, .int, .int, .int, .int, .int, .int, .int, .int, .int, .int, .int, .int, .int, .int, .int, .int, .int, .int, .int, .int, .int, .int, .int, .int, .int, .int, .int, .int, .int, .int, .int, .int, .int, .int, .int, .int, .int, .int, .int, .int, .int, .int, .int, .int, .int, .int, .int, .int, .int, .int, .int, .int, .int, .int, .int, .int, .int, .int, .int, .int, .int, .int, .int, .int, .int, .int, .int, .int, .int, .int, .int, .int, .int, .int, .int, .int, .int, .int, .int, .int, .int, .int, .int, .int, .int, .int, .int, .int, .int]⟩
def i78 : TI := ⟨.int .u64, 1, 8, .int .u64 0, []⟩
def i79 : TI := ⟨.struct [(0, 5, 1), (1, 5, 1)], 2, 2, .agg [.int .u8 0, .int .u8 0], [.int, .int]⟩
def i80 : TI := ⟨.struct [(0, 5, 1), (1, 5, 1)], 2, 2, .agg [.int .u8 0, .int .u8 0], [.int, .int]⟩
def i81 : TI := ⟨.arr 16 80 2, 32, 32, .agg [.int .u8 0, .int .u8 0, .int .u8 0, .int .u8 0, .int .u8 0, .int .u8 0, .int .u8 0, .int .u8 0, .int .u8 0, .int .u8 0, .int .u8 0, .int .u8 0, .int .u8 0, .int .u8 0, .int .u8 0, .int .u8 0, .int .u8 0, .int .u8 0, .int .u8 0, .int .u8 0, .int .u8 0, .int .u8 0, .int .u8 0, .int .u8 0, .int .u8 0, .int .u8 0, .int .u8 0, .int .u8 0, .int .u8 0, .int .u8 0, .int .u8 0, .int .u8 0], [.int, .int, .int, .int, .int, .int, .int, .int, .int, .int, .int, .int, .int, .int, .int, .int, .int, .int, .int, .int, .int, .int, .int, .int, .int, .int, .int, .int, .int, .int, .int, .int]⟩
def i83 : TI := ⟨.int .u32, 1, 4, .int .u32 0, []⟩
def i95 : TI := ⟨.ptr 5, 1, 8, .nilp, []⟩
def tbl : List (Nat × TI) := [(2, i2), (3, i3), (4, i4), (5, i5), (9, i9), (12, i12), (20, i20), (21, i21), (22, i22), (23, i23), (24, i24), (25, i25), (32, i32), (33, i33), (34, i34), (35, i35), (36, i36), (47, i47), (49, i49), (54, i54), (61, i61), (63, i63), (64, i64), (65, i65), (66, i66), (67, i67), (70, i70), (72, i72), (77, i77), (78, i78), (79, i79), (80, i80), (81, i81), (83, i83), (95, i95)]
def tb : Nat → Option TI := look tbl
theorem mix : Tryd.prog.follows .mixedOrders = true := by kernel_rfl
theorem tb_ok : TbOk Tryd.prog tb := tblCheck_ok (by kernel_rfl)
theorem tb_2 : tb 2 = some ⟨.int .i64, 1, 8, .int .i64 0, []⟩ := by kernel_rfl
theorem tb_3 : tb 3 = some ⟨.int .i64, 1, 8, .int .i64 0, []⟩ := by kernel_rfl
theorem tb_4 : tb 4 = some ⟨.bool, 1, 1, .bool false, []⟩ := by kernel_rfl
theorem tb_5 : tb 5 = some ⟨.int .u8, 1, 1, .int .u8 0, []⟩ := by kernel_rfl
theorem tb_9 : tb 9 = some ⟨.str, 1, 16, .str .empty, []⟩ := by kernel_rfl
theorem tb_12 : tb 12 = some ⟨.int .u64, 1, 8, .int .u64 0, []⟩ := by kernel_rfl
theorem tb_20 : tb 20 = some ⟨.iface 0, 1, 16, .nilif, []⟩ := by kernel_rfl
theorem tb_21 : tb 21 = some ⟨.int .i32, 1, 4, .int .i32 0, []⟩ := by kernel_rfl
theorem tb_22 : tb 22 = some ⟨.slice 36 10, 1, 24, .nils, []⟩ := by kernel_rfl
theorem tb_23 : tb 23 = some ⟨.struct [(0, 22, 1)], 1, 24, .agg [.nils], []⟩ := by kernel_rfl
theorem tb_24 : tb 24 = some ⟨.struct [(0, 22, 1)], 1, 24, .agg [.nils], []⟩ := by kernel_rfl
theorem tb_25 : tb 25 = some ⟨.int .u16, 1, 2, .int .u16 0, []⟩ := by kernel_rfl
theorem tb_32 : tb 32 = some ⟨.int .u64, 1, 8, .int .u64 0, []⟩ := by kernel_rfl
theorem tb_33 : tb 33 = some ⟨.arr 4 32 1, 4, 32, .agg [.int .u64 0, .int .u64 0, .int .u64 0, .int .u64 0], [.int, .int, .int, .int]⟩ := by kernel_rfl
theorem tb_34 : tb 34 = some ⟨.arr 4 32 1, 4, 32, .agg [.int .u64 0, .int .u64 0, .int .u64 0, .int .u64 0], [.int, .int, .int, .int]⟩ := by kernel_rfl
theorem tb_35 : tb 35 = some ⟨.struct [(0, 3, 1), (1, 3, 1), (2, 3, 1), (3, 3, 1), (4, 3, 1), (5, 34, 4), (9, 9, 1)], 10, 88, .agg [.int .i64 0, .int .i64 0, .int .i64 0, .int .i64 0, .int .i64 0, .int .u64 0, .int .u64 0, .int .u64 0, .int .u64 0, .str .empty], [.int, .int, .int, .int, .int, .int, .int, .int, .int, .str]⟩ := by kernel_rfl
theorem tb_36 : tb 36 = some ⟨.struct [(0, 3, 1), (1, 3, 1), (2, 3, 1), (3, 3, 1), (4, 3, 1), (5, 34, 4), (9, 9, 1)], 10, 88, .agg [.int .i64 0, .int .i64 0, .int .i64 0, .int .i64 0, .int .i64 0, .int .u64 0, .int .u64 0, .int .u64 0, .int .u64 0, .str .empty], [.int, .int, .int, .int, .int, .int, .int, .int, .int, .str]⟩ := by kernel_rfl
theorem tb_47 : tb 47 = some ⟨.int .i8, 1, 1, .int .i8 0, []⟩ := by kernel_rfl
theorem tb_49 : tb 49 = some ⟨.func, 1, 8, .nilfn, []⟩ := by kernel_rfl
theorem tb_54 : tb 54 = some ⟨.slice 3 1, 1, 24, .nils, []⟩ := by kernel_rfl
theorem tb_61 : tb 61 = some ⟨.iface 0, 1, 16, .nilif, []⟩ := by kernel_rfl
theorem tb_63 : tb 63 = some ⟨.struct [(0, 4, 1)], 1, 1, .agg [.bool false], [.bool]⟩ := by kernel_rfl
theorem tb_64 : tb 64 = some ⟨.struct [(0, 4, 1)], 1, 1, .agg [.bool false], [.bool]⟩ := by kernel_rfl
theorem tb_65 : tb 65 = some ⟨.struct [(0, 4, 1)], 1, 1, .agg [.bool false], [.bool]⟩ := by kernel_rfl
theorem tb_66 : tb 66 = some ⟨.struct [], 0, 0, .agg [], []⟩ := by kernel_rfl
theorem tb_67 : tb 67 = some ⟨.struct [], 0, 0, .agg [], []⟩ := by kernel_rfl
theorem tb_70 : tb 70 = some ⟨.slice 22 1, 1, 24, .nils, []⟩ := by kernel_rfl
theorem tb_72 : tb 72 = some ⟨.struct [], 0, 0, .agg [], []⟩ := by kernel_rfl
theorem tb_77 : tb 77 = some ⟨.arr 256 5 1, 256, 256, .agg [.int .u8 0, .int .u8 0, .int .u8 0, .int .u8 0, .int .u8 0, .int .u8 0, .int .u8 0, .int .u8 0, .int .u8 0, .int .u8 0, .int .u8 0, .int .u8 0, .int .u8 0, .int .u8 0, .int .u8 0, .int .u8 0, .int .u8 0, .int .u8 0, .int .u8 0, .int .u8 0, .int .u8 0, .int .u8 0, .int .u8 0, .int .u8 0, .int .u8 0, .int .u8 0, .int .u8 0, .int .u8 0, .int .u8 0, .int .u8 0, .int .u8 0, .int .u8 0, .int .u8 0, .int .u8 0, .int .u8 0, .int .u8 0, .int .u8 0, .int .u8 0, .int .u8 0, .int .u8 0, .int .u8 0, .int .u8 0, .int .u8 0, .int .u8 0, .int .u8 0, .int .u8 0, .int .u8 0, .int .u8 0, .int .u8 0, .int .u8 0, .int .u8 0, .int .u8 0, .int .u8 0, .int .u8 0, .int .u8 0, .int .u8 0, .int .u8 0, .int .u8 0, .int .u8 0, .int .u8 0, .int .u8 0, .int .u8 0, .int .u8 0, .int .u8 0, .int .u8 0, .int .u8 0, .int .u8 0, .int .u8 0, .int .u8 0, .int .u8 0, .int .u8 0, .int .u8 0, .int .u8 0, .int .u8 0, .int .u8 0, .int .u8 0, .int .u8 0, .int .u8 0, .int .u8 0, .int .u8 0, .int .u8 0, .int .u8 0, .int .u8 0, .int .u8 0, .int .u8 0, .int .u8 0, .int .u8 0, .int .u8 0, .int .u8 0, .int .u8 0, .int .u8 0, .int .u8 0, .int .u8 0, .int .u8 0, .int .u8 0, .int .u8 0, .int .u8 0, .int .u8 0, .int .u8 0, .int .u8 0, .int .u8 0, .int .u8 0, .int .u8 0, .int .u8 0, .int .u8 0, .int .u8 0, .int .u8 0, .int .u8 0, .int .u8 0, .int .u8 0, .int .u8 0, .int .u8 0, .int .u8 0, .int .u8 0, .int .u8 0, .int .u8 0, .int .u8 0, .int .u8 0, .int .u8 0, .int .u8 0, .int .u8 0, .int .u8 0, .int .u8 0, .int .u8 0, .int .u8 0, .int .u8 0, .int .u8 0, .int .u8 0, .int .u8 0, .int .u8 0, .int .u8 0, .int .u8 0, .int .u8 0, .int .u8 0, .int .u8 0, .int .u8 0, .int .u8 0, .int .u8 0, .int .u8 0, .int .u8 0, .int .u8 0, .int .u8 0, .int .u8 0, .int .u8 0, .int .u8 0, .int .u8 0, .int .u8 0, .int .u8 0, .int .u8 0, .int .u8 0, .int .u8 0, .int .u8 0, .int .u8 0, .int .u8 0, .int .u8 0, .int .u8 0, .int .u8 0, .int .u8 0, .int .u8 0, .int .u8 0, .int .u8 0, .int .u8 0, .int .u8 0, .int .u8 0, .int .u8 0, .int .u8 0, .int .u8 0, .int .u8 0, .int .u8 0, .int .u8 0, .int .u8 0, .int .u8 0, .int .u8 0, .int .u8 0, .int .u8 0, .int .u8 0, .int .u8 0, .int .u8 0, .int .u8 0, .int .u8 0, .int .u8 0, .int .u8 0, .int .u8 0, .int .u8 0, .int .u8 0, .int .u8 0, .int .u8 0, .int .u8 0, .int .u8 0, .int .u8 0, .int .u8 0, .int .u8 0, .int .u8 0, .int .u8 0, .int .u8 0, .int .u8 0, .int .u8 0, .int .u8 0, .int .u8 0, .int .u8 0, .int .u8 0, .int .u8 0, .int .u8 0, .int .u8 0, .int .u8 0, .int .u8 0, .int .u8 0, .int .u8 0, .int .u8 0, .int .u8 0, .int .u8 0, .int .u8 0, .int .u8 0, .int .u8 0, .int .u8 0, .int .u8 0, .int .u8 0, .int .u8 0, .int .u8 0, .int .u8 0, .int .u8 0, .int .u8 0, .int .u8 0, .int .u8 0, .int .u8 0, .int .u8 0, .int .u8 0, .int .u8 0, .int .u8 0, .int .u8 0, .int .u8 0, .int .u8 0, .int .u8 0, .int .u8 0, .int .u8 0, .int .u8 0, .int .u8 0, .int .u8 0, .int .u8 0, .int .u8 0, .int .u8 0, .int .u8 0, .int .u8 0, .int .u8 0, .int .u8 0, .int .u8 0, .int .u8 0, .int .u8 0, .int .u8 0, .int .u8 0, .int .u8 0, .int .u8 0, .int .u8 0, .int .u8 0, .int .u8 0, .int .u8 0], [.int, .int, .int, .int, .int, .int, .int, .int, .int, .int, .int, .int, .int, .int, .int, .int, .int, .int, .int, .int, .int, .int, .int, .int, .int, .int, .int, .int, .int, .int, .int, .int, .int, .int, .int, .int, .int, .int, .int, .int, .int, .int, .int, .int, .int, .int, .int, .int, .int, .int, .int, .int, .int, .int, .int, .int, .int, .int, .int, .int, .int, .int, .int, .int, .int, .int, .int, .int, .int, .int, .int, .int, .int, .int, .int, .int, .int, .int, .int, .int, .int, .int, .int, .int, .int, .int, .int, .int, .int, .int, .int, .int, .int, .int, .int, .int, .int, .int, .int, .int, .int, .int, .int, .int, .int, .int, .int, .int, .int, .int, .int, .int, .int, .int, .int, .int, .int, .int, .int, .int, .int, .int, .int, .int, .int, .int, .int, .int, .int, .int, .int, .int, .int, .int, .int, .int, .int, .int, .int, .int, .int, .int, .int, .int, .int, .int, .int, .int, .int, .int, .int, .int, .int, .int, .int, .int, .int, .int, .int, .int, .int, .int, .int, .int, .int, .int, .int, .int, .int, .int, .int, .int, .int, .int, .int, .int, .int, .int, .int, .int, .int, .int, .int, .int, .int, .int, .int, .int, .int, .int, .int, .int, .int, .int, .int, .int, .int, .int, .int, .int, .int, .int, .int, .int, .int, .int, .int, .int, .int, .int, .int, .int, .int, .int, .int, .int, .int, .int, .int, .int, .int, .int, .int, .int, .int, .int, .int, .int, .int, .int, .int, .int, .int, .int, .int, .int, .int, .int, .int, .int, .int, .int, .int, .int, .int, .int, .int, .int, .int, .int, .int, .int, .int, .int, .int, .int]⟩ := by kernel_rfl
theorem tb_78 : tb 78 = some ⟨.int .u64, 1, 8, .int .u64 0, []⟩ := by kernel_rfl
theorem tb_79 : tb 79 = some ⟨.struct [(0, 5, 1), (1, 5, 1)], 2, 2, .agg [.int .u8 0, .int .u8 0], [.int, .int]⟩ := by kernel_rfl
theorem tb_80 : tb 80 = some ⟨.struct [(0, 5, 1), (1, 5, 1)], 2, 2, .agg [.int .u8 0, .int .u8 0], [.int, .int]⟩ := by kernel_rfl
theorem tb_81 : tb 81 = some ⟨.arr 16 80 2, 32, 32, .agg [.int .u8 0, .int .u8 0, .int .u8 0, .int .u8 0, .int .u8 0, .int .u8 0, .int .u8 0, .int .u8 0, .int .u8 0, .int .u8 0, .int .u8 0, .int .u8 0, .int .u8 0, .int .u8 0, .int .u8 0, .int .u8 0, .int .u8 0, .int .u8 0, .int .u8 0, .int .u8 0, .int .u8 0, .int .u8 0, .int .u8 0, .int .u8 0, .int .u8 0, .int .u8 0, .int .u8 0, .int .u8 0, .int .u8 0, .int .u8 0, .int .u8 0, .int .u8 0], [.int, .int, .int, .int, .int, .int, .int, .int, .int, .int, .int, .int, .int, .int, .int, .int, .int, .int, .int, .int, .int, .int, .int, .int, .int, .int, .int, .int, .int, .int, .int, .int]⟩ := by kernel_rfl
theorem tb_83 : tb 83 = some ⟨.int .u32, 1, 4, .int .u32 0, []⟩ := by kernel_rfl
theorem tb_95 : tb 95 = some ⟨.ptr 5, 1, 8, .nilp, []⟩ := by kernel_rfl
attribute [go_sem ↓] tb_2 tb_3 tb_4 tb_5 tb_9 tb_12 tb_20 tb_21 tb_22 tb_23 tb_24 tb_25 tb_32 tb_33 tb_34 tb_35 tb_36 tb_47 tb_49 tb_54 tb_61 tb_63 tb_64 tb_65 tb_66 tb_67 tb_70 tb_72 tb_77 tb_78 tb_79 tb_80 tb_81 tb_83 tb_95
attribute [go_sem] i2 i3 i4 i5 i9 i12 i20 i21 i22 i23 i24 i25 i32 i33 i34 i35 i36 i47 i49 i54 i61 i63 i64 i65 i66 i67 i70 i72 i77 i78 i79 i80 i81 i83 i95
@[go_sem ↓] theorem mapT_52 : mapT Tryd.prog 52 = some (3, 49, .i64) := by kernel_rfl
def Z1 := @AW.seqC
def Z2 := @Cut.go
def Z3 := @AW.regionL
def Z4 := @AW.regionDL
def Z5 := @AW.condE
def Z6 := @AW.skip
def Z7 := @AW.exit
def Z8 := @AW.ret
def Z9 := @AW.blockC
def Za := @Bl.go
def Zb := @Bl.leave
def Zc := @Cut.out
def Zd := @Lp.out
def Ze := @Lw.out
def Zf := @Bl.ret
def Zg := @AW.goto
def Zh := @Sw.ret
def Zi := @Sw.go
def Zj := @Sw.exit
def Zk := @Bl.goto
def Zl := @Bl.exit
attribute [go_sem] ne_eq not_false_eq_true not_true_eq_false Nat.not_lt_zero decide_true decide_false
end Go.Proofs.YtpnipapelnkjbaaDoor
