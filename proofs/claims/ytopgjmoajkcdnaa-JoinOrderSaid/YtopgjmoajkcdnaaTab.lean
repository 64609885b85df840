/- The table of the program's types (printed by wip/gen/tab.py). -/
import Derived.Test.YtopgjmoajkcdnaaAbs24
import Derived.Test.YtopgjmoajkcdnaaRows
namespace Go.Proofs.Ytopgjmoajkcdnaa
set_option linter.all false
open Go Go.RowKit

def i2 : TI := ⟨.int .i64, 1, 8, .int .i64 0, []⟩
def i3 : TI := ⟨.int .i64, 1, 8, .int .i64 0, []⟩
def i4 : TI := ⟨.bool, 1, 1, .bool false, []⟩
def i5 : TI := ⟨.int .u8, 1, 1, .int .u8 0, []⟩
def i9 : TI := ⟨.str, 1, 16, .str .empty, []⟩
def i12 : TI := ⟨.int .u64, 1, 8, .int .u64 0, []⟩
def i20 : TI := ⟨.iface 0, 1, 16, .nilif, []⟩
def i21 : TI := ⟨.int .i32, 1, 4, .int .i32 0, []⟩
def i22 : TI := ⟨.slice 36 10, 1, 24, .nils, []⟩
def i23 : TI := ⟨.struct [(0, 22, 1)], 1, 24, .agg [.nils], []⟩
def i24 : TI := ⟨.struct [(0, 22, 1)], 1, 24, .agg [.nils], []⟩
def i25 : TI := ⟨.int .u16, 1, 2, .int .u16 0, []⟩
def i32 : TI := ⟨.int .u64, 1, 8, .int .u64 0, []⟩
def i33 : TI := ⟨.arr 4 32 1, 4, 32, .agg [.int .u64 0, .int .u64 0, .int .u64 0, .int .u64 0], [.int, .int, .int, .int]⟩
def i34 : TI := ⟨.arr 4 32 1, 4, 32, .agg [.int .u64 0, .int .u64 0, .int .u64 0, .int .u64 0], [.int, .int, .int, .int]⟩
def i35 : TI := ⟨.struct [(0, 3, 1), (1, 3, 1), (2, 3, 1), (3, 3, 1), (4, 3, 1), (5, 34, 4), (9, 9, 1)], 10, 88, .agg [.int .i64 0, .int .i64 0, .int .i64 0, .int .i64 0, .int .i64 0, .int .u64 0, .int .u64 0, .int .u64 0, .int .u64 0, .str .empty], [.int, .int, .int, .int, .int, .int, .int, .int, .int, .str]⟩
def i36 : TI := ⟨.struct [(0, 3, 1), (1, 3, 1), (2, 3, 1), (3, 3, 1), (4, 3, 1), (5, 34, 4), (9, 9, 1)], 10, 88, .agg [.int .i64 0, .int .i64 0, .int .i64 0, .int .i64 0, .int .i64 0, .int .u64 0, .int .u64 0, .int .u64 0, .int .u64 0, .str .empty], [.int, .int, .int, .int, .int, .int, .int, .int, .int, .str]⟩
def i43 : TI := ⟨.slice 3 1, 1, 24, .nils, []⟩
def i44 : TI := ⟨.struct [(0, 43, 1)], 1, 24, .agg [.nils], []⟩
def i45 : TI := ⟨.struct [(0, 43, 1)], 1, 24, .agg [.nils], []⟩
def i54 : TI := ⟨.slice 25 1, 1, 24, .nils, []⟩
def i61 : TI := ⟨.int .u64, 1, 8, .int .u64 0, []⟩
def i75 : TI := ⟨.int .u32, 1, 4, .int .u32 0, []⟩
def i79 : TI := ⟨.ptr 5, 1, 8, .nilp, []⟩
def tbl : List (Nat × TI) := [(2, i2), (3, i3), (4, i4), (5, i5), (9, i9), (12, i12), (20, i20), (21, i21), (22, i22), (23, i23), (24, i24), (25, i25), (32, i32), (33, i33), (34, i34), (35, i35), (36, i36), (43, i43), (44, i44), (45, i45), (54, i54), (61, i61), (75, i75), (79, i79)]
def tb : Nat → Option TI := look tbl
theorem mix : Try.prog.follows .mixedOrders = true := by kernel_rfl
theorem tb_ok : TbOk Try.prog tb := tblCheck_ok (by kernel_rfl)
theorem tb_2 : tb 2 = some ⟨.int .i64, 1, 8, .int .i64 0, []⟩ := by kernel_rfl
theorem tb_3 : tb 3 = some ⟨.int .i64, 1, 8, .int .i64 0, []⟩ := by kernel_rfl
theorem tb_4 : tb 4 = some ⟨.bool, 1, 1, .bool false, []⟩ := by kernel_rfl
theorem tb_5 : tb 5 = some ⟨.int .u8, 1, 1, .int .u8 0, []⟩ := by kernel_rfl
theorem tb_9 : tb 9 = some ⟨.str, 1, 16, .str .empty, []⟩ := by kernel_rfl
theorem tb_12 : tb 12 = some ⟨.int .u64, 1, 8, .int .u64 0, []⟩ := by kernel_rfl
theorem tb_20 : tb 20 = some ⟨.iface 0, 1, 16, .nilif, []⟩ := by kernel_rfl
theorem tb_21 : tb 21 = some ⟨.int .i32, 1, 4, .int .i32 0, []⟩ := by kernel_rfl
theorem tb_22 : tb 22 = some ⟨.slice 36 10, 1, 24, .nils, []⟩ := by kernel_rfl
theorem tb_23 : tb 23 = some ⟨.struct [(0, 22, 1)], 1, 24, .agg [.nils], []⟩ := by kernel_rfl
theorem tb_24 : tb 24 = some ⟨.struct [(0, 22, 1)], 1, 24, .agg [.nils], []⟩ := by kernel_rfl
theorem tb_25 : tb 25 = some ⟨.int .u16, 1, 2, .int .u16 0, []⟩ := by kernel_rfl
theorem tb_32 : tb 32 = some ⟨.int .u64, 1, 8, .int .u64 0, []⟩ := by kernel_rfl
theorem tb_33 : tb 33 = some ⟨.arr 4 32 1, 4, 32, .agg [.int .u64 0, .int .u64 0, .int .u64 0, .int .u64 0], [.int, .int, .int, .int]⟩ := by kernel_rfl
theorem tb_34 : tb 34 = some ⟨.arr 4 32 1, 4, 32, .agg [.int .u64 0, .int .u64 0, .int .u64 0, .int .u64 0], [.int, .int, .int, .int]⟩ := by kernel_rfl
theorem tb_35 : tb 35 = some ⟨.struct [(0, 3, 1), (1, 3, 1), (2, 3, 1), (3, 3, 1), (4, 3, 1), (5, 34, 4), (9, 9, 1)], 10, 88, .agg [.int .i64 0, .int .i64 0, .int .i64 0, .int .i64 0, .int .i64 0, .int .u64 0, .int .u64 0, .int .u64 0, .int .u64 0, .str .empty], [.int, .int, .int, .int, .int, .int, .int, .int, .int, .str]⟩ := by kernel_rfl
theorem tb_36 : tb 36 = some ⟨.struct [(0, 3, 1), (1, 3, 1), (2, 3, 1), (3, 3, 1), (4, 3, 1), (5, 34, 4), (9, 9, 1)], 10, 88, .agg [.int .i64 0, .int .i64 0, .int .i64 0, .int .i64 0, .int .i64 0, .int .u64 0, .int .u64 0, .int .u64 0, .int .u64 0, .str .empty], [.int, .int, .int, .int, .int, .int, .int, .int, .int, .str]⟩ := by kernel_rfl
theorem tb_43 : tb 43 = some ⟨.slice 3 1, 1, 24, .nils, []⟩ := by kernel_rfl
theorem tb_44 : tb 44 = some ⟨.struct [(0, 43, 1)], 1, 24, .agg [.nils], []⟩ := by kernel_rfl
theorem tb_45 : tb 45 = some ⟨.struct [(0, 43, 1)], 1, 24, .agg [.nils], []⟩ := by kernel_rfl
theorem tb_54 : tb 54 = some ⟨.slice 25 1, 1, 24, .nils, []⟩ := by kernel_rfl
theorem tb_61 : tb 61 = some ⟨.int .u64, 1, 8, .int .u64 0, []⟩ := by kernel_rfl
theorem tb_75 : tb 75 = some ⟨.int .u32, 1, 4, .int .u32 0, []⟩ := by kernel_rfl
theorem tb_79 : tb 79 = some ⟨.ptr 5, 1, 8, .nilp, []⟩ := by kernel_rfl
attribute [go_sem ↓] tb_2 tb_3 tb_4 tb_5 tb_9 tb_12 tb_20 tb_21 tb_22 tb_23 tb_24 tb_25 tb_32 tb_33 tb_34 tb_35 tb_36 tb_43 tb_44 tb_45 tb_54 tb_61 tb_75 tb_79
attribute [go_sem] i2 i3 i4 i5 i9 i12 i20 i21 i22 i23 i24 i25 i32 i33 i34 i35 i36 i43 i44 i45 i54 i61 i75 i79
end Go.Proofs.Ytopgjmoajkcdnaa
