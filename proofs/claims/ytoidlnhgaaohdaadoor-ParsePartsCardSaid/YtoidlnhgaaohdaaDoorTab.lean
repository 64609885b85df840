/- The table of the program's types (printed by wip/gen/tab.py). -/
import Derived.Test.YtoidlnhgaaohdaaDoorAbsC
import Derived.Test.YtoidlnhgaaohdaaDoorRows
namespace Go.Proofs.YtoidlnhgaaohdaaDoor
set_option linter.all false
open Go Go.RowKit

def i2 : TI := ⟨.int .i64, 1, 8, .int .i64 0, []⟩
def i3 : TI := ⟨.int .i64, 1, 8, .int .i64 0, []⟩
def i4 : TI := ⟨.bool, 1, 1, .bool false, []⟩
def i5 : TI := ⟨.int .u8, 1, 1, .int .u8 0, []⟩
def i9 : TI := ⟨.str, 1, 16, .str .empty, []⟩
def i12 : TI := ⟨.int .u64, 1, 8, .int .u64 0, []⟩
def i20 : TI := ⟨.iface 0, 1, 16, .nilif, []⟩
def i21 : TI := ⟨.int .i32, 1, 4, .int .i32 0, []⟩
def i22 : TI := ⟨.slice 36 9, 1, 24, .nils, []⟩
def i25 : TI := ⟨.slice 43 10, 1, 24, .nils, []⟩
def i26 : TI := ⟨.struct [(0, 25, 1)], 1, 24, .agg [.nils], []⟩
def i27 : TI := ⟨.struct [(0, 25, 1)], 1, 24, .agg [.nils], []⟩
def i28 : TI := ⟨.slice 3 1, 1, 24, .nils, []⟩
def i29 : TI := ⟨.int .i64, 1, 8, .int .i64 0, []⟩
def i32 : TI := ⟨.int .u64, 1, 8, .int .u64 0, []⟩
def i33 : TI := ⟨.arr 4 32 1, 4, 32, .agg [.int .u64 0, .int .u64 0, .int .u64 0, .int .u64 0], [.int, .int, .int, .int]⟩
def i34 : TI := ⟨.arr 4 32 1, 4, 32, .agg [.int .u64 0, .int .u64 0, .int .u64 0, .int .u64 0], [.int, .int, .int, .int]⟩
def i35 : TI := ⟨.struct [(0, 3, 1), (1, 3, 1), (2, 34, 4), (6, 9, 1), (7, 3, 1), (8, 3, 1)], 9, 80, .agg [.int .i64 0, .int .i64 0, .int .u64 0, .int .u64 0, .int .u64 0, .int .u64 0, .str .empty, .int .i64 0, .int .i64 0], [.int, .int, .int, .int, .int, .int, .str, .int, .int]⟩
def i36 : TI := ⟨.struct [(0, 3, 1), (1, 3, 1), (2, 34, 4), (6, 9, 1), (7, 3, 1), (8, 3, 1)], 9, 80, .agg [.int .i64 0, .int .i64 0, .int .u64 0, .int .u64 0, .int .u64 0, .int .u64 0, .str .empty, .int .i64 0, .int .i64 0], [.int, .int, .int, .int, .int, .int, .str, .int, .int]⟩
def i42 : TI := ⟨.struct [(0, 3, 1), (1, 3, 1), (2, 3, 1), (3, 3, 1), (4, 3, 1), (5, 34, 4), (9, 9, 1)], 10, 88, .agg [.int .i64 0, .int .i64 0, .int .i64 0, .int .i64 0, .int .i64 0, .int .u64 0, .int .u64 0, .int .u64 0, .int .u64 0, .str .empty], [.int, .int, .int, .int, .int, .int, .int, .int, .int, .str]⟩
def i43 : TI := ⟨.struct [(0, 3, 1), (1, 3, 1), (2, 3, 1), (3, 3, 1), (4, 3, 1), (5, 34, 4), (9, 9, 1)], 10, 88, .agg [.int .i64 0, .int .i64 0, .int .i64 0, .int .i64 0, .int .i64 0, .int .u64 0, .int .u64 0, .int .u64 0, .int .u64 0, .str .empty], [.int, .int, .int, .int, .int, .int, .int, .int, .int, .str]⟩
def i49 : TI := ⟨.struct [(0, 29, 1), (1, 3, 1)], 2, 16, .agg [.int .i64 0, .int .i64 0], [.int, .int]⟩
def i50 : TI := ⟨.struct [(0, 29, 1), (1, 3, 1)], 2, 16, .agg [.int .i64 0, .int .i64 0], [.int, .int]⟩
def i52 : TI := ⟨.ptr 54, 1, 8, .nilp, []⟩
def i53 : TI := ⟨.struct [(0, 22, 1), (1, 3, 1), (2, 28, 1), (3, 3, 1)], 4, 64, .agg [.nils, .int .i64 0, .nils, .int .i64 0], []⟩
def i54 : TI := ⟨.struct [(0, 22, 1), (1, 3, 1), (2, 28, 1), (3, 3, 1)], 4, 64, .agg [.nils, .int .i64 0, .nils, .int .i64 0], []⟩
def i55 : TI := ⟨.struct [(0, 27, 1), (1, 28, 1)], 2, 48, .agg [.nils, .nils], []⟩
def i56 : TI := ⟨.struct [(0, 27, 1), (1, 28, 1)], 2, 48, .agg [.nils, .nils], []⟩
def i80 : TI := ⟨.slice 28 1, 1, 24, .nils, []⟩
def i83 : TI := ⟨.slice 4 1, 1, 24, .nils, []⟩
def i90 : TI := ⟨.slice 25 1, 1, 24, .nils, []⟩
def i92 : TI := ⟨.iface 0, 1, 16, .nilif, []⟩
def i94 : TI := ⟨.struct [(0, 4, 1)], 1, 1, .agg [.bool false], [.bool]⟩
def i95 : TI := ⟨.struct [(0, 4, 1)], 1, 1, .agg [.bool false], [.bool]⟩
def i96 : TI := ⟨.struct [], 0, 0, .agg [], []⟩
def i97 : TI := ⟨.struct [], 0, 0, .agg [], []⟩
def i101 : TI := ⟨.struct [(0, 4, 1)], 1, 1, .agg [.bool false], [.bool]⟩
def i103 : TI := ⟨.struct [], 0, 0, .agg [], []⟩
def i108 : TI := ⟨.arr 256 5 1, 256, 256, .agg [.int .u8 0, .int .u8 0, .int .u8 0, .int .u8 0, .int .u8 0, .int .u8 0, .int .u8 0, .int .u8 0, .int .u8 0, .int .u8 0, .int .u8 0, .int .u8 0, .int .u8 0, .int .u8 0, .int .u8 0, .int .u8 0, .int .u8 0, .int .u8 0, .int .u8 0, .int .u8 0, .int .u8 0, .int .u8 0, .int .u8 0, .int .u8 0, .int .u8 0, .int .u8 0, .int .u8 0, .int .u8 0, .int .u8 0, .int .u8 0, .int .u8 0, .int .u8 0, .int .u8 0, .int .u8 0, .int .u8 0, .int .u8 0, .int .u8 0, .int .u8 0, .int .u8 0, .int .u8 0, .int .u8 0, .int .u8 0, .int .u8 0, .int .u8 0, .int .u8 0, .int .u8 0, .int .u8 0, .int .u8 0, .int .u8 0, .int .u8 0, .int .u8 0, .int .u8 0, .int .u8 0, .int .u8 0, .int .u8 0, .int .u8 0, .int .u8 0, .int .u8 0, .int .u8 0, .int .u8 0, .int .u8 0, .int .u8 0, .int .u8 0, .int .u8 0, .int .u8 0, .int .u8 0, .int .u8 0, .int .u8 0, .int .u8 0, .int .u8 0, .int .u8 0, .int .u8 0, .int .u8 0, .int .u8 0, .int .u8 0, .int .u8 0, .int .u8 0, .int .u8 0, .int .u8 0, .int .u8 0, .int .u8 0, .int .u8 0, .int .u8 0, .int .u8 0, .int .u8 0, .int .u8 0, .int .u8 0, .int .u8 0, .int .u8 0, .int .u8 0, .int .u8 0, .int .u8 0, .int .u8 0, .int .u8 0, .int .u8 0, .int .u8 0, .int .u8 0, .int .u8 0, .int .u8 0, .int .u8 0, .int .u8 0, .int .u8 0, .int .u8 0, .int .u8 0, .int .u8 0, .int .u8 0, .int .u8 0, .int .u8 0, .int .u8 0, .int .u8 0, .int .u8 0, .int .u8 0, .int .u8 0, .int .u8 0, .int .u8 0, .int .u8 0, .int .u8 0, .int .u8 0, .int .u8 0, .int .u8 0, .int .u8 0, .int .u8 0, .int .u8 0, .int .u8 0, .int .u8 0, .int .u8 0, .int .u8 0, .int .u8 0, .int .u8 0, .int .u8 0, .int .u8 0, .int .u8 0, .int .u8 0, .int .u8 0, .int .u8 0, .int .u8 0, .int .u8 0, .int .u8 0, .int .u8 0, .int .u8 0, .int .u8 0, .int .u8 0, .int .u8 0, .int .u8 0, .int .u8 0, .int .u8 0, .int .u8 0, .int .u8 0, .int .u8 0, .int .u8 0, .int .u8 0, .int .u8 0, .int .u8 0, .int .u8 0, .int .u8 0, .int .u8 0, .int .u8 0, .int .u8 0, .int .u8 0, .int .u8 0, .int .u8 0, .int .u8 0, .int .u8 0, .int .u8 0, .int .u8 0, .int .u8 0, .int .u8 0, .int .u8 0, .int .u8 0, .int .u8 0, .int .u8 0, .int .u8 0, .int .u8 0, .int .u8 0, .int .u8 0, .int .u8 0, .int .u8 0, .int .u8 0, .int .u8 0, .int .u8 0, .int .u8 0, .int .u8 0, .int .u8 0, .int .u8 0, .int .u8 0, .int .u8 0, .int .u8 0, .int .u8 0, .int .u8 0, .int .u8 0, .int .u8 0, .int .u8 0, .int .u8 0, .int .u8 0, .int .u8 0, .int .u8 0, .int .u8 0, .int .u8 0, .int .u8 0, .int .u8 0, .int .u8 0, .int .u8 0, .int .u8 0, .int .u8 0, .int .u8 0, .int .u8 0, .int .u8 0, .int .u8 0, .int .u8 0, .int .u8 0, .int .u8 0, .int .u8 0, .int .u8 0, .int .u8 0, .int .u8 0, .int .u8 0, .int .u8 0, .int .u8 0, .int .u8 0, .int .u8 0, .int .u8 0, .int .u8 0, .int .u8 0, .int .u8 0, .int .u8 0, .int .u8 0, .int .u8 0, .int .u8 0, .int .u8 0, .int .u8 0, .int .u8 0, .int .u8 0, .int .u8 0, .int .u8 0, .int .u8 0, .int .u8 0, .int .u8 0, .int .u8 0, .int .u8 0, .int .u8 0, .int .u8 0, .int .u8 0, .int .u8 0, .int .u8 0, .int .u8 0, .int .u8 0, .int .u8 0, .int .u8 0, .int .u8 0, .int .u8 0, .int .u8 0, .int .u8 0, .int .u8 0, .int .u8 0, .int .u8 0, .int .u8 0], [.int, .int, .int, .int, .int, .int, .int, .int, .int, .int, .int, .int, .int, .int, .int, .int, .int, .int, .int, .int, .int, .int, .int, .int, .int, .int, .int, .int, .int, .int, .int, .int, .int, .int, .int, .int, .int, .int, .int, .int, .int, .int, .int, .int, .int, .int, .int, .int, .int, .int, .int, .int, .int, .int, .int, .int, .int, .int, .int, .int, .int, .int, .int, .int, .int, .int, .int, .int, .int, .int, .int, .int, .int, .int, .int, .int, .int, .int, .int, .int, .int, .int, .int, .int, .int, .int, .int, .int, .int, .int, .int, .int, .int, .int, .int, .int, .int, .int, .int, .int, .int, .int, .int, .int, .int, .int, .int, .int, .int, .int, .int, .int, .int, .int, .int, .int, .int, .int, .int, .int, .int, .int, .int, .int, .int, .int, .int, .int, .int, .int, .int, .int, .int, .int, .int, .int, .int, .int, .int, .int, .int, .int, .int, .int, .int, .int, .int, .int, .int, .int, .int, .int, .int, .int, .int, .int, .int, .int, .int, .int, .int, .int, .int, .int, .int, .int, .int, .int, .int, .int, .int, .int, .int, .int, .int, .int, .int, .int, .int, .int, .int, .int, .int, .int, .int, .int, .int, .int, .int, .int, .int, .int, .int, .int, .int, .int, .int, .int, .int, .int, .int, .int, .int, .int, .int, .int, .int, .int, .int, .int, .int, .int, .int, .int, .int, .int, .int, .int, .int, .int, .int, .int, .int, .int, .int, .int, .int, .int, .int, .int, .int, .int, .int, .int, .int, .int, .int, .int, .int, .int, .int, .int, .int, .int, .int, .int, .int, .int, .int, .int, .int, .int, .int, .int, .int, .int]⟩
def i109 : TI := ⟨.int .u64, 1, 8, .int .u64 0, []⟩
def i110 : TI := ⟨.struct [(0, 5, 1), (1, 5, 1)], 2, 2, .agg [.int .u8 0, .int .u8 0], [.int, .int]⟩
def i111 : TI := ⟨.struct [(0, 5, 1), (1, 5, 1)], 2, 2, .agg [.int .u8 0, .int .u8 0], [.int, .int]⟩
def i112 : TI := ⟨.arr 16 111 2, 32, 32, .agg [.int .u8 0, .int .u8 0, .int .u8 0, .int .u8 0, .int .u8 0, .int .u8 0, .int .u8 0, .int .u8 0, .int .u8 0, .int .u8 0, .int .u8 0, .int .u8 0, .int .u8 0, .int .u8 0, .int .u8 0, .int .u8 0, .int .u8 0, .int .u8 0, .int .u8 0, .int .u8 0, .int .u8 0, .int .u8 0, .int .u8 0, .int .u8 0, .int .u8 0, .int .u8 0, .int .u8 0, .int .u8 0, .int .u8 0, .int .u8 0, .int .u8 0, .int .u8 0], [.int, .int, .int, .int, .int, .int, .int, .int, .int, .int, .int, .int, .int, .int, .int, .int, .int, .int, .int, .int, .int, .int, .int, .int, .int, .int, .int, .int, .int, .int, .int, .int]⟩
def i115 : TI := ⟨.int .u32, 1, 4, .int .u32 0, []⟩
def i124 : TI := ⟨.func, 1, 8, .nilfn, []⟩
def i128 : TI := ⟨.ptr 5, 1, 8, .nilp, []⟩
def tbl : List (Nat × TI) := [(2, i2), (3, i3), (4, i4), (5, i5), (9, i9), (12, i12), (20, i20), (21, i21), (22, i22), (25, i25), (26, i26), (27, i27), (28, i28), (29, i29), (32, i32), (33, i33), (34, i34), (35, i35), (36, i36), (42, i42), (43, i43), (49, i49), (50, i50), (52, i52), (53, i53), (54, i54), (55, i55), (56, i56), (80, i80), (83, i83), (90, i90), (92, i92), (94, i94), (95, i95), (96, i96), (97, i97), (101, i101), (103, i103), (108, i108), (109, i109), (110, i110), (111, i111), (112, i112), (115, i115), (124, i124), (128, i128)]
def tb : Nat → Option TI := look tbl
theorem mix : Tryd.prog.follows .mixedOrders = true := by kernel_rfl
theorem tb_ok : TbOk Tryd.prog tb := tblCheck_ok (by kernel_rfl)
theorem tb_2 : tb 2 = some ⟨.int .i64, 1, 8, .int .i64 0, []⟩ := by kernel_rfl
theorem tb_3 : tb 3 = some ⟨.int .i64, 1, 8, .int .i64 0, []⟩ := by kernel_rfl
theorem tb_4 : tb 4 = some ⟨.bool, 1, 1, .bool false, []⟩ := by kernel_rfl
theorem tb_5 : tb 5 = some ⟨.int .u8, 1, 1, .int .u8 0, []⟩ := by kernel_rfl
theorem tb_9 : tb 9 = some ⟨.str, 1, 16, .str .empty, []⟩ := by kernel_rfl
theorem tb_12 : tb 12 = some ⟨.int .u64, 1, 8, .int .u64 0, []⟩ := by kernel_rfl
theorem tb_20 : tb 20 = some ⟨.iface 0, 1, 16, .nilif, []⟩ := by kernel_rfl
theorem tb_21 : tb 21 = some ⟨.int .i32, 1, 4, .int .i32 0, []⟩ := by kernel_rfl
theorem tb_22 : tb 22 = some ⟨.slice 36 9, 1, 24, .nils, []⟩ := by kernel_rfl
theorem tb_25 : tb 25 = some ⟨.slice 43 10, 1, 24, .nils, []⟩ := by kernel_rfl
theorem tb_26 : tb 26 = some ⟨.struct [(0, 25, 1)], 1, 24, .agg [.nils], []⟩ := by kernel_rfl
theorem tb_27 : tb 27 = some ⟨.struct [(0, 25, 1)], 1, 24, .agg [.nils], []⟩ := by kernel_rfl
theorem tb_28 : tb 28 = some ⟨.slice 3 1, 1, 24, .nils, []⟩ := by kernel_rfl
theorem tb_29 : tb 29 = some ⟨.int .i64, 1, 8, .int .i64 0, []⟩ := by kernel_rfl
theorem tb_32 : tb 32 = some ⟨.int .u64, 1, 8, .int .u64 0, []⟩ := by kernel_rfl
theorem tb_33 : tb 33 = some ⟨.arr 4 32 1, 4, 32, .agg [.int .u64 0, .int .u64 0, .int .u64 0, .int .u64 0], [.int, .int, .int, .int]⟩ := by kernel_rfl
theorem tb_34 : tb 34 = some ⟨.arr 4 32 1, 4, 32, .agg [.int .u64 0, .int .u64 0, .int .u64 0, .int .u64 0], [.int, .int, .int, .int]⟩ := by kernel_rfl
theorem tb_35 : tb 35 = some ⟨.struct [(0, 3, 1), (1, 3, 1), (2, 34, 4), (6, 9, 1), (7, 3, 1), (8, 3, 1)], 9, 80, .agg [.int .i64 0, .int .i64 0, .int .u64 0, .int .u64 0, .int .u64 0, .int .u64 0, .str .empty, .int .i64 0, .int .i64 0], [.int, .int, .int, .int, .int, .int, .str, .int, .int]⟩ := by kernel_rfl
theorem tb_36 : tb 36 = some ⟨.struct [(0, 3, 1), (1, 3, 1), (2, 34, 4), (6, 9, 1), (7, 3, 1), (8, 3, 1)], 9, 80, .agg [.int .i64 0, .int .i64 0, .int .u64 0, .int .u64 0, .int .u64 0, .int .u64 0, .str .empty, .int .i64 0, .int .i64 0], [.int, .int, .int, .int, .int, .int, .str, .int, .int]⟩ := by kernel_rfl
theorem tb_42 : tb 42 = some ⟨.struct [(0, 3, 1), (1, 3, 1), (2, 3, 1), (3, 3, 1), (4, 3, 1), (5, 34, 4), (9, 9, 1)], 10, 88, .agg [.int .i64 0, .int .i64 0, .int .i64 0, .int .i64 0, .int .i64 0, .int .u64 0, .int .u64 0, .int .u64 0, .int .u64 0, .str .empty], [.int, .int, .int, .int, .int, .int, .int, .int, .int, .str]⟩ := by kernel_rfl
theorem tb_43 : tb 43 = some ⟨.struct [(0, 3, 1), (1, 3, 1), (2, 3, 1), (3, 3, 1), (4, 3, 1), (5, 34, 4), (9, 9, 1)], 10, 88, .agg [.int .i64 0, .int .i64 0, .int .i64 0, .int .i64 0, .int .i64 0, .int .u64 0, .int .u64 0, .int .u64 0, .int .u64 0, .str .empty], [.int, .int, .int, .int, .int, .int, .int, .int, .int, .str]⟩ := by kernel_rfl
theorem tb_49 : tb 49 = some ⟨.struct [(0, 29, 1), (1, 3, 1)], 2, 16, .agg [.int .i64 0, .int .i64 0], [.int, .int]⟩ := by kernel_rfl
theorem tb_50 : tb 50 = some ⟨.struct [(0, 29, 1), (1, 3, 1)], 2, 16, .agg [.int .i64 0, .int .i64 0], [.int, .int]⟩ := by kernel_rfl
theorem tb_52 : tb 52 = some ⟨.ptr 54, 1, 8, .nilp, []⟩ := by kernel_rfl
theorem tb_53 : tb 53 = some ⟨.struct [(0, 22, 1), (1, 3, 1), (2, 28, 1), (3, 3, 1)], 4, 64, .agg [.nils, .int .i64 0, .nils, .int .i64 0], []⟩ := by kernel_rfl
theorem tb_54 : tb 54 = some ⟨.struct [(0, 22, 1), (1, 3, 1), (2, 28, 1), (3, 3, 1)], 4, 64, .agg [.nils, .int .i64 0, .nils, .int .i64 0], []⟩ := by kernel_rfl
theorem tb_55 : tb 55 = some ⟨.struct [(0, 27, 1), (1, 28, 1)], 2, 48, .agg [.nils, .nils], []⟩ := by kernel_rfl
theorem tb_56 : tb 56 = some ⟨.struct [(0, 27, 1), (1, 28, 1)], 2, 48, .agg [.nils, .nils], []⟩ := by kernel_rfl
theorem tb_80 : tb 80 = some ⟨.slice 28 1, 1, 24, .nils, []⟩ := by kernel_rfl
theorem tb_83 : tb 83 = some ⟨.slice 4 1, 1, 24, .nils, []⟩ := by kernel_rfl
theorem tb_90 : tb 90 = some ⟨.slice 25 1, 1, 24, .nils, []⟩ := by kernel_rfl
theorem tb_92 : tb 92 = some ⟨.iface 0, 1, 16, .nilif, []⟩ := by kernel_rfl
theorem tb_94 : tb 94 = some ⟨.struct [(0, 4, 1)], 1, 1, .agg [.bool false], [.bool]⟩ := by kernel_rfl
theorem tb_95 : tb 95 = some ⟨.struct [(0, 4, 1)], 1, 1, .agg [.bool false], [.bool]⟩ := by kernel_rfl
theorem tb_96 : tb 96 = some ⟨.struct [], 0, 0, .agg [], []⟩ := by kernel_rfl
theorem tb_97 : tb 97 = some ⟨.struct [], 0, 0, .agg [], []⟩ := by kernel_rfl
theorem tb_101 : tb 101 = some ⟨.struct [(0, 4, 1)], 1, 1, .agg [.bool false], [.bool]⟩ := by kernel_rfl
theorem tb_103 : tb 103 = some ⟨.struct [], 0, 0, .agg [], []⟩ := by kernel_rfl
theorem tb_108 : tb 108 = some ⟨.arr 256 5 1, 256, 256, .agg [.int .u8 0, .int .u8 0, .int .u8 0, .int .u8 0, .int .u8 0, .int .u8 0, .int .u8 0, .int .u8 0, .int .u8 0, .int .u8 0, .int .u8 0, .int .u8 0, .int .u8 0, .int .u8 0, .int .u8 0, .int .u8 0, .int .u8 0, .int .u8 0, .int .u8 0, .int .u8 0, .int .u8 0, .int .u8 0, .int .u8 0, .int .u8 0, .int .u8 0, .int .u8 0, .int .u8 0, .int .u8 0, .int .u8 0, .int .u8 0, .int .u8 0, .int .u8 0, .int .u8 0, .int .u8 0, .int .u8 0, .int .u8 0, .int .u8 0, .int .u8 0, .int .u8 0, .int .u8 0, .int .u8 0, .int .u8 0, .int .u8 0, .int .u8 0, .int .u8 0, .int .u8 0, .int .u8 0, .int .u8 0, .int .u8 0, .int .u8 0, .int .u8 0, .int .u8 0, .int .u8 0, .int .u8 0, .int .u8 0, .int .u8 0, .int .u8 0, .int .u8 0, .int .u8 0, .int .u8 0, .int .u8 0, .int .u8 0, .int .u8 0, .int .u8 0, .int .u8 0, .int .u8 0, .int .u8 0, .int .u8 0, .int .u8 0, .int .u8 0, .int .u8 0, .int .u8 0, .int .u8 0, .int .u8 0, .int .u8 0, .int .u8 0, .int .u8 0, .int .u8 0, .int .u8 0, .int .u8 0, .int .u8 0, .int .u8 0, .int .u8 0, .int .u8 0, .int .u8 0, .int .u8 0, .int .u8 0, .int .u8 0, .int .u8 0, .int .u8 0, .int .u8 0, .int .u8 0, .int .u8 0, .int .u8 0, .int .u8 0, .int .u8 0, .int .u8 0, .int .u8 0, .int .u8 0, .int .u8 0, .int .u8 0, .int .u8 0, .int .u8 0, .int .u8 0, .int .u8 0, .int .u8 0, .int .u8 0, .int .u8 0, .int .u8 0, .int .u8 0, .int .u8 0, .int .u8 0, .int .u8 0, .int .u8 0, .int .u8 0, .int .u8 0, .int .u8 0, .int .u8 0, .int .u8 0, .int .u8 0, .int .u8 0, .int .u8 0, .int .u8 0, .int .u8 0, .int .u8 0, .int .u8 0, .int .u8 0, .int .u8 0, .int .u8 0, .int .u8 0, .int .u8 0, .int .u8 0, .int .u8 0, .int .u8 0, .int .u8 0, .int .u8 0, .int .u8 0, .int .u8 0, .int .u8 0, .int .u8 0, .int .u8 0, .int .u8 0, .int .u8 0, .int .u8 0, .int .u8 0, .int .u8 0, .int .u8 0, .int .u8 0, .int .u8 0, .int .u8 0, .int .u8 0, .int .u8 0, .int .u8 0, .int .u8 0, .int .u8 0, .int .u8 0, .int .u8 0, .int .u8 0, .int .u8 0, .int .u8 0, .int .u8 0, .int .u8 0, .int .u8 0, .int .u8 0, .int .u8 0, .int .u8 0, .int .u8 0, .int .u8 0, .int .u8 0, .int .u8 0, .int .u8 0, .int .u8 0, .int .u8 0, .int .u8 0, .int .u8 0, .int .u8 0, .int .u8 0, .int .u8 0, .int .u8 0, .int .u8 0, .int .u8 0, .int .u8 0, .int .u8 0, .int .u8 0, .int .u8 0, .int .u8 0, .int .u8 0, .int .u8 0, .int .u8 0, .int .u8 0, .int .u8 0, .int .u8 0, .int .u8 0, .int .u8 0, .int .u8 0, .int .u8 0, .int .u8 0, .int .u8 0, .int .u8 0, .int .u8 0, .int .u8 0, .int .u8 0, .int .u8 0, .int .u8 0, .int .u8 0, .int .u8 0, .int .u8 0, .int .u8 0, .int .u8 0, .int .u8 0, .int .u8 0, .int .u8 0, .int .u8 0, .int .u8 0, .int .u8 0, .int .u8 0, .int .u8 0, .int .u8 0, .int .u8 0, .int .u8 0, .int .u8 0, .int .u8 0, .int .u8 0, .int .u8 0, .int .u8 0, .int .u8 0, .int .u8 0, .int .u8 0, .int .u8 0, .int .u8 0, .int .u8 0, .int .u8 0, .int .u8 0, .int .u8 0, .int .u8 0, .int .u8 0, .int .u8 0, .int .u8 0, .int .u8 0, .int .u8 0, .int .u8 0, .int .u8 0, .int .u8 0, .int .u8 0, .int .u8 0, .int .u8 0, .int .u8 0, .int .u8 0, .int .u8 0, .int .u8 0, .int .u8 0, .int .u8 0, .int .u8 0, .int .u8 0, .int .u8 0, .int .u8 0], [.int, .int, .int, .int, .int, .int, .int, .int, .int, .int, .int, .int, .int, .int, .int, .int, .int, .int, .int, .int, .int, .int, .int, .int, .int, .int, .int, .int, .int, .int, .int, .int, .int, .int, .int, .int, .int, .int, .int, .int, .int, .int, .int, .int, .int, .int, .int, .int, .int, .int, .int, .int, .int, .int, .int, .int, .int, .int, .int, .int, .int, .int, .int, .int, .int, .int, .int, .int, .int, .int, .int, .int, .int, .int, .int, .int, .int, .int, .int, .int, .int, .int, .int, .int, .int, .int, .int, .int, .int, .int, .int, .int, .int, .int, .int, .int, .int, .int, .int, .int, .int, .int, .int, .int, .int, .int, .int, .int, .int, .int, .int, .int, .int, .int, .int, .int, .int, .int, .int, .int, .int, .int, .int, .int, .int, .int, .int, .int, .int, .int, .int, .int, .int, .int, .int, .int, .int, .int, .int, .int, .int, .int, .int, .int, .int, .int, .int, .int, .int, .int, .int, .int, .int, .int, .int, .int, .int, .int, .int, .int, .int, .int, .int, .int, .int, .int, .int, .int, .int, .int, .int, .int, .int, .int, .int, .int, .int, .int, .int, .int, .int, .int, .int, .int, .int, .int, .int, .int, .int, .int, .int, .int, .int, .int, .int, .int, .int, .int, .int, .int, .int, .int, .int, .int, .int, .int, .int, .int, .int, .int, .int, .int, .int, .int, .int, .int, .int, .int, .int, .int, .int, .int, .int, .int, .int, .int, .int, .int, .int, .int, .int, .int, .int, .int, .int, .int, .int, .int, .int, .int, .int, .int, .int, .int, .int, .int, .int, .int, .int, .int, .int, .int, .int, .int, .int, .int]⟩ := by kernel_rfl
theorem tb_109 : tb 109 = some ⟨.int .u64, 1, 8, .int .u64 0, []⟩ := by kernel_rfl
theorem tb_110 : tb 110 = some ⟨.struct [(0, 5, 1), (1, 5, 1)], 2, 2, .agg [.int .u8 0, .int .u8 0], [.int, .int]⟩ := by kernel_rfl
theorem tb_111 : tb 111 = some ⟨.struct [(0, 5, 1), (1, 5, 1)], 2, 2, .agg [.int .u8 0, .int .u8 0], [.int, .int]⟩ := by kernel_rfl
theorem tb_112 : tb 112 = some ⟨.arr 16 111 2, 32, 32, .agg [.int .u8 0, .int .u8 0, .int .u8 0, .int .u8 0, .int .u8 0, .int .u8 0, .int .u8 0, .int .u8 0, .int .u8 0, .int .u8 0, .int .u8 0, .int .u8 0, .int .u8 0, .int .u8 0, .int .u8 0, .int .u8 0, .int .u8 0, .int .u8 0, .int .u8 0, .int .u8 0, .int .u8 0, .int .u8 0, .int .u8 0, .int .u8 0, .int .u8 0, .int .u8 0, .int .u8 0, .int .u8 0, .int .u8 0, .int .u8 0, .int .u8 0, .int .u8 0], [.int, .int, .int, .int, .int, .int, .int, .int, .int, .int, .int, .int, .int, .int, .int, .int, .int, .int, .int, .int, .int, .int, .int, .int, .int, .int, .int, .int, .int, .int, .int, .int]⟩ := by kernel_rfl
theorem tb_115 : tb 115 = some ⟨.int .u32, 1, 4, .int .u32 0, []⟩ := by kernel_rfl
theorem tb_124 : tb 124 = some ⟨.func, 1, 8, .nilfn, []⟩ := by kernel_rfl
theorem tb_128 : tb 128 = some ⟨.ptr 5, 1, 8, .nilp, []⟩ := by kernel_rfl
attribute [go_sem ↓] tb_2 tb_3 tb_4 tb_5 tb_9 tb_12 tb_20 tb_21 tb_22 tb_25 tb_26 tb_27 tb_28 tb_29 tb_32 tb_33 tb_34 tb_35 tb_36 tb_42 tb_43 tb_49 tb_50 tb_52 tb_53 tb_54 tb_55 tb_56 tb_80 tb_83 tb_90 tb_92 tb_94 tb_95 tb_96 tb_97 tb_101 tb_103 tb_108 tb_109 tb_110 tb_111 tb_112 tb_115 tb_124 tb_128
attribute [go_sem] i2 i3 i4 i5 i9 i12 i20 i21 i22 i25 i26 i27 i28 i29 i32 i33 i34 i35 i36 i42 i43 i49 i50 i52 i53 i54 i55 i56 i80 i83 i90 i92 i94 i95 i96 i97 i101 i103 i108 i109 i110 i111 i112 i115 i124 i128
def Z1 := @AW.seqC
def Z2 := @Cut.go
def Z3 := @AW.regionL
def Z4 := @AW.regionDL
def Z5 := @AW.condE
def Z6 := @AW.skip
def Z7 := @AW.exit
def Z8 := @AW.ret
def Z9 := @AW.blockC
def Za := @Bl.go
def Zb := @Bl.leave
def Zc := @Cut.out
def Zd := @Lp.out
def Ze := @Lw.out
def Zf := @Bl.ret
def Zg := @AW.goto
def Zh := @Sw.ret
def Zi := @Sw.go
def Zj := @Sw.exit
def Zk := @Bl.goto
def Zl := @Bl.exit
attribute [go_sem] ne_eq not_false_eq_true not_true_eq_false Nat.not_lt_zero decide_true decide_false
end Go.Proofs.YtoidlnhgaaohdaaDoor
