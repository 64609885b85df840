/- The table of the program's types (printed by wip/gen/tab.py). -/
import Derived.Test.YtpibdbjlilpfiaaAbsC
import Derived.Test.YtpibdbjlilpfiaaRows
namespace Go.Proofs.Ytpibdbjlilpfiaa
set_option linter.all false
open Go Go.RowKit

def i2 : TI := ⟨.int .i64, 1, 8, .int .i64 0, []⟩
def i3 : TI := ⟨.int .i64, 1, 8, .int .i64 0, []⟩
def i4 : TI := ⟨.bool, 1, 1, .bool false, []⟩
def i5 : TI := ⟨.int .u8, 1, 1, .int .u8 0, []⟩
def i9 : TI := ⟨.str, 1, 16, .str .empty, []⟩
def i12 : TI := ⟨.int .u64, 1, 8, .int .u64 0, []⟩
def i20 : TI := ⟨.iface 0, 1, 16, .nilif, []⟩
def i21 : TI := ⟨.int .i32, 1, 4, .int .i32 0, []⟩
def i22 : TI := ⟨.slice 44 10, 1, 24, .nils, []⟩
def i23 : TI := ⟨.struct [(0, 22, 1)], 1, 24, .agg [.nils], []⟩
def i24 : TI := ⟨.struct [(0, 22, 1)], 1, 24, .agg [.nils], []⟩
def i25 : TI := ⟨.slice 27 5, 1, 24, .nils, []⟩
def i26 : TI := ⟨.struct [(0, 3, 1), (1, 5, 1), (2, 9, 1), (3, 3, 1), (4, 25, 1)], 5, 64, .agg [.int .i64 0, .int .u8 0, .str .empty, .int .i64 0, .nils], []⟩
def i27 : TI := ⟨.struct [(0, 3, 1), (1, 5, 1), (2, 9, 1), (3, 3, 1), (4, 25, 1)], 5, 64, .agg [.int .i64 0, .int .u8 0, .str .empty, .int .i64 0, .nils], []⟩
def i31 : TI := ⟨.slice 5 1, 1, 24, .nils, []⟩
def i40 : TI := ⟨.int .u64, 1, 8, .int .u64 0, []⟩
def i41 : TI := ⟨.arr 4 40 1, 4, 32, .agg [.int .u64 0, .int .u64 0, .int .u64 0, .int .u64 0], [.int, .int, .int, .int]⟩
def i42 : TI := ⟨.arr 4 40 1, 4, 32, .agg [.int .u64 0, .int .u64 0, .int .u64 0, .int .u64 0], [.int, .int, .int, .int]⟩
def i43 : TI := ⟨.struct [(0, 3, 1), (1, 3, 1), (2, 3, 1), (3, 3, 1), (4, 3, 1), (5, 42, 4), (9, 9, 1)], 10, 88, .agg [.int .i64 0, .int .i64 0, .int .i64 0, .int .i64 0, .int .i64 0, .int .u64 0, .int .u64 0, .int .u64 0, .int .u64 0, .str .empty], [.int, .int, .int, .int, .int, .int, .int, .int, .int, .str]⟩
def i44 : TI := ⟨.struct [(0, 3, 1), (1, 3, 1), (2, 3, 1), (3, 3, 1), (4, 3, 1), (5, 42, 4), (9, 9, 1)], 10, 88, .agg [.int .i64 0, .int .i64 0, .int .i64 0, .int .i64 0, .int .i64 0, .int .u64 0, .int .u64 0, .int .u64 0, .int .u64 0, .str .empty], [.int, .int, .int, .int, .int, .int, .int, .int, .int, .str]⟩
def i65 : TI := ⟨.slice 3 1, 1, 24, .nils, []⟩
def i66 : TI := ⟨.slice 3 1, 1, 24, .nils, []⟩
def i68 : TI := ⟨.ptr 71, 1, 8, .nilp, []⟩
def i69 : TI := ⟨.map 74 25, 1, 8, .nilm, []⟩
def i70 : TI := ⟨.struct [(0, 24, 1), (1, 31, 1), (2, 69, 1)], 3, 56, .agg [.nils, .nils, .nilm], []⟩
def i71 : TI := ⟨.struct [(0, 24, 1), (1, 31, 1), (2, 69, 1)], 3, 56, .agg [.nils, .nils, .nilm], []⟩
def i73 : TI := ⟨.struct [(0, 3, 1), (1, 3, 1), (2, 3, 1), (3, 3, 1), (4, 3, 1)], 5, 40, .agg [.int .i64 0, .int .i64 0, .int .i64 0, .int .i64 0, .int .i64 0], [.int, .int, .int, .int, .int]⟩
def i74 : TI := ⟨.struct [(0, 3, 1), (1, 3, 1), (2, 3, 1), (3, 3, 1), (4, 3, 1)], 5, 40, .agg [.int .i64 0, .int .i64 0, .int .i64 0, .int .i64 0, .int .i64 0], [.int, .int, .int, .int, .int]⟩
def i76 : TI := ⟨.slice 4 1, 1, 24, .nils, []⟩
def i90 : TI := ⟨.int .u64, 1, 8, .int .u64 0, []⟩
def i99 : TI := ⟨.slice 31 1, 1, 24, .nils, []⟩
def i108 : TI := ⟨.func, 1, 8, .nilfn, []⟩
def i109 : TI := ⟨.int .u32, 1, 4, .int .u32 0, []⟩
def i113 : TI := ⟨.ptr 5, 1, 8, .nilp, []⟩
def tbl : List (Nat × TI) := [(2, i2), (3, i3), (4, i4), (5, i5), (9, i9), (12, i12), (20, i20), (21, i21), (22, i22), (23, i23), (24, i24), (25, i25), (26, i26), (27, i27), (31, i31), (40, i40), (41, i41), (42, i42), (43, i43), (44, i44), (65, i65), (66, i66), (68, i68), (69, i69), (70, i70), (71, i71), (73, i73), (74, i74), (76, i76), (90, i90), (99, i99), (108, i108), (109, i109), (113, i113)]
def tb : Nat → Option TI := look tbl
theorem mix : Try.prog.follows .mixedOrders = true := by kernel_rfl
theorem tb_ok : TbOk Try.prog tb := tblCheck_ok (by kernel_rfl)
theorem tb_2 : tb 2 = some ⟨.int .i64, 1, 8, .int .i64 0, []⟩ := by kernel_rfl
theorem tb_3 : tb 3 = some ⟨.int .i64, 1, 8, .int .i64 0, []⟩ := by kernel_rfl
theorem tb_4 : tb 4 = some ⟨.bool, 1, 1, .bool false, []⟩ := by kernel_rfl
theorem tb_5 : tb 5 = some ⟨.int .u8, 1, 1, .int .u8 0, []⟩ := by kernel_rfl
theorem tb_9 : tb 9 = some ⟨.str, 1, 16, .str .empty, []⟩ := by kernel_rfl
theorem tb_12 : tb 12 = some ⟨.int .u64, 1, 8, .int .u64 0, []⟩ := by kernel_rfl
theorem tb_20 : tb 20 = some ⟨.iface 0, 1, 16, .nilif, []⟩ := by kernel_rfl
theorem tb_21 : tb 21 = some ⟨.int .i32, 1, 4, .int .i32 0, []⟩ := by kernel_rfl
theorem tb_22 : tb 22 = some ⟨.slice 44 10, 1, 24, .nils, []⟩ := by kernel_rfl
theorem tb_23 : tb 23 = some ⟨.struct [(0, 22, 1)], 1, 24, .agg [.nils], []⟩ := by kernel_rfl
theorem tb_24 : tb 24 = some ⟨.struct [(0, 22, 1)], 1, 24, .agg [.nils], []⟩ := by kernel_rfl
theorem tb_25 : tb 25 = some ⟨.slice 27 5, 1, 24, .nils, []⟩ := by kernel_rfl
theorem tb_26 : tb 26 = some ⟨.struct [(0, 3, 1), (1, 5, 1), (2, 9, 1), (3, 3, 1), (4, 25, 1)], 5, 64, .agg [.int .i64 0, .int .u8 0, .str .empty, .int .i64 0, .nils], []⟩ := by kernel_rfl
theorem tb_27 : tb 27 = some ⟨.struct [(0, 3, 1), (1, 5, 1), (2, 9, 1), (3, 3, 1), (4, 25, 1)], 5, 64, .agg [.int .i64 0, .int .u8 0, .str .empty, .int .i64 0, .nils], []⟩ := by kernel_rfl
theorem tb_31 : tb 31 = some ⟨.slice 5 1, 1, 24, .nils, []⟩ := by kernel_rfl
theorem tb_40 : tb 40 = some ⟨.int .u64, 1, 8, .int .u64 0, []⟩ := by kernel_rfl
theorem tb_41 : tb 41 = some ⟨.arr 4 40 1, 4, 32, .agg [.int .u64 0, .int .u64 0, .int .u64 0, .int .u64 0], [.int, .int, .int, .int]⟩ := by kernel_rfl
theorem tb_42 : tb 42 = some ⟨.arr 4 40 1, 4, 32, .agg [.int .u64 0, .int .u64 0, .int .u64 0, .int .u64 0], [.int, .int, .int, .int]⟩ := by kernel_rfl
theorem tb_43 : tb 43 = some ⟨.struct [(0, 3, 1), (1, 3, 1), (2, 3, 1), (3, 3, 1), (4, 3, 1), (5, 42, 4), (9, 9, 1)], 10, 88, .agg [.int .i64 0, .int .i64 0, .int .i64 0, .int .i64 0, .int .i64 0, .int .u64 0, .int .u64 0, .int .u64 0, .int .u64 0, .str .empty], [.int, .int, .int, .int, .int, .int, .int, .int, .int, .str]⟩ := by kernel_rfl
theorem tb_44 : tb 44 = some ⟨.struct [(0, 3, 1), (1, 3, 1), (2, 3, 1), (3, 3, 1), (4, 3, 1), (5, 42, 4), (9, 9, 1)], 10, 88, .agg [.int .i64 0, .int .i64 0, .int .i64 0, .int .i64 0, .int .i64 0, .int .u64 0, .int .u64 0, .int .u64 0, .int .u64 0, .str .empty], [.int, .int, .int, .int, .int, .int, .int, .int, .int, .str]⟩ := by kernel_rfl
theorem tb_65 : tb 65 = some ⟨.slice 3 1, 1, 24, .nils, []⟩ := by kernel_rfl
theorem tb_66 : tb 66 = some ⟨.slice 3 1, 1, 24, .nils, []⟩ := by kernel_rfl
theorem tb_68 : tb 68 = some ⟨.ptr 71, 1, 8, .nilp, []⟩ := by kernel_rfl
theorem tb_69 : tb 69 = some ⟨.map 74 25, 1, 8, .nilm, []⟩ := by kernel_rfl
theorem tb_70 : tb 70 = some ⟨.struct [(0, 24, 1), (1, 31, 1), (2, 69, 1)], 3, 56, .agg [.nils, .nils, .nilm], []⟩ := by kernel_rfl
theorem tb_71 : tb 71 = some ⟨.struct [(0, 24, 1), (1, 31, 1), (2, 69, 1)], 3, 56, .agg [.nils, .nils, .nilm], []⟩ := by kernel_rfl
theorem tb_73 : tb 73 = some ⟨.struct [(0, 3, 1), (1, 3, 1), (2, 3, 1), (3, 3, 1), (4, 3, 1)], 5, 40, .agg [.int .i64 0, .int .i64 0, .int .i64 0, .int .i64 0, .int .i64 0], [.int, .int, .int, .int, .int]⟩ := by kernel_rfl
theorem tb_74 : tb 74 = some ⟨.struct [(0, 3, 1), (1, 3, 1), (2, 3, 1), (3, 3, 1), (4, 3, 1)], 5, 40, .agg [.int .i64 0, .int .i64 0, .int .i64 0, .int .i64 0, .int .i64 0], [.int, .int, .int, .int, .int]⟩ := by kernel_rfl
theorem tb_76 : tb 76 = some ⟨.slice 4 1, 1, 24, .nils, []⟩ := by kernel_rfl
theorem tb_90 : tb 90 = some ⟨.int .u64, 1, 8, .int .u64 0, []⟩ := by kernel_rfl
theorem tb_99 : tb 99 = some ⟨.slice 31 1, 1, 24, .nils, []⟩ := by kernel_rfl
theorem tb_108 : tb 108 = some ⟨.func, 1, 8, .nilfn, []⟩ := by kernel_rfl
theorem tb_109 : tb 109 = some ⟨.int .u32, 1, 4, .int .u32 0, []⟩ := by kernel_rfl
theorem tb_113 : tb 113 = some ⟨.ptr 5, 1, 8, .nilp, []⟩ := by kernel_rfl
attribute [go_sem ↓] tb_2 tb_3 tb_4 tb_5 tb_9 tb_12 tb_20 tb_21 tb_22 tb_23 tb_24 tb_25 tb_26 tb_27 tb_31 tb_40 tb_41 tb_42 tb_43 tb_44 tb_65 tb_66 tb_68 tb_69 tb_70 tb_71 tb_73 tb_74 tb_76 tb_90 tb_99 tb_108 tb_109 tb_113
attribute [go_sem] i2 i3 i4 i5 i9 i12 i20 i21 i22 i23 i24 i25 i26 i27 i31 i40 i41 i42 i43 i44 i65 i66 i68 i69 i70 i71 i73 i74 i76 i90 i99 i108 i109 i113
def Z1 := @AW.seqC
def Z2 := @Cut.go
def Z3 := @AW.regionL
def Z4 := @AW.regionDL
def Z5 := @AW.condE
def Z6 := @AW.skip
def Z7 := @AW.exit
def Z8 := @AW.ret
def Z9 := @AW.blockC
def Za := @Bl.go
def Zb := @Bl.leave
def Zc := @Cut.out
def Zd := @Lp.out
def Ze := @Lw.out
def Zf := @Bl.ret
def Zg := @AW.goto
def Zh := @Sw.ret
def Zi := @Sw.go
def Zj := @Sw.exit
def Zk := @Bl.goto
def Zl := @Bl.exit
def ZT := @condQ_T
def ZF := @condQ_F
def Zr := @ret_eq
def Zo := @touch_go
def Zp := @eff_go
attribute [go_sem] ne_eq not_false_eq_true not_true_eq_false Nat.not_lt_zero decide_true decide_false
end Go.Proofs.Ytpibdbjlilpfiaa
