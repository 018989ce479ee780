/- What is known of each type of this translation: printed by a program, checked by the kernel. -/
import Derived.Test.YtfkfehlnjcbcbaaAbsK
import Derived.Test.YtfkfehlnjcbcbaaChecked
import Derived.KernelRfl
namespace Go.Proofs.Ytfkfehlnjcbcbaa.Abs
open Go
@[go_sem] theorem td1 : td Try.prog 1 = some ⟨1, 8, false, (some [.nilFunc]), .other⟩ := by kernel_rfl
@[go_sem] theorem td2 : td Try.prog 2 = some ⟨1, 8, false, (some [.int .i64 0]), .int .i64⟩ := by kernel_rfl
@[go_sem] theorem td3 : td Try.prog 3 = some ⟨1, 8, false, (some [.int .i64 0]), .int .i64⟩ := by kernel_rfl
@[go_sem] theorem td4 : td Try.prog 4 = some ⟨1, 1, false, (some [.bool false]), .bool⟩ := by kernel_rfl
@[go_sem] theorem td5 : td Try.prog 5 = some ⟨1, 1, false, (some [.int .u8 0]), .int .u8⟩ := by kernel_rfl
@[go_sem] theorem td6 : td Try.prog 6 = some ⟨1, 1, false, (some [.int .u8 0]), .int .u8⟩ := by kernel_rfl
@[go_sem] theorem td7 : td Try.prog 7 = some ⟨4, 24, true, (some [.int .i64 0, .int .i64 0, .bool false, .int .u8 0]), .struct [(0, 2), (1, 3), (2, 4), (3, 6)]⟩ := by kernel_rfl
@[go_sem] theorem td8 : td Try.prog 8 = some ⟨4, 24, true, (some [.int .i64 0, .int .i64 0, .bool false, .int .u8 0]), .struct [(0, 2), (1, 3), (2, 4), (3, 6)]⟩ := by kernel_rfl
@[go_sem] theorem td9 : td Try.prog 9 = some ⟨1, 16, false, (some [.string ⟨#[]⟩]), .str⟩ := by kernel_rfl
@[go_sem] theorem td10 : td Try.prog 10 = some ⟨1, 16, false, (some [.string ⟨#[]⟩]), .str⟩ := by kernel_rfl
@[go_sem] theorem td11 : td Try.prog 11 = some ⟨1, 16, false, (some [.string ⟨#[]⟩]), .str⟩ := by kernel_rfl
@[go_sem] theorem td12 : td Try.prog 12 = some ⟨1, 8, false, (some [.int .u64 0]), .int .u64⟩ := by kernel_rfl
@[go_sem] theorem td13 : td Try.prog 13 = some ⟨2, 24, true, (some [.string ⟨#[]⟩, .int .u64 0]), .struct [(0, 9), (1, 12)]⟩ := by kernel_rfl
@[go_sem] theorem td14 : td Try.prog 14 = some ⟨2, 24, true, (some [.string ⟨#[]⟩, .int .u64 0]), .struct [(0, 9), (1, 12)]⟩ := by kernel_rfl
@[go_sem] theorem td15 : td Try.prog 15 = some ⟨1, 8, false, (some [.pointer none]), .other⟩ := by kernel_rfl
@[go_sem] theorem td16 : td Try.prog 16 = some ⟨1, 8, false, (some [.pointer none]), .other⟩ := by kernel_rfl
@[go_sem] theorem td17 : td Try.prog 17 = some ⟨1, 8, false, (some [.pointer none]), .other⟩ := by kernel_rfl
@[go_sem] theorem td18 : td Try.prog 18 = some ⟨1, 8, true, (some [.pointer none]), .struct [(0, 17)]⟩ := by kernel_rfl
@[go_sem] theorem td19 : td Try.prog 19 = some ⟨1, 8, true, (some [.pointer none]), .struct [(0, 17)]⟩ := by kernel_rfl
@[go_sem] theorem td21 : td Try.prog 21 = some ⟨1, 4, false, (some [.int .i32 0]), .int .i32⟩ := by kernel_rfl
@[go_sem] theorem td22 : td Try.prog 22 = some ⟨1, 8, false, (some [.nilFunc]), .other⟩ := by kernel_rfl
@[go_sem] theorem td23 : td Try.prog 23 = some ⟨1, 24, false, (some [.slice none 0 0]), .slice 9⟩ := by kernel_rfl
@[go_sem] theorem td24 : td Try.prog 24 = some ⟨1, 24, false, (some [.slice none 0 0]), .slice 46⟩ := by kernel_rfl
@[go_sem] theorem td25 : td Try.prog 25 = some ⟨6, 96, true, (some [.slice none 0 0, .int .i64 0, .bool false, .int .i64 0, .slice none 0 0, .slice none 0 0]), .struct [(0, 23), (1, 3), (2, 4), (3, 3), (4, 24), (5, 24)]⟩ := by kernel_rfl
@[go_sem] theorem td26 : td Try.prog 26 = some ⟨6, 96, true, (some [.slice none 0 0, .int .i64 0, .bool false, .int .i64 0, .slice none 0 0, .slice none 0 0]), .struct [(0, 23), (1, 3), (2, 4), (3, 3), (4, 24), (5, 24)]⟩ := by kernel_rfl
@[go_sem] theorem td27 : td Try.prog 27 = some ⟨1, 8, false, (some [.nilFunc]), .other⟩ := by kernel_rfl
@[go_sem] theorem td28 : td Try.prog 28 = some ⟨1, 8, false, (some [.int .i64 0]), .int .i64⟩ := by kernel_rfl
@[go_sem] theorem td30 : td Try.prog 30 = some ⟨1, 8, false, (some [.nilFunc]), .other⟩ := by kernel_rfl
@[go_sem] theorem td31 : td Try.prog 31 = some ⟨1, 24, false, (some [.slice none 0 0]), .slice 5⟩ := by kernel_rfl
@[go_sem] theorem td32 : td Try.prog 32 = some ⟨1, 8, false, (some [.nilFunc]), .other⟩ := by kernel_rfl
@[go_sem] theorem td33 : td Try.prog 33 = some ⟨1, 8, false, (some [.nilFunc]), .other⟩ := by kernel_rfl
@[go_sem] theorem td34 : td Try.prog 34 = some ⟨1, 8, false, (some [.nilFunc]), .other⟩ := by kernel_rfl
@[go_sem] theorem td35 : td Try.prog 35 = some ⟨1, 8, false, (some [.nilFunc]), .other⟩ := by kernel_rfl
@[go_sem] theorem td36 : td Try.prog 36 = some ⟨1, 24, false, (some [.slice none 0 0]), .slice 40⟩ := by kernel_rfl
@[go_sem] theorem td37 : td Try.prog 37 = some ⟨1, 8, false, (some [.nilFunc]), .other⟩ := by kernel_rfl
@[go_sem] theorem td39 : td Try.prog 39 = some ⟨1, 8, false, (some [.nilFunc]), .other⟩ := by kernel_rfl
@[go_sem] theorem td40 : td Try.prog 40 = some ⟨1, 2, false, (some [.int .u16 0]), .int .u16⟩ := by kernel_rfl
@[go_sem] theorem td41 : td Try.prog 41 = some ⟨1, 8, false, (some [.nilFunc]), .other⟩ := by kernel_rfl
@[go_sem] theorem td43 : td Try.prog 43 = some ⟨1, 8, false, (some [.nilFunc]), .other⟩ := by kernel_rfl
@[go_sem] theorem td44 : td Try.prog 44 = some ⟨1, 8, false, (some [.nilFunc]), .other⟩ := by kernel_rfl
@[go_sem] theorem td45 : td Try.prog 45 = some ⟨3, 32, true, (some [.bool false, .int .i64 0, .string ⟨#[]⟩]), .struct [(0, 4), (1, 3), (2, 9)]⟩ := by kernel_rfl
@[go_sem] theorem td46 : td Try.prog 46 = some ⟨3, 32, true, (some [.bool false, .int .i64 0, .string ⟨#[]⟩]), .struct [(0, 4), (1, 3), (2, 9)]⟩ := by kernel_rfl
@[go_sem] theorem td47 : td Try.prog 47 = some ⟨1, 8, false, (some [.nilFunc]), .other⟩ := by kernel_rfl
@[go_sem] theorem td48 : td Try.prog 48 = some ⟨1, 8, false, (some [.nilFunc]), .other⟩ := by kernel_rfl
@[go_sem] theorem td49 : td Try.prog 49 = some ⟨1, 8, false, (some [.nilFunc]), .other⟩ := by kernel_rfl
@[go_sem] theorem td51 : td Try.prog 51 = some ⟨1, 8, false, (some [.nilFunc]), .other⟩ := by kernel_rfl
@[go_sem] theorem td52 : td Try.prog 52 = some ⟨1, 8, false, (some [.nilFunc]), .other⟩ := by kernel_rfl
@[go_sem] theorem td53 : td Try.prog 53 = some ⟨1, 8, false, (some [.nilFunc]), .other⟩ := by kernel_rfl
@[go_sem] theorem td54 : td Try.prog 54 = some ⟨1, 8, false, (some [.nilFunc]), .other⟩ := by kernel_rfl
@[go_sem] theorem td55 : td Try.prog 55 = some ⟨1, 8, false, (some [.nilFunc]), .other⟩ := by kernel_rfl
@[go_sem] theorem td56 : td Try.prog 56 = some ⟨1, 8, false, (some [.nilFunc]), .other⟩ := by kernel_rfl
@[go_sem] theorem td57 : td Try.prog 57 = some ⟨1, 8, false, (some [.nilFunc]), .other⟩ := by kernel_rfl
@[go_sem] theorem td58 : td Try.prog 58 = some ⟨1, 8, false, (some [.nilFunc]), .other⟩ := by kernel_rfl
@[go_sem] theorem td59 : td Try.prog 59 = some ⟨1, 8, false, (some [.nilFunc]), .other⟩ := by kernel_rfl
@[go_sem] theorem td60 : td Try.prog 60 = some ⟨1, 8, false, (some [.nilFunc]), .other⟩ := by kernel_rfl
@[go_sem] theorem td61 : td Try.prog 61 = some ⟨1, 8, false, (some [.nilFunc]), .other⟩ := by kernel_rfl
@[go_sem] theorem td62 : td Try.prog 62 = some ⟨1, 8, false, (some [.nilFunc]), .other⟩ := by kernel_rfl
@[go_sem] theorem td63 : td Try.prog 63 = some ⟨1, 8, false, (some [.nilFunc]), .other⟩ := by kernel_rfl
@[go_sem] theorem td64 : td Try.prog 64 = some ⟨1, 8, false, (some [.nilFunc]), .other⟩ := by kernel_rfl
@[go_sem] theorem td65 : td Try.prog 65 = some ⟨1, 8, false, (some [.nilFunc]), .other⟩ := by kernel_rfl
@[go_sem] theorem td66 : td Try.prog 66 = some ⟨4, 40, true, (some [.pointer none, .pointer none, .pointer none, .string ⟨#[]⟩]), .struct [(0, 17), (1, 17), (2, 17), (3, 9)]⟩ := by kernel_rfl
@[go_sem] theorem td67 : td Try.prog 67 = some ⟨4, 40, true, (some [.pointer none, .pointer none, .pointer none, .string ⟨#[]⟩]), .struct [(0, 17), (1, 17), (2, 17), (3, 9)]⟩ := by kernel_rfl
@[go_sem] theorem td68 : td Try.prog 68 = some ⟨0, 0, true, (some []), .array 0 16⟩ := by kernel_rfl
@[go_sem] theorem td69 : td Try.prog 69 = some ⟨0, 0, true, (some []), .struct [(0, 68)]⟩ := by kernel_rfl
@[go_sem] theorem td70 : td Try.prog 70 = some ⟨0, 0, true, (some []), .struct [(0, 68)]⟩ := by kernel_rfl
@[go_sem] theorem td71 : td Try.prog 71 = some ⟨1, 8, false, (some [.nilFunc]), .other⟩ := by kernel_rfl
@[go_sem] theorem td72 : td Try.prog 72 = some ⟨1, 4, false, (some [.int .u32 0]), .int .u32⟩ := by kernel_rfl
@[go_sem] theorem td73 : td Try.prog 73 = some ⟨1, 1, false, (some [.int .u8 0]), .int .u8⟩ := by kernel_rfl
@[go_sem] theorem td74 : td Try.prog 74 = some ⟨1, 1, false, (some [.int .u8 0]), .int .u8⟩ := by kernel_rfl
@[go_sem] theorem td75 : td Try.prog 75 = some ⟨1, 8, false, (some [.nilFunc]), .other⟩ := by kernel_rfl
@[go_sem] theorem td76 : td Try.prog 76 = some ⟨1, 8, false, (some [.pointer none]), .other⟩ := by kernel_rfl
@[go_sem] theorem td77 : td Try.prog 77 = some ⟨1, 4, false, (some [.int .i32 0]), .int .i32⟩ := by kernel_rfl
@[go_sem] theorem td78 : td Try.prog 78 = some ⟨1, 4, false, (some [.int .i32 0]), .int .i32⟩ := by kernel_rfl
@[go_sem] theorem td79 : td Try.prog 79 = some ⟨11, 48, true, (some [.int .u64 0, .int .u64 0, .int .u32 0, .int .u8 0, .int .u8 0, .int .u8 0, .int .u8 0, .nilFunc, .pointer none, .int .i32 0, .int .i32 0]), .struct [(0, 12), (1, 12), (2, 72), (3, 73), (4, 5), (5, 5), (6, 74), (7, 75), (8, 76), (9, 77), (10, 78)]⟩ := by kernel_rfl
@[go_sem] theorem td80 : td Try.prog 80 = some ⟨11, 48, true, (some [.int .u64 0, .int .u64 0, .int .u32 0, .int .u8 0, .int .u8 0, .int .u8 0, .int .u8 0, .nilFunc, .pointer none, .int .i32 0, .int .i32 0]), .struct [(0, 12), (1, 12), (2, 72), (3, 73), (4, 5), (5, 5), (6, 74), (7, 75), (8, 76), (9, 77), (10, 78)]⟩ := by kernel_rfl
@[go_sem] theorem td81 : td Try.prog 81 = some ⟨1, 8, false, (some [.pointer none]), .other⟩ := by kernel_rfl
@[go_sem] theorem eqf7 : eqFlat Try.prog 7 = some [(0, 2), (1, 3), (2, 4), (3, 6)] := by kernel_rfl
@[go_sem] theorem eqf8 : eqFlat Try.prog 8 = some [(0, 2), (1, 3), (2, 4), (3, 6)] := by kernel_rfl
@[go_sem] theorem eqf45 : eqFlat Try.prog 45 = some [(0, 4), (1, 3), (2, 9)] := by kernel_rfl
@[go_sem] theorem eqf46 : eqFlat Try.prog 46 = some [(0, 4), (1, 3), (2, 9)] := by kernel_rfl
end Go.Proofs.Ytfkfehlnjcbcbaa.Abs
