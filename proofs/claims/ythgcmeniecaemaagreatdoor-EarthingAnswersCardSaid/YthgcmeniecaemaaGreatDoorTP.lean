/- Plans for regions that draw their order, and what is known of each type: printed by a program, checked where they are used, and by the kernel. -/
import Derived.Test.YthgcmeniecaemaaGreatDoorT3
import Derived.Test.YthgcmeniecaemaaGreatDoorChecked
import Derived.KernelRfl
namespace Go.Proofs.YthgcmeniecaemaaGreatDoor.Abs
def plan3_13 : Plan := (.take 0 (.take 1 (.take 5 (.fork 2 (.fork 3 (.take 4 .done) .none) .none)))) 
def plan3_16 : Plan := (.take 0 (.take 1 (.take 3 (.take 4 (.take 5 (.take 6 (.take 12 (.fork 2 (.fork 7 (.fork 8 (.fork 9 (.fork 10 (.take 11 .done) .none) .none) .none) (.fork 8 (.fork 7 (.fork 9 (.fork 10 (.take 11 .done) .none) .none) .none) .none)) (.fork 8 (.fork 2 (.fork 7 (.fork 9 (.fork 10 (.take 11 .done) .none) .none) .none) .none) .none))))))))) 
def plan9_6 : Plan := (.take 0 (.take 1 (.take 2 (.take 3 (.take 4 (.take 5 (.take 6 (.take 7 (.fork 8 (.take 9 .done) .none))))))))) 
def plan10_2 : Plan := (.take 0 (.take 1 (.take 2 (.take 3 (.take 4 (.take 5 (.take 6 (.take 7 (.take 8 (.take 9 .done)))))))))) 
def plan10_3 : Plan := (.take 0 (.take 1 (.take 2 (.take 3 (.take 4 (.take 5 (.take 6 (.take 7 (.take 8 (.take 9 (.take 10 (.take 11 .done)))))))))))) 
def plan11_12 : Plan := (.take 0 (.take 1 (.take 2 (.take 3 (.take 4 (.take 5 (.take 6 (.take 7 (.fork 8 (.take 9 (.take 10 (.fork 11 (.take 12 (.take 13 (.take 14 (.take 15 (.take 16 .done))))) .none))) .none))))))))) 
def plan19_16 : Plan := (.take 0 (.take 1 (.take 2 (.take 3 (.take 4 (.take 5 (.take 6 (.take 7 (.take 8 (.take 9 (.take 10 (.take 11 (.take 12 (.take 13 (.fork 14 (.take 15 .done) .none))))))))))))))) 
def plan26_6 : Plan := (.take 0 (.take 1 (.take 2 (.take 3 (.take 4 (.take 5 (.take 6 (.take 7 (.take 8 .done))))))))) 
def plan27_12 : Plan := (.take 0 (.take 1 (.take 2 (.take 3 (.take 4 (.take 5 (.take 6 (.take 7 (.take 8 .done))))))))) 
def plan27_25 : Plan := (.take 0 (.take 1 (.take 2 (.take 3 (.take 4 (.take 5 (.take 6 (.take 7 (.take 8 .done))))))))) 
def plan27_30 : Plan := (.take 0 (.take 1 (.take 2 (.take 3 (.take 4 (.take 5 (.take 6 (.take 7 (.take 8 .done))))))))) 
def plan30_1 : Plan := (.take 1 (.take 4 (.take 5 (.take 6 (.take 8 (.take 9 (.take 10 (.fork 0 (.take 2 (.take 3 (.fork 7 (.take 11 (.fork 12 (.fork 13 .done .none) .none)) (.fork 12 (.fork 7 (.take 11 (.fork 13 .done .none)) .none) .none)))) (.fork 12 (.fork 0 (.take 2 (.take 3 (.fork 7 (.take 11 (.fork 13 .done .none)) .none))) .none) .none))))))))) 
def plan31_10 : Plan := (.take 0 (.take 1 (.take 2 (.take 3 (.take 4 (.take 5 (.take 6 (.take 7 .done)))))))) 
def plan31_18 : Plan := (.take 0 (.take 1 (.take 2 (.take 3 (.take 4 (.take 5 (.take 6 (.take 7 (.take 8 (.take 9 (.fork 10 (.take 11 .done) .none))))))))))) 
def plan31_20 : Plan := (.take 0 (.take 1 (.take 2 (.fork 3 (.take 4 (.fork 5 (.fork 6 (.take 7 .done) .none) .none)) (.fork 4 (.fork 3 (.fork 5 (.fork 6 (.take 7 .done) .none) .none) (.fork 5 (.fork 3 (.fork 6 (.take 7 .done) .none) .none) .none)) .none))))) 
def plan36_4 : Plan := (.take 0 (.take 1 (.take 2 (.take 3 (.take 4 (.take 5 (.take 6 (.take 7 (.take 8 (.take 9 (.take 10 (.take 11 (.take 12 (.take 13 (.take 14 (.take 15 (.take 16 (.take 17 (.take 18 (.take 19 (.take 20 (.take 21 (.take 22 (.take 23 (.take 24 (.take 25 (.take 26 (.take 27 (.take 28 .done))))))))))))))))))))))))))))) 
def plan37_5 : Plan := (.take 0 (.take 1 (.take 2 (.take 3 (.take 4 (.take 5 (.fork 6 (.take 7 .done) .none))))))) 
def plan44_1 : Plan := (.take 0 (.take 1 (.take 2 (.take 3 (.take 4 (.take 5 (.take 6 (.take 7 (.take 8 .done))))))))) 
def plan47_13 : Plan := (.take 0 (.take 1 (.fork 2 (.take 3 (.take 4 (.take 5 (.fork 6 (.take 7 (.take 8 (.take 9 (.take 10 (.take 11 (.take 12 (.take 13 (.take 14 (.take 15 (.take 16 (.take 17 (.take 18 (.take 19 (.take 20 (.take 21 .done))))))))))))))) .none)))) .none))) 
def plan47_14 : Plan := (.take 0 (.take 1 (.take 2 (.take 3 (.take 4 (.take 6 (.fork 5 (.fork 7 (.take 8 (.fork 9 .done .none)) .none) (.fork 7 (.take 5 (.take 8 (.fork 9 .done .none))) .none)))))))) 
def plan53_9 : Plan := (.take 0 (.take 1 (.take 2 (.take 3 (.take 4 (.fork 5 (.take 6 .done) .none)))))) 
def plan53_12 : Plan := (.take 0 (.take 1 (.take 2 (.take 3 (.take 4 (.take 5 (.take 6 (.take 7 (.take 8 (.take 9 (.take 10 (.take 11 (.fork 12 (.take 13 (.take 14 .done)) .none))))))))))))) 
def plan53_17 : Plan := (.take 0 (.take 1 (.take 2 (.take 3 (.take 4 (.take 5 (.take 6 (.take 7 (.take 8 (.take 9 (.take 10 (.take 11 (.take 12 (.take 13 (.take 14 (.take 15 (.take 16 (.take 17 (.take 18 (.take 19 (.take 20 (.take 21 (.take 22 (.take 23 .done)))))))))))))))))))))))) 
def plan53_22 : Plan := (.take 0 (.take 1 (.take 2 (.take 3 (.take 4 (.take 5 (.take 6 (.take 7 (.take 8 (.take 9 (.take 10 .done))))))))))) 
def plan60_17 : Plan := (.take 0 (.take 1 (.take 2 (.take 3 (.take 4 (.take 5 .done)))))) 
def plan64_7 : Plan := (.take 0 (.take 1 (.take 2 (.take 3 (.take 4 (.take 5 (.take 6 (.fork 7 (.take 8 (.take 9 .done)) .none)))))))) 
def plan79_14 : Plan := (.take 0 (.take 1 (.take 2 (.take 3 (.fork 4 (.take 5 .done) .none))))) 
def plan81_12 : Plan := (.take 0 (.take 1 (.take 2 (.take 3 (.take 4 (.take 5 (.take 6 (.take 7 (.take 8 (.fork 9 (.take 10 (.take 11 (.take 12 .done))) .none)))))))))) 
def plan81_14 : Plan := (.take 0 (.take 1 (.take 2 (.take 3 (.fork 4 (.take 5 .done) .none))))) 
def plan81_16 : Plan := (.take 0 (.take 1 (.take 2 (.take 3 (.take 4 (.fork 5 (.take 6 .done) .none)))))) 
def plan94_1 : Plan := (.take 0 (.take 1 (.take 2 (.take 3 (.take 5 (.take 6 (.take 7 (.take 8 (.fork 4 (.fork 9 (.fork 10 (.fork 11 (.take 12 .done) .none) .none) .none) .none))))))))) 
def plan97_7 : Plan := (.take 0 (.take 1 (.take 2 (.take 3 (.take 4 (.take 5 (.take 6 (.take 7 (.take 8 (.take 9 (.take 10 (.take 11 (.take 12 (.take 13 (.take 14 (.take 15 (.take 16 (.take 17 (.take 18 (.take 19 (.take 20 (.take 21 (.take 22 (.take 23 (.take 24 (.take 25 (.take 26 (.take 27 (.take 28 (.take 29 (.take 30 .done))))))))))))))))))))))))))))))) 
def plan97_9 : Plan := (.take 0 (.take 1 (.take 2 (.take 3 (.take 4 (.take 5 (.take 6 (.take 7 (.take 8 (.fork 9 (.take 10 .done) .none)))))))))) 
end Go.Proofs.YthgcmeniecaemaaGreatDoor.Abs
namespace Go.Proofs.YthgcmeniecaemaaGreatDoor.Abs
def plan9_6_8 : Plan := (.take 0 (.take 2 (.take 7 (.fork 1 (.take 3 (.take 4 (.fork 5 (.fork 6 (.fork 8 (.take 9 .done) .none) (.fork 8 (.take 6 (.take 9 .done)) .none)) (.fork 8 (.take 5 (.take 6 (.take 9 .done))) .none)))) (.fork 8 (.take 1 (.take 3 (.take 4 (.take 5 (.take 6 (.take 9 .done)))))) .none))))) 
def plan11_12_8 : Plan := (.take 1 (.take 2 (.take 3 (.take 4 (.take 7 (.fork 0 (.fork 5 (.fork 6 (.fork 8 (.take 9 (.take 10 (.fork 11 (.take 12 (.take 13 (.take 14 (.take 15 (.take 16 .done))))) .none))) .none) (.fork 8 (.take 6 (.take 9 (.take 10 (.fork 11 (.take 12 (.take 13 (.take 14 (.take 15 (.take 16 .done))))) .none)))) .none)) (.fork 8 (.take 5 (.take 6 (.take 9 (.take 10 (.fork 11 (.take 12 (.take 13 (.take 14 (.take 15 (.take 16 .done))))) .none))))) .none)) (.fork 5 (.fork 0 (.fork 6 (.fork 8 (.take 9 (.take 10 (.fork 11 (.take 12 (.take 13 (.take 14 (.take 15 (.take 16 .done))))) .none))) .none) (.fork 8 (.take 6 (.take 9 (.take 10 (.fork 11 (.take 12 (.take 13 (.take 14 (.take 15 (.take 16 .done))))) .none)))) .none)) (.fork 6 (.fork 0 (.fork 8 (.take 9 (.take 10 (.fork 11 (.take 12 (.take 13 (.take 14 (.take 15 (.take 16 .done))))) .none))) .none) (.fork 8 (.take 0 (.take 9 (.take 10 (.fork 11 (.take 12 (.take 13 (.take 14 (.take 15 (.take 16 .done))))) .none)))) .none)) (.fork 8 (.take 0 (.take 6 (.take 9 (.take 10 (.fork 11 (.take 12 (.take 13 (.take 14 (.take 15 (.take 16 .done))))) .none))))) .none))) (.fork 8 (.take 0 (.take 5 (.take 6 (.take 9 (.take 10 (.fork 11 (.take 12 (.take 13 (.take 14 (.take 15 (.take 16 .done))))) .none)))))) .none)))))))) 
end Go.Proofs.YthgcmeniecaemaaGreatDoor.Abs
namespace Go.Proofs.YthgcmeniecaemaaGreatDoor.Abs
open Go
@[go_sem] theorem zr1 : zeroRaw Tryz.prog 1 = some (.nilFunc) := by kernel_rfl
@[go_sem] theorem td1 : td Tryz.prog 1 = some ⟨1, 8, false, (some [.nilFunc]), .other⟩ := by kernel_rfl
@[go_sem] theorem zr2 : zeroRaw Tryz.prog 2 = some (.int .i64 0) := by kernel_rfl
@[go_sem] theorem td2 : td Tryz.prog 2 = some ⟨1, 8, false, (some [.int .i64 0]), .int .i64⟩ := by kernel_rfl
@[go_sem] theorem zr3 : zeroRaw Tryz.prog 3 = some (.int .i64 0) := by kernel_rfl
@[go_sem] theorem td3 : td Tryz.prog 3 = some ⟨1, 8, false, (some [.int .i64 0]), .int .i64⟩ := by kernel_rfl
@[go_sem] theorem zr4 : zeroRaw Tryz.prog 4 = some (.bool false) := by kernel_rfl
@[go_sem] theorem td4 : td Tryz.prog 4 = some ⟨1, 1, false, (some [.bool false]), .bool⟩ := by kernel_rfl
@[go_sem] theorem zr5 : zeroRaw Tryz.prog 5 = some (.int .u8 0) := by kernel_rfl
@[go_sem] theorem td5 : td Tryz.prog 5 = some ⟨1, 1, false, (some [.int .u8 0]), .int .u8⟩ := by kernel_rfl
@[go_sem] theorem zr6 : zeroRaw Tryz.prog 6 = some (.int .u8 0) := by kernel_rfl
@[go_sem] theorem td6 : td Tryz.prog 6 = some ⟨1, 1, false, (some [.int .u8 0]), .int .u8⟩ := by kernel_rfl
@[go_sem] theorem zr7 : zeroRaw Tryz.prog 7 = some (.agg #[.int .i64 0, .int .i64 0, .bool false, .int .u8 0]) := by kernel_rfl
@[go_sem] theorem td7 : td Tryz.prog 7 = some ⟨4, 24, true, (some [.int .i64 0, .int .i64 0, .bool false, .int .u8 0]), .struct [(0, 2), (1, 3), (2, 4), (3, 6)]⟩ := by kernel_rfl
@[go_sem] theorem zr8 : zeroRaw Tryz.prog 8 = some (.agg #[.int .i64 0, .int .i64 0, .bool false, .int .u8 0]) := by kernel_rfl
@[go_sem] theorem td8 : td Tryz.prog 8 = some ⟨4, 24, true, (some [.int .i64 0, .int .i64 0, .bool false, .int .u8 0]), .struct [(0, 2), (1, 3), (2, 4), (3, 6)]⟩ := by kernel_rfl
@[go_sem] theorem zr9 : zeroRaw Tryz.prog 9 = some (.string ⟨#[]⟩) := by kernel_rfl
@[go_sem] theorem td9 : td Tryz.prog 9 = some ⟨1, 16, false, (some [.string ⟨#[]⟩]), .str⟩ := by kernel_rfl
@[go_sem] theorem zr10 : zeroRaw Tryz.prog 10 = some (.string ⟨#[]⟩) := by kernel_rfl
@[go_sem] theorem td10 : td Tryz.prog 10 = some ⟨1, 16, false, (some [.string ⟨#[]⟩]), .str⟩ := by kernel_rfl
@[go_sem] theorem zr11 : zeroRaw Tryz.prog 11 = some (.string ⟨#[]⟩) := by kernel_rfl
@[go_sem] theorem td11 : td Tryz.prog 11 = some ⟨1, 16, false, (some [.string ⟨#[]⟩]), .str⟩ := by kernel_rfl
@[go_sem] theorem zr12 : zeroRaw Tryz.prog 12 = some (.int .u64 0) := by kernel_rfl
@[go_sem] theorem td12 : td Tryz.prog 12 = some ⟨1, 8, false, (some [.int .u64 0]), .int .u64⟩ := by kernel_rfl
@[go_sem] theorem zr13 : zeroRaw Tryz.prog 13 = some (.agg #[.string ⟨#[]⟩, .int .u64 0]) := by kernel_rfl
@[go_sem] theorem td13 : td Tryz.prog 13 = some ⟨2, 24, true, (some [.string ⟨#[]⟩, .int .u64 0]), .struct [(0, 9), (1, 12)]⟩ := by kernel_rfl
@[go_sem] theorem zr14 : zeroRaw Tryz.prog 14 = some (.agg #[.string ⟨#[]⟩, .int .u64 0]) := by kernel_rfl
@[go_sem] theorem td14 : td Tryz.prog 14 = some ⟨2, 24, true, (some [.string ⟨#[]⟩, .int .u64 0]), .struct [(0, 9), (1, 12)]⟩ := by kernel_rfl
@[go_sem] theorem zr15 : zeroRaw Tryz.prog 15 = some (.pointer none) := by kernel_rfl
@[go_sem] theorem td15 : td Tryz.prog 15 = some ⟨1, 8, false, (some [.pointer none]), .other⟩ := by kernel_rfl
@[go_sem] theorem zr16 : zeroRaw Tryz.prog 16 = some (.pointer none) := by kernel_rfl
@[go_sem] theorem td16 : td Tryz.prog 16 = some ⟨1, 8, false, (some [.pointer none]), .other⟩ := by kernel_rfl
@[go_sem] theorem zr17 : zeroRaw Tryz.prog 17 = some (.pointer none) := by kernel_rfl
@[go_sem] theorem td17 : td Tryz.prog 17 = some ⟨1, 8, false, (some [.pointer none]), .other⟩ := by kernel_rfl
@[go_sem] theorem zr18 : zeroRaw Tryz.prog 18 = some (.agg #[.pointer none]) := by kernel_rfl
@[go_sem] theorem td18 : td Tryz.prog 18 = some ⟨1, 8, true, (some [.pointer none]), .struct [(0, 17)]⟩ := by kernel_rfl
@[go_sem] theorem zr19 : zeroRaw Tryz.prog 19 = some (.agg #[.pointer none]) := by kernel_rfl
@[go_sem] theorem td19 : td Tryz.prog 19 = some ⟨1, 8, true, (some [.pointer none]), .struct [(0, 17)]⟩ := by kernel_rfl
@[go_sem] theorem zr21 : zeroRaw Tryz.prog 21 = some (.int .i32 0) := by kernel_rfl
@[go_sem] theorem td21 : td Tryz.prog 21 = some ⟨1, 4, false, (some [.int .i32 0]), .int .i32⟩ := by kernel_rfl
@[go_sem] theorem zr22 : zeroRaw Tryz.prog 22 = some (.slice none 0 0) := by kernel_rfl
@[go_sem] theorem td22 : td Tryz.prog 22 = some ⟨1, 24, false, (some [.slice none 0 0]), .slice 3⟩ := by kernel_rfl
@[go_sem] theorem zr23 : zeroRaw Tryz.prog 23 = some (.slice none 0 0) := by kernel_rfl
@[go_sem] theorem td23 : td Tryz.prog 23 = some ⟨1, 24, false, (some [.slice none 0 0]), .slice 61⟩ := by kernel_rfl
@[go_sem] theorem zr24 : zeroRaw Tryz.prog 24 = some (.slice none 0 0) := by kernel_rfl
@[go_sem] theorem td24 : td Tryz.prog 24 = some ⟨1, 24, false, (some [.slice none 0 0]), .slice 36⟩ := by kernel_rfl
@[go_sem] theorem zr25 : zeroRaw Tryz.prog 25 = some (.agg #[.slice none 0 0, .slice none 0 0]) := by kernel_rfl
@[go_sem] theorem td25 : td Tryz.prog 25 = some ⟨2, 48, true, (some [.slice none 0 0, .slice none 0 0]), .struct [(0, 23), (1, 24)]⟩ := by kernel_rfl
@[go_sem] theorem zr26 : zeroRaw Tryz.prog 26 = some (.agg #[.slice none 0 0, .slice none 0 0]) := by kernel_rfl
@[go_sem] theorem td26 : td Tryz.prog 26 = some ⟨2, 48, true, (some [.slice none 0 0, .slice none 0 0]), .struct [(0, 23), (1, 24)]⟩ := by kernel_rfl
@[go_sem] theorem zr27 : zeroRaw Tryz.prog 27 = some (.slice none 0 0) := by kernel_rfl
@[go_sem] theorem td27 : td Tryz.prog 27 = some ⟨1, 24, false, (some [.slice none 0 0]), .slice 48⟩ := by kernel_rfl
@[go_sem] theorem zr28 : zeroRaw Tryz.prog 28 = some (.nilFunc) := by kernel_rfl
@[go_sem] theorem td28 : td Tryz.prog 28 = some ⟨1, 8, false, (some [.nilFunc]), .other⟩ := by kernel_rfl
@[go_sem] theorem zr29 : zeroRaw Tryz.prog 29 = some (.nilFunc) := by kernel_rfl
@[go_sem] theorem td29 : td Tryz.prog 29 = some ⟨1, 8, false, (some [.nilFunc]), .other⟩ := by kernel_rfl
@[go_sem] theorem zr30 : zeroRaw Tryz.prog 30 = some (.nilFunc) := by kernel_rfl
@[go_sem] theorem td30 : td Tryz.prog 30 = some ⟨1, 8, false, (some [.nilFunc]), .other⟩ := by kernel_rfl
@[go_sem] theorem zr31 : zeroRaw Tryz.prog 31 = some (.pointer none) := by kernel_rfl
@[go_sem] theorem td31 : td Tryz.prog 31 = some ⟨1, 8, false, (some [.pointer none]), .other⟩ := by kernel_rfl
@[go_sem] theorem zr32 : zeroRaw Tryz.prog 32 = some (.nilFunc) := by kernel_rfl
@[go_sem] theorem td32 : td Tryz.prog 32 = some ⟨1, 8, false, (some [.nilFunc]), .other⟩ := by kernel_rfl
@[go_sem] theorem zr33 : zeroRaw Tryz.prog 33 = some (.nilFunc) := by kernel_rfl
@[go_sem] theorem td33 : td Tryz.prog 33 = some ⟨1, 8, false, (some [.nilFunc]), .other⟩ := by kernel_rfl
@[go_sem] theorem zr34 : zeroRaw Tryz.prog 34 = some (.nilFunc) := by kernel_rfl
@[go_sem] theorem td34 : td Tryz.prog 34 = some ⟨1, 8, false, (some [.nilFunc]), .other⟩ := by kernel_rfl
@[go_sem] theorem zr35 : zeroRaw Tryz.prog 35 = some (.agg #[.string ⟨#[]⟩, .int .i64 0, .int .i64 0, .int .i64 0, .int .i64 0]) := by kernel_rfl
@[go_sem] theorem td35 : td Tryz.prog 35 = some ⟨5, 48, true, (some [.string ⟨#[]⟩, .int .i64 0, .int .i64 0, .int .i64 0, .int .i64 0]), .struct [(0, 9), (1, 3), (2, 3), (3, 3), (4, 3)]⟩ := by kernel_rfl
@[go_sem] theorem zr36 : zeroRaw Tryz.prog 36 = some (.agg #[.string ⟨#[]⟩, .int .i64 0, .int .i64 0, .int .i64 0, .int .i64 0]) := by kernel_rfl
@[go_sem] theorem td36 : td Tryz.prog 36 = some ⟨5, 48, true, (some [.string ⟨#[]⟩, .int .i64 0, .int .i64 0, .int .i64 0, .int .i64 0]), .struct [(0, 9), (1, 3), (2, 3), (3, 3), (4, 3)]⟩ := by kernel_rfl
@[go_sem] theorem zr37 : zeroRaw Tryz.prog 37 = some (.nilFunc) := by kernel_rfl
@[go_sem] theorem td37 : td Tryz.prog 37 = some ⟨1, 8, false, (some [.nilFunc]), .other⟩ := by kernel_rfl
@[go_sem] theorem zr38 : zeroRaw Tryz.prog 38 = some (.nilFunc) := by kernel_rfl
@[go_sem] theorem td38 : td Tryz.prog 38 = some ⟨1, 8, false, (some [.nilFunc]), .other⟩ := by kernel_rfl
@[go_sem] theorem zr39 : zeroRaw Tryz.prog 39 = some (.nilFunc) := by kernel_rfl
@[go_sem] theorem td39 : td Tryz.prog 39 = some ⟨1, 8, false, (some [.nilFunc]), .other⟩ := by kernel_rfl
@[go_sem] theorem zr40 : zeroRaw Tryz.prog 40 = some (.slice none 0 0) := by kernel_rfl
@[go_sem] theorem td40 : td Tryz.prog 40 = some ⟨1, 24, false, (some [.slice none 0 0]), .slice 26⟩ := by kernel_rfl
@[go_sem] theorem zr41 : zeroRaw Tryz.prog 41 = some (.nilFunc) := by kernel_rfl
@[go_sem] theorem td41 : td Tryz.prog 41 = some ⟨1, 8, false, (some [.nilFunc]), .other⟩ := by kernel_rfl
@[go_sem] theorem zr42 : zeroRaw Tryz.prog 42 = some (.slice none 0 0) := by kernel_rfl
@[go_sem] theorem td42 : td Tryz.prog 42 = some ⟨1, 24, false, (some [.slice none 0 0]), .slice 22⟩ := by kernel_rfl
@[go_sem] theorem zr43 : zeroRaw Tryz.prog 43 = some (.nilFunc) := by kernel_rfl
@[go_sem] theorem td43 : td Tryz.prog 43 = some ⟨1, 8, false, (some [.nilFunc]), .other⟩ := by kernel_rfl
@[go_sem] theorem zr44 : zeroRaw Tryz.prog 44 = some (.int .i64 0) := by kernel_rfl
@[go_sem] theorem td44 : td Tryz.prog 44 = some ⟨1, 8, false, (some [.int .i64 0]), .int .i64⟩ := by kernel_rfl
@[go_sem] theorem zr46 : zeroRaw Tryz.prog 46 = some (.nilFunc) := by kernel_rfl
@[go_sem] theorem td46 : td Tryz.prog 46 = some ⟨1, 8, false, (some [.nilFunc]), .other⟩ := by kernel_rfl
@[go_sem] theorem zr47 : zeroRaw Tryz.prog 47 = some (.agg #[.int .i64 0, .int .i64 0, .int .i64 0]) := by kernel_rfl
@[go_sem] theorem td47 : td Tryz.prog 47 = some ⟨3, 24, true, (some [.int .i64 0, .int .i64 0, .int .i64 0]), .struct [(0, 3), (1, 3), (2, 3)]⟩ := by kernel_rfl
@[go_sem] theorem zr48 : zeroRaw Tryz.prog 48 = some (.agg #[.int .i64 0, .int .i64 0, .int .i64 0]) := by kernel_rfl
@[go_sem] theorem td48 : td Tryz.prog 48 = some ⟨3, 24, true, (some [.int .i64 0, .int .i64 0, .int .i64 0]), .struct [(0, 3), (1, 3), (2, 3)]⟩ := by kernel_rfl
@[go_sem] theorem zr49 : zeroRaw Tryz.prog 49 = some (.slice none 0 0) := by kernel_rfl
@[go_sem] theorem td49 : td Tryz.prog 49 = some ⟨1, 24, false, (some [.slice none 0 0]), .slice 27⟩ := by kernel_rfl
@[go_sem] theorem zr51 : zeroRaw Tryz.prog 51 = some (.nilFunc) := by kernel_rfl
@[go_sem] theorem td51 : td Tryz.prog 51 = some ⟨1, 8, false, (some [.nilFunc]), .other⟩ := by kernel_rfl
@[go_sem] theorem zr52 : zeroRaw Tryz.prog 52 = some (.nilFunc) := by kernel_rfl
@[go_sem] theorem td52 : td Tryz.prog 52 = some ⟨1, 8, false, (some [.nilFunc]), .other⟩ := by kernel_rfl
@[go_sem] theorem zr53 : zeroRaw Tryz.prog 53 = some (.nilFunc) := by kernel_rfl
@[go_sem] theorem td53 : td Tryz.prog 53 = some ⟨1, 8, false, (some [.nilFunc]), .other⟩ := by kernel_rfl
@[go_sem] theorem zr54 : zeroRaw Tryz.prog 54 = some (.nilFunc) := by kernel_rfl
@[go_sem] theorem td54 : td Tryz.prog 54 = some ⟨1, 8, false, (some [.nilFunc]), .other⟩ := by kernel_rfl
@[go_sem] theorem zr55 : zeroRaw Tryz.prog 55 = some (.nilFunc) := by kernel_rfl
@[go_sem] theorem td55 : td Tryz.prog 55 = some ⟨1, 8, false, (some [.nilFunc]), .other⟩ := by kernel_rfl
@[go_sem] theorem zr56 : zeroRaw Tryz.prog 56 = some (.int .u64 0) := by kernel_rfl
@[go_sem] theorem td56 : td Tryz.prog 56 = some ⟨1, 8, false, (some [.int .u64 0]), .int .u64⟩ := by kernel_rfl
@[go_sem] theorem zr57 : zeroRaw Tryz.prog 57 = some (.agg #[.slice none 0 0, .int .i64 0, .int .u64 0]) := by kernel_rfl
@[go_sem] theorem td57 : td Tryz.prog 57 = some ⟨3, 40, true, (some [.slice none 0 0, .int .i64 0, .int .u64 0]), .struct [(0, 22), (1, 3), (2, 56)]⟩ := by kernel_rfl
@[go_sem] theorem zr58 : zeroRaw Tryz.prog 58 = some (.agg #[.slice none 0 0, .int .i64 0, .int .u64 0]) := by kernel_rfl
@[go_sem] theorem td58 : td Tryz.prog 58 = some ⟨3, 40, true, (some [.slice none 0 0, .int .i64 0, .int .u64 0]), .struct [(0, 22), (1, 3), (2, 56)]⟩ := by kernel_rfl
@[go_sem] theorem zr59 : zeroRaw Tryz.prog 59 = some (.nilFunc) := by kernel_rfl
@[go_sem] theorem td59 : td Tryz.prog 59 = some ⟨1, 8, false, (some [.nilFunc]), .other⟩ := by kernel_rfl
@[go_sem] theorem zr60 : zeroRaw Tryz.prog 60 = some (.agg #[.string ⟨#[]⟩, .int .i64 0, .int .i64 0]) := by kernel_rfl
@[go_sem] theorem td60 : td Tryz.prog 60 = some ⟨3, 32, true, (some [.string ⟨#[]⟩, .int .i64 0, .int .i64 0]), .struct [(0, 9), (1, 3), (2, 3)]⟩ := by kernel_rfl
@[go_sem] theorem zr61 : zeroRaw Tryz.prog 61 = some (.agg #[.string ⟨#[]⟩, .int .i64 0, .int .i64 0]) := by kernel_rfl
@[go_sem] theorem td61 : td Tryz.prog 61 = some ⟨3, 32, true, (some [.string ⟨#[]⟩, .int .i64 0, .int .i64 0]), .struct [(0, 9), (1, 3), (2, 3)]⟩ := by kernel_rfl
@[go_sem] theorem zr62 : zeroRaw Tryz.prog 62 = some (.nilFunc) := by kernel_rfl
@[go_sem] theorem td62 : td Tryz.prog 62 = some ⟨1, 8, false, (some [.nilFunc]), .other⟩ := by kernel_rfl
@[go_sem] theorem zr63 : zeroRaw Tryz.prog 63 = some (.slice none 0 0) := by kernel_rfl
@[go_sem] theorem td63 : td Tryz.prog 63 = some ⟨1, 24, false, (some [.slice none 0 0]), .slice 9⟩ := by kernel_rfl
@[go_sem] theorem zr64 : zeroRaw Tryz.prog 64 = some (.nilFunc) := by kernel_rfl
@[go_sem] theorem td64 : td Tryz.prog 64 = some ⟨1, 8, false, (some [.nilFunc]), .other⟩ := by kernel_rfl
@[go_sem] theorem zr65 : zeroRaw Tryz.prog 65 = some (.int .u64 0) := by kernel_rfl
@[go_sem] theorem td65 : td Tryz.prog 65 = some ⟨1, 8, false, (some [.int .u64 0]), .int .u64⟩ := by kernel_rfl
@[go_sem] theorem zr67 : zeroRaw Tryz.prog 67 = some (.nilFunc) := by kernel_rfl
@[go_sem] theorem td67 : td Tryz.prog 67 = some ⟨1, 8, false, (some [.nilFunc]), .other⟩ := by kernel_rfl
@[go_sem] theorem zr68 : zeroRaw Tryz.prog 68 = some (.nilFunc) := by kernel_rfl
@[go_sem] theorem td68 : td Tryz.prog 68 = some ⟨1, 8, false, (some [.nilFunc]), .other⟩ := by kernel_rfl
@[go_sem] theorem zr69 : zeroRaw Tryz.prog 69 = some (.nilFunc) := by kernel_rfl
@[go_sem] theorem td69 : td Tryz.prog 69 = some ⟨1, 8, false, (some [.nilFunc]), .other⟩ := by kernel_rfl
@[go_sem] theorem zr70 : zeroRaw Tryz.prog 70 = some (.nilFunc) := by kernel_rfl
@[go_sem] theorem td70 : td Tryz.prog 70 = some ⟨1, 8, false, (some [.nilFunc]), .other⟩ := by kernel_rfl
@[go_sem] theorem zr71 : zeroRaw Tryz.prog 71 = some (.nilFunc) := by kernel_rfl
@[go_sem] theorem td71 : td Tryz.prog 71 = some ⟨1, 8, false, (some [.nilFunc]), .other⟩ := by kernel_rfl
@[go_sem] theorem zr72 : zeroRaw Tryz.prog 72 = some (.nilFunc) := by kernel_rfl
@[go_sem] theorem td72 : td Tryz.prog 72 = some ⟨1, 8, false, (some [.nilFunc]), .other⟩ := by kernel_rfl
@[go_sem] theorem zr73 : zeroRaw Tryz.prog 73 = some (.nilFunc) := by kernel_rfl
@[go_sem] theorem td73 : td Tryz.prog 73 = some ⟨1, 8, false, (some [.nilFunc]), .other⟩ := by kernel_rfl
@[go_sem] theorem zr74 : zeroRaw Tryz.prog 74 = some (.nilFunc) := by kernel_rfl
@[go_sem] theorem td74 : td Tryz.prog 74 = some ⟨1, 8, false, (some [.nilFunc]), .other⟩ := by kernel_rfl
@[go_sem] theorem zr75 : zeroRaw Tryz.prog 75 = some (.nilFunc) := by kernel_rfl
@[go_sem] theorem td75 : td Tryz.prog 75 = some ⟨1, 8, false, (some [.nilFunc]), .other⟩ := by kernel_rfl
@[go_sem] theorem zr76 : zeroRaw Tryz.prog 76 = some (.slice none 0 0) := by kernel_rfl
@[go_sem] theorem td76 : td Tryz.prog 76 = some ⟨1, 24, false, (some [.slice none 0 0]), .slice 5⟩ := by kernel_rfl
@[go_sem] theorem zr77 : zeroRaw Tryz.prog 77 = some (.nilFunc) := by kernel_rfl
@[go_sem] theorem td77 : td Tryz.prog 77 = some ⟨1, 8, false, (some [.nilFunc]), .other⟩ := by kernel_rfl
@[go_sem] theorem zr78 : zeroRaw Tryz.prog 78 = some (.nilFunc) := by kernel_rfl
@[go_sem] theorem td78 : td Tryz.prog 78 = some ⟨1, 8, false, (some [.nilFunc]), .other⟩ := by kernel_rfl
@[go_sem] theorem zr80 : zeroRaw Tryz.prog 80 = some (.nilFunc) := by kernel_rfl
@[go_sem] theorem td80 : td Tryz.prog 80 = some ⟨1, 8, false, (some [.nilFunc]), .other⟩ := by kernel_rfl
@[go_sem] theorem zr81 : zeroRaw Tryz.prog 81 = some (.nilFunc) := by kernel_rfl
@[go_sem] theorem td81 : td Tryz.prog 81 = some ⟨1, 8, false, (some [.nilFunc]), .other⟩ := by kernel_rfl
@[go_sem] theorem zr82 : zeroRaw Tryz.prog 82 = some (.nilFunc) := by kernel_rfl
@[go_sem] theorem td82 : td Tryz.prog 82 = some ⟨1, 8, false, (some [.nilFunc]), .other⟩ := by kernel_rfl
@[go_sem] theorem zr83 : zeroRaw Tryz.prog 83 = some (.nilFunc) := by kernel_rfl
@[go_sem] theorem td83 : td Tryz.prog 83 = some ⟨1, 8, false, (some [.nilFunc]), .other⟩ := by kernel_rfl
@[go_sem] theorem zr84 : zeroRaw Tryz.prog 84 = some (.nilFunc) := by kernel_rfl
@[go_sem] theorem td84 : td Tryz.prog 84 = some ⟨1, 8, false, (some [.nilFunc]), .other⟩ := by kernel_rfl
@[go_sem] theorem zr85 : zeroRaw Tryz.prog 85 = some (.slice none 0 0) := by kernel_rfl
@[go_sem] theorem td85 : td Tryz.prog 85 = some ⟨1, 24, false, (some [.slice none 0 0]), .slice 4⟩ := by kernel_rfl
@[go_sem] theorem zr86 : zeroRaw Tryz.prog 86 = some (.nilFunc) := by kernel_rfl
@[go_sem] theorem td86 : td Tryz.prog 86 = some ⟨1, 8, false, (some [.nilFunc]), .other⟩ := by kernel_rfl
@[go_sem] theorem zr87 : zeroRaw Tryz.prog 87 = some (.nilFunc) := by kernel_rfl
@[go_sem] theorem td87 : td Tryz.prog 87 = some ⟨1, 8, false, (some [.nilFunc]), .other⟩ := by kernel_rfl
@[go_sem] theorem zr88 : zeroRaw Tryz.prog 88 = some (.nilFunc) := by kernel_rfl
@[go_sem] theorem td88 : td Tryz.prog 88 = some ⟨1, 8, false, (some [.nilFunc]), .other⟩ := by kernel_rfl
@[go_sem] theorem zr89 : zeroRaw Tryz.prog 89 = some (.nilFunc) := by kernel_rfl
@[go_sem] theorem td89 : td Tryz.prog 89 = some ⟨1, 8, false, (some [.nilFunc]), .other⟩ := by kernel_rfl
@[go_sem] theorem zr90 : zeroRaw Tryz.prog 90 = some (.nilFunc) := by kernel_rfl
@[go_sem] theorem td90 : td Tryz.prog 90 = some ⟨1, 8, false, (some [.nilFunc]), .other⟩ := by kernel_rfl
@[go_sem] theorem zr91 : zeroRaw Tryz.prog 91 = some (.map none) := by kernel_rfl
@[go_sem] theorem td91 : td Tryz.prog 91 = some ⟨1, 8, false, (some [.map none]), .map 9 4⟩ := by kernel_rfl
@[go_sem] theorem zr92 : zeroRaw Tryz.prog 92 = some (.nilFunc) := by kernel_rfl
@[go_sem] theorem td92 : td Tryz.prog 92 = some ⟨1, 8, false, (some [.nilFunc]), .other⟩ := by kernel_rfl
@[go_sem] theorem zr93 : zeroRaw Tryz.prog 93 = some (.nilFunc) := by kernel_rfl
@[go_sem] theorem td93 : td Tryz.prog 93 = some ⟨1, 8, false, (some [.nilFunc]), .other⟩ := by kernel_rfl
@[go_sem] theorem zr94 : zeroRaw Tryz.prog 94 = some (.nilFunc) := by kernel_rfl
@[go_sem] theorem td94 : td Tryz.prog 94 = some ⟨1, 8, false, (some [.nilFunc]), .other⟩ := by kernel_rfl
@[go_sem] theorem zr95 : zeroRaw Tryz.prog 95 = some (.nilFunc) := by kernel_rfl
@[go_sem] theorem td95 : td Tryz.prog 95 = some ⟨1, 8, false, (some [.nilFunc]), .other⟩ := by kernel_rfl
@[go_sem] theorem zr96 : zeroRaw Tryz.prog 96 = some (.nilFunc) := by kernel_rfl
@[go_sem] theorem td96 : td Tryz.prog 96 = some ⟨1, 8, false, (some [.nilFunc]), .other⟩ := by kernel_rfl
@[go_sem] theorem zr97 : zeroRaw Tryz.prog 97 = some (.nilFunc) := by kernel_rfl
@[go_sem] theorem td97 : td Tryz.prog 97 = some ⟨1, 8, false, (some [.nilFunc]), .other⟩ := by kernel_rfl
@[go_sem] theorem zr98 : zeroRaw Tryz.prog 98 = some (.nilFunc) := by kernel_rfl
@[go_sem] theorem td98 : td Tryz.prog 98 = some ⟨1, 8, false, (some [.nilFunc]), .other⟩ := by kernel_rfl
@[go_sem] theorem zr99 : zeroRaw Tryz.prog 99 = some (.nilFunc) := by kernel_rfl
@[go_sem] theorem td99 : td Tryz.prog 99 = some ⟨1, 8, false, (some [.nilFunc]), .other⟩ := by kernel_rfl
@[go_sem] theorem zr100 : zeroRaw Tryz.prog 100 = some (.nilFunc) := by kernel_rfl
@[go_sem] theorem td100 : td Tryz.prog 100 = some ⟨1, 8, false, (some [.nilFunc]), .other⟩ := by kernel_rfl
@[go_sem] theorem zr101 : zeroRaw Tryz.prog 101 = some (.nilFunc) := by kernel_rfl
@[go_sem] theorem td101 : td Tryz.prog 101 = some ⟨1, 8, false, (some [.nilFunc]), .other⟩ := by kernel_rfl
@[go_sem] theorem zr102 : zeroRaw Tryz.prog 102 = some (.agg #[.int .u8 0, .int .u8 0, .bool false]) := by kernel_rfl
@[go_sem] theorem td102 : td Tryz.prog 102 = some ⟨3, 3, true, (some [.int .u8 0, .int .u8 0, .bool false]), .struct [(0, 5), (1, 5), (2, 4)]⟩ := by kernel_rfl
@[go_sem] theorem zr103 : zeroRaw Tryz.prog 103 = some (.agg #[.int .u8 0, .int .u8 0, .bool false, .int .u8 0, .int .u8 0, .bool false, .int .u8 0, .int .u8 0, .bool false, .int .u8 0, .int .u8 0, .bool false]) := by kernel_rfl
@[go_sem] theorem td103 : td Tryz.prog 103 = some ⟨12, 12, true, (some [.int .u8 0, .int .u8 0, .bool false, .int .u8 0, .int .u8 0, .bool false, .int .u8 0, .int .u8 0, .bool false, .int .u8 0, .int .u8 0, .bool false]), .array 4 102⟩ := by kernel_rfl
@[go_sem] theorem zr104 : zeroRaw Tryz.prog 104 = some (.nilFunc) := by kernel_rfl
@[go_sem] theorem td104 : td Tryz.prog 104 = some ⟨1, 8, false, (some [.nilFunc]), .other⟩ := by kernel_rfl
@[go_sem] theorem zr105 : zeroRaw Tryz.prog 105 = some (.nilFunc) := by kernel_rfl
@[go_sem] theorem td105 : td Tryz.prog 105 = some ⟨1, 8, false, (some [.nilFunc]), .other⟩ := by kernel_rfl
@[go_sem] theorem zr106 : zeroRaw Tryz.prog 106 = some (.nilFunc) := by kernel_rfl
@[go_sem] theorem td106 : td Tryz.prog 106 = some ⟨1, 8, false, (some [.nilFunc]), .other⟩ := by kernel_rfl
@[go_sem] theorem zr107 : zeroRaw Tryz.prog 107 = some (.nilFunc) := by kernel_rfl
@[go_sem] theorem td107 : td Tryz.prog 107 = some ⟨1, 8, false, (some [.nilFunc]), .other⟩ := by kernel_rfl
@[go_sem] theorem zr108 : zeroRaw Tryz.prog 108 = some (.nilFunc) := by kernel_rfl
@[go_sem] theorem td108 : td Tryz.prog 108 = some ⟨1, 8, false, (some [.nilFunc]), .other⟩ := by kernel_rfl
@[go_sem] theorem zr109 : zeroRaw Tryz.prog 109 = some (.nilFunc) := by kernel_rfl
@[go_sem] theorem td109 : td Tryz.prog 109 = some ⟨1, 8, false, (some [.nilFunc]), .other⟩ := by kernel_rfl
@[go_sem] theorem zr110 : zeroRaw Tryz.prog 110 = some (.agg #[.pointer none, .pointer none, .pointer none, .string ⟨#[]⟩]) := by kernel_rfl
@[go_sem] theorem td110 : td Tryz.prog 110 = some ⟨4, 40, true, (some [.pointer none, .pointer none, .pointer none, .string ⟨#[]⟩]), .struct [(0, 17), (1, 17), (2, 17), (3, 9)]⟩ := by kernel_rfl
@[go_sem] theorem zr111 : zeroRaw Tryz.prog 111 = some (.agg #[.pointer none, .pointer none, .pointer none, .string ⟨#[]⟩]) := by kernel_rfl
@[go_sem] theorem td111 : td Tryz.prog 111 = some ⟨4, 40, true, (some [.pointer none, .pointer none, .pointer none, .string ⟨#[]⟩]), .struct [(0, 17), (1, 17), (2, 17), (3, 9)]⟩ := by kernel_rfl
@[go_sem] theorem zr112 : zeroRaw Tryz.prog 112 = some (.agg #[]) := by kernel_rfl
@[go_sem] theorem td112 : td Tryz.prog 112 = some ⟨0, 0, true, (some []), .array 0 16⟩ := by kernel_rfl
@[go_sem] theorem zr113 : zeroRaw Tryz.prog 113 = some (.agg #[]) := by kernel_rfl
@[go_sem] theorem td113 : td Tryz.prog 113 = some ⟨0, 0, true, (some []), .struct [(0, 112)]⟩ := by kernel_rfl
@[go_sem] theorem zr114 : zeroRaw Tryz.prog 114 = some (.agg #[]) := by kernel_rfl
@[go_sem] theorem td114 : td Tryz.prog 114 = some ⟨0, 0, true, (some []), .struct [(0, 112)]⟩ := by kernel_rfl
@[go_sem] theorem zr115 : zeroRaw Tryz.prog 115 = some (.nilFunc) := by kernel_rfl
@[go_sem] theorem td115 : td Tryz.prog 115 = some ⟨1, 8, false, (some [.nilFunc]), .other⟩ := by kernel_rfl
@[go_sem] theorem zr116 : zeroRaw Tryz.prog 116 = some (.int .u32 0) := by kernel_rfl
@[go_sem] theorem td116 : td Tryz.prog 116 = some ⟨1, 4, false, (some [.int .u32 0]), .int .u32⟩ := by kernel_rfl
@[go_sem] theorem zr117 : zeroRaw Tryz.prog 117 = some (.int .u8 0) := by kernel_rfl
@[go_sem] theorem td117 : td Tryz.prog 117 = some ⟨1, 1, false, (some [.int .u8 0]), .int .u8⟩ := by kernel_rfl
@[go_sem] theorem zr118 : zeroRaw Tryz.prog 118 = some (.int .u8 0) := by kernel_rfl
@[go_sem] theorem td118 : td Tryz.prog 118 = some ⟨1, 1, false, (some [.int .u8 0]), .int .u8⟩ := by kernel_rfl
@[go_sem] theorem zr119 : zeroRaw Tryz.prog 119 = some (.nilFunc) := by kernel_rfl
@[go_sem] theorem td119 : td Tryz.prog 119 = some ⟨1, 8, false, (some [.nilFunc]), .other⟩ := by kernel_rfl
@[go_sem] theorem zr120 : zeroRaw Tryz.prog 120 = some (.pointer none) := by kernel_rfl
@[go_sem] theorem td120 : td Tryz.prog 120 = some ⟨1, 8, false, (some [.pointer none]), .other⟩ := by kernel_rfl
@[go_sem] theorem zr121 : zeroRaw Tryz.prog 121 = some (.int .i32 0) := by kernel_rfl
@[go_sem] theorem td121 : td Tryz.prog 121 = some ⟨1, 4, false, (some [.int .i32 0]), .int .i32⟩ := by kernel_rfl
@[go_sem] theorem zr122 : zeroRaw Tryz.prog 122 = some (.int .i32 0) := by kernel_rfl
@[go_sem] theorem td122 : td Tryz.prog 122 = some ⟨1, 4, false, (some [.int .i32 0]), .int .i32⟩ := by kernel_rfl
@[go_sem] theorem zr123 : zeroRaw Tryz.prog 123 = some (.agg #[.int .u64 0, .int .u64 0, .int .u32 0, .int .u8 0, .int .u8 0, .int .u8 0, .int .u8 0, .nilFunc, .pointer none, .int .i32 0, .int .i32 0]) := by kernel_rfl
@[go_sem] theorem td123 : td Tryz.prog 123 = some ⟨11, 48, true, (some [.int .u64 0, .int .u64 0, .int .u32 0, .int .u8 0, .int .u8 0, .int .u8 0, .int .u8 0, .nilFunc, .pointer none, .int .i32 0, .int .i32 0]), .struct [(0, 12), (1, 12), (2, 116), (3, 117), (4, 5), (5, 5), (6, 118), (7, 119), (8, 120), (9, 121), (10, 122)]⟩ := by kernel_rfl
@[go_sem] theorem zr124 : zeroRaw Tryz.prog 124 = some (.agg #[.int .u64 0, .int .u64 0, .int .u32 0, .int .u8 0, .int .u8 0, .int .u8 0, .int .u8 0, .nilFunc, .pointer none, .int .i32 0, .int .i32 0]) := by kernel_rfl
@[go_sem] theorem td124 : td Tryz.prog 124 = some ⟨11, 48, true, (some [.int .u64 0, .int .u64 0, .int .u32 0, .int .u8 0, .int .u8 0, .int .u8 0, .int .u8 0, .nilFunc, .pointer none, .int .i32 0, .int .i32 0]), .struct [(0, 12), (1, 12), (2, 116), (3, 117), (4, 5), (5, 5), (6, 118), (7, 119), (8, 120), (9, 121), (10, 122)]⟩ := by kernel_rfl
@[go_sem] theorem zr125 : zeroRaw Tryz.prog 125 = some (.pointer none) := by kernel_rfl
@[go_sem] theorem td125 : td Tryz.prog 125 = some ⟨1, 8, false, (some [.pointer none]), .other⟩ := by kernel_rfl
@[go_sem] theorem eqf7 : eqFlat Tryz.prog 7 = some [(0, 2), (1, 3), (2, 4), (3, 6)] := by kernel_rfl
@[go_sem] theorem eqf8 : eqFlat Tryz.prog 8 = some [(0, 2), (1, 3), (2, 4), (3, 6)] := by kernel_rfl
@[go_sem] theorem eqf35 : eqFlat Tryz.prog 35 = some [(0, 9), (1, 3), (2, 3), (3, 3), (4, 3)] := by kernel_rfl
@[go_sem] theorem eqf36 : eqFlat Tryz.prog 36 = some [(0, 9), (1, 3), (2, 3), (3, 3), (4, 3)] := by kernel_rfl
@[go_sem] theorem eqf47 : eqFlat Tryz.prog 47 = some [(0, 3), (1, 3), (2, 3)] := by kernel_rfl
@[go_sem] theorem eqf48 : eqFlat Tryz.prog 48 = some [(0, 3), (1, 3), (2, 3)] := by kernel_rfl
@[go_sem] theorem eqf60 : eqFlat Tryz.prog 60 = some [(0, 9), (1, 3), (2, 3)] := by kernel_rfl
@[go_sem] theorem eqf61 : eqFlat Tryz.prog 61 = some [(0, 9), (1, 3), (2, 3)] := by kernel_rfl
@[go_sem] theorem eqf102 : eqFlat Tryz.prog 102 = some [(0, 5), (1, 5), (2, 4)] := by kernel_rfl
end Go.Proofs.YthgcmeniecaemaaGreatDoor.Abs
