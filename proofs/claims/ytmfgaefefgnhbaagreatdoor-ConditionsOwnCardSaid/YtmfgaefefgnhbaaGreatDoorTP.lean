/- Plans for regions that draw their order, and what is known of each type: printed by a program, checked where they are used, and by the kernel. -/
import Derived.Test.YtmfgaefefgnhbaaGreatDoorT3
import Derived.Test.YtmfgaefefgnhbaaGreatDoorChecked
import Derived.KernelRfl
namespace Go.Proofs.YtmfgaefefgnhbaaGreatDoor.Abs
def plan3_18 : Plan := (.take 0 (.take 1 (.take 2 (.take 3 (.take 4 (.take 5 (.take 6 (.take 7 (.take 8 (.take 9 (.take 10 (.take 11 .done)))))))))))) 
def plan7_9 : Plan := (.take 0 (.take 1 (.take 2 (.take 3 (.take 5 (.take 9 (.take 13 (.take 14 (.take 15 (.take 16 (.fork 4 (.fork 6 (.take 7 (.take 8 (.fork 10 (.take 11 (.take 12 (.fork 17 (.take 18 (.fork 19 .done .none)) .none))) .none))) .none) (.fork 6 (.fork 4 (.take 7 (.take 8 (.fork 10 (.take 11 (.take 12 (.fork 17 (.take 18 (.fork 19 .done .none)) .none))) .none))) (.fork 10 (.take 11 (.fork 4 (.take 7 (.take 8 (.take 12 (.fork 17 (.take 18 (.fork 19 .done .none)) .none)))) .none)) .none)) .none)))))))))))) 
def plan7_16 : Plan := (.take 0 (.take 1 (.take 2 (.fork 3 (.take 4 (.take 5 (.fork 6 (.fork 7 (.take 8 (.fork 9 .done .none)) .none) .none))) .none)))) 
def plan8_12 : Plan := (.take 0 (.take 1 (.take 2 (.take 3 (.take 4 (.take 5 (.take 6 (.take 7 (.fork 8 (.take 9 (.take 10 (.fork 11 (.take 12 (.take 13 (.take 14 (.take 15 (.take 16 .done))))) .none))) .none))))))))) 
def plan13_2 : Plan := (.take 0 (.take 1 (.take 2 (.take 3 (.take 4 (.take 5 (.take 6 (.take 7 (.take 8 (.take 9 .done)))))))))) 
def plan13_3 : Plan := (.take 0 (.take 1 (.take 2 (.take 3 (.take 4 (.take 5 (.take 6 (.take 7 (.take 8 (.take 9 (.take 10 (.take 11 .done)))))))))))) 
def plan14_10 : Plan := (.take 0 (.take 1 (.take 2 (.take 3 (.take 4 (.take 5 (.take 6 (.take 7 .done)))))))) 
def plan14_18 : Plan := (.take 0 (.take 1 (.take 2 (.take 3 (.take 4 (.take 5 (.take 6 (.take 7 (.take 8 (.take 9 (.fork 10 (.take 11 .done) .none))))))))))) 
def plan14_20 : Plan := (.take 0 (.take 1 (.take 2 (.fork 3 (.take 4 (.fork 5 (.fork 6 (.take 7 .done) .none) .none)) (.fork 4 (.fork 3 (.fork 5 (.fork 6 (.take 7 .done) .none) .none) (.fork 5 (.fork 3 (.fork 6 (.take 7 .done) .none) .none) .none)) .none))))) 
def plan15_12 : Plan := (.take 0 (.take 1 (.take 2 (.take 3 (.take 4 (.take 5 (.take 6 (.take 7 (.take 8 (.fork 9 (.take 10 (.take 11 (.take 12 .done))) .none)))))))))) 
def plan15_14 : Plan := (.take 0 (.take 1 (.take 2 (.take 3 (.fork 4 (.take 5 .done) .none))))) 
def plan15_16 : Plan := (.take 0 (.take 1 (.take 2 (.take 3 (.take 4 (.fork 5 (.take 6 .done) .none)))))) 
def plan17_9 : Plan := (.take 0 (.take 1 (.take 2 (.take 3 (.take 4 (.take 5 (.take 6 (.take 7 (.take 8 (.take 9 (.take 10 (.take 11 (.take 12 (.take 13 .done)))))))))))))) 
def plan22_1 : Plan := (.take 0 (.take 1 (.take 2 (.take 3 (.take 4 (.take 6 (.take 7 (.fork 5 (.fork 8 (.take 9 (.take 10 .done)) .none) .none)))))))) 
def plan31_2 : Plan := (.take 0 (.take 1 (.take 2 (.take 3 (.take 4 (.take 5 (.take 6 (.take 7 (.take 8 (.take 9 (.take 10 (.take 11 (.take 12 (.take 14 (.take 15 (.fork 13 (.take 16 (.take 17 .done)) .none)))))))))))))))) 
def plan37_8 : Plan := (.take 0 (.take 1 (.take 2 (.take 3 (.take 4 (.take 5 (.take 6 (.fork 7 (.fork 8 .done .none) .none)))))))) 
def plan43_12 : Plan := (.take 0 (.take 1 (.take 2 (.take 3 (.take 4 (.take 5 (.take 6 (.take 7 (.take 8 (.take 9 (.take 10 (.take 11 (.take 12 .done))))))))))))) 
def plan44_4 : Plan := (.take 0 (.take 1 (.fork 2 (.take 3 (.take 4 (.take 5 (.take 6 (.take 7 (.take 8 (.take 9 (.take 10 (.take 11 (.take 12 (.take 13 (.take 14 (.take 15 (.take 16 (.take 17 (.take 18 (.take 19 (.take 20 (.take 21 (.take 22 (.take 23 (.take 24 (.take 25 (.take 26 (.take 27 (.take 28 (.take 29 (.take 30 (.take 31 (.take 32 (.take 33 (.take 34 (.take 35 (.take 36 (.take 37 (.take 38 (.take 39 (.take 40 .done)))))))))))))))))))))))))))))))))))))) .none))) 
def plan45_4 : Plan := (.take 0 (.take 1 (.fork 2 (.take 3 (.take 4 (.take 5 (.take 6 (.take 7 (.take 8 (.take 9 (.take 10 (.take 11 (.take 12 (.take 13 (.take 14 (.take 15 (.take 16 (.take 17 (.take 18 .done)))))))))))))))) .none))) 
def plan47_9 : Plan := (.take 0 (.take 1 (.take 2 (.take 3 (.take 4 (.fork 5 (.take 6 .done) .none)))))) 
def plan47_12 : Plan := (.take 0 (.take 1 (.take 2 (.take 3 (.take 4 (.take 5 (.take 6 (.take 7 (.take 8 (.take 9 (.take 10 (.take 11 (.fork 12 (.take 13 (.take 14 .done)) .none))))))))))))) 
def plan47_17 : Plan := (.take 0 (.take 1 (.take 2 (.take 3 (.take 4 (.take 5 (.take 6 (.take 7 (.take 8 (.take 9 (.take 10 (.take 11 (.take 12 (.take 13 (.take 14 (.take 15 (.take 16 (.take 17 (.take 18 (.take 19 (.take 20 (.take 21 (.take 22 (.take 23 .done)))))))))))))))))))))))) 
def plan47_22 : Plan := (.take 0 (.take 1 (.take 2 (.take 3 (.take 4 (.take 5 (.take 6 (.take 7 (.take 8 (.take 9 (.take 10 .done))))))))))) 
def plan52_1 : Plan := (.take 0 (.take 1 (.take 2 (.take 3 (.take 5 (.take 6 (.take 7 (.take 8 (.fork 4 (.fork 9 (.fork 10 (.fork 11 (.take 12 .done) .none) .none) .none) .none))))))))) 
def plan63_4 : Plan := (.take 0 (.take 1 (.take 2 (.take 3 (.take 4 (.take 5 .done)))))) 
def plan72_1 : Plan := (.take 0 (.take 1 (.take 2 (.take 3 (.take 4 (.take 5 (.take 6 (.take 7 (.take 8 (.take 9 (.take 10 (.take 11 (.take 12 (.fork 13 (.take 14 (.take 15 (.take 16 .done))) .none)))))))))))))) 
def plan78_1 : Plan := (.take 0 (.take 1 (.take 2 (.take 3 (.take 4 (.take 5 (.take 6 (.take 7 (.take 8 (.take 9 (.take 10 .done))))))))))) 
def plan80_8 : Plan := (.take 0 (.take 1 (.take 2 (.take 3 (.take 4 (.take 5 (.take 6 (.take 7 (.take 8 (.take 9 (.take 10 (.take 11 (.take 12 (.take 13 .done)))))))))))))) 
def plan81_8 : Plan := (.take 0 (.take 1 (.take 2 (.take 3 (.take 4 (.take 5 (.take 6 (.take 7 (.take 8 (.take 9 (.take 10 (.take 11 (.take 12 (.take 13 .done)))))))))))))) 
def plan90_12 : Plan := (.take 0 (.take 1 (.take 2 (.take 3 (.take 4 (.take 5 (.take 6 (.take 7 (.take 8 .done))))))))) 
def plan90_25 : Plan := (.take 0 (.take 1 (.take 2 (.take 3 (.take 4 (.take 5 (.take 6 (.take 7 (.take 8 .done))))))))) 
def plan90_30 : Plan := (.take 0 (.take 1 (.take 2 (.take 3 (.take 4 (.take 5 (.take 6 (.take 7 (.take 8 .done))))))))) 
def plan114_1 : Plan := (.take 0 (.take 1 (.take 2 (.take 3 (.take 4 (.take 5 (.take 6 (.take 7 (.take 8 (.take 9 (.take 10 .done))))))))))) 
def plan129_14 : Plan := (.take 0 (.take 1 (.take 2 (.take 3 (.fork 4 (.take 5 .done) .none))))) 
def plan136_1 : Plan := (.take 0 (.take 1 (.take 2 (.take 3 (.take 4 (.take 5 (.take 6 (.take 7 (.take 8 .done))))))))) 
def plan146_7 : Plan := (.take 0 (.take 1 (.take 2 (.take 3 (.take 4 (.take 5 (.take 6 (.fork 7 (.take 8 (.take 9 .done)) .none)))))))) 
end Go.Proofs.YtmfgaefefgnhbaaGreatDoor.Abs
namespace Go.Proofs.YtmfgaefefgnhbaaGreatDoor.Abs
def plan8_12_8 : Plan := (.take 1 (.take 2 (.take 3 (.take 4 (.take 7 (.fork 0 (.fork 5 (.fork 6 (.fork 8 (.take 9 (.take 10 (.fork 11 (.take 12 (.take 13 (.take 14 (.take 15 (.take 16 .done))))) .none))) .none) (.fork 8 (.take 6 (.take 9 (.take 10 (.fork 11 (.take 12 (.take 13 (.take 14 (.take 15 (.take 16 .done))))) .none)))) .none)) (.fork 8 (.take 5 (.take 6 (.take 9 (.take 10 (.fork 11 (.take 12 (.take 13 (.take 14 (.take 15 (.take 16 .done))))) .none))))) .none)) (.fork 5 (.fork 0 (.fork 6 (.fork 8 (.take 9 (.take 10 (.fork 11 (.take 12 (.take 13 (.take 14 (.take 15 (.take 16 .done))))) .none))) .none) (.fork 8 (.take 6 (.take 9 (.take 10 (.fork 11 (.take 12 (.take 13 (.take 14 (.take 15 (.take 16 .done))))) .none)))) .none)) (.fork 6 (.fork 0 (.fork 8 (.take 9 (.take 10 (.fork 11 (.take 12 (.take 13 (.take 14 (.take 15 (.take 16 .done))))) .none))) .none) (.fork 8 (.take 0 (.take 9 (.take 10 (.fork 11 (.take 12 (.take 13 (.take 14 (.take 15 (.take 16 .done))))) .none)))) .none)) (.fork 8 (.take 0 (.take 6 (.take 9 (.take 10 (.fork 11 (.take 12 (.take 13 (.take 14 (.take 15 (.take 16 .done))))) .none))))) .none))) (.fork 8 (.take 0 (.take 5 (.take 6 (.take 9 (.take 10 (.fork 11 (.take 12 (.take 13 (.take 14 (.take 15 (.take 16 .done))))) .none)))))) .none)))))))) 
def plan7_9_6_10 : Plan := (.take 0 (.take 1 (.take 2 (.take 3 (.take 5 (.take 9 (.take 13 (.take 14 (.take 15 (.take 16 (.fork 4 (.fork 6 (.take 7 (.fork 8 (.fork 10 (.take 11 (.take 12 (.fork 17 (.take 18 (.fork 19 .done .none)) .none))) .none) (.fork 10 (.take 8 (.take 11 (.take 12 (.fork 17 (.take 18 (.fork 19 .done .none)) .none)))) .none))) .none) (.fork 6 (.fork 4 (.take 7 (.fork 8 (.fork 10 (.take 11 (.take 12 (.fork 17 (.take 18 (.fork 19 .done .none)) .none))) .none) (.fork 10 (.take 8 (.take 11 (.take 12 (.fork 17 (.take 18 (.fork 19 .done .none)) .none)))) .none))) (.fork 10 (.take 11 (.fork 4 (.take 7 (.take 8 (.take 12 (.fork 17 (.take 18 (.fork 19 .done .none)) .none)))) .none)) .none)) .none)))))))))))) 
def plan7_16_3 : Plan := (.take 0 (.take 2 (.fork 1 (.fork 3 (.take 4 (.take 5 (.fork 6 (.fork 7 (.take 8 (.fork 9 .done .none)) .none) .none))) .none) (.fork 3 (.take 1 (.take 4 (.take 5 (.fork 6 (.fork 7 (.take 8 (.fork 9 .done .none)) .none) .none)))) .none)))) 
end Go.Proofs.YtmfgaefefgnhbaaGreatDoor.Abs
namespace Go.Proofs.YtmfgaefefgnhbaaGreatDoor.Abs
open Go
@[go_sem] theorem zr1 : zeroRaw Tryz.prog 1 = some (.nilFunc) := by kernel_rfl
@[go_sem] theorem td1 : td Tryz.prog 1 = some ⟨1, 8, false, (some [.nilFunc]), .other⟩ := by kernel_rfl
@[go_sem] theorem zr2 : zeroRaw Tryz.prog 2 = some (.int .i64 0) := by kernel_rfl
@[go_sem] theorem td2 : td Tryz.prog 2 = some ⟨1, 8, false, (some [.int .i64 0]), .int .i64⟩ := by kernel_rfl
@[go_sem] theorem zr3 : zeroRaw Tryz.prog 3 = some (.int .i64 0) := by kernel_rfl
@[go_sem] theorem td3 : td Tryz.prog 3 = some ⟨1, 8, false, (some [.int .i64 0]), .int .i64⟩ := by kernel_rfl
@[go_sem] theorem zr4 : zeroRaw Tryz.prog 4 = some (.bool false) := by kernel_rfl
@[go_sem] theorem td4 : td Tryz.prog 4 = some ⟨1, 1, false, (some [.bool false]), .bool⟩ := by kernel_rfl
@[go_sem] theorem zr5 : zeroRaw Tryz.prog 5 = some (.int .u8 0) := by kernel_rfl
@[go_sem] theorem td5 : td Tryz.prog 5 = some ⟨1, 1, false, (some [.int .u8 0]), .int .u8⟩ := by kernel_rfl
@[go_sem] theorem zr6 : zeroRaw Tryz.prog 6 = some (.int .u8 0) := by kernel_rfl
@[go_sem] theorem td6 : td Tryz.prog 6 = some ⟨1, 1, false, (some [.int .u8 0]), .int .u8⟩ := by kernel_rfl
@[go_sem] theorem zr7 : zeroRaw Tryz.prog 7 = some (.agg #[.int .i64 0, .int .i64 0, .bool false, .int .u8 0]) := by kernel_rfl
@[go_sem] theorem td7 : td Tryz.prog 7 = some ⟨4, 24, true, (some [.int .i64 0, .int .i64 0, .bool false, .int .u8 0]), .struct [(0, 2), (1, 3), (2, 4), (3, 6)]⟩ := by kernel_rfl
@[go_sem] theorem zr8 : zeroRaw Tryz.prog 8 = some (.agg #[.int .i64 0, .int .i64 0, .bool false, .int .u8 0]) := by kernel_rfl
@[go_sem] theorem td8 : td Tryz.prog 8 = some ⟨4, 24, true, (some [.int .i64 0, .int .i64 0, .bool false, .int .u8 0]), .struct [(0, 2), (1, 3), (2, 4), (3, 6)]⟩ := by kernel_rfl
@[go_sem] theorem zr9 : zeroRaw Tryz.prog 9 = some (.string ⟨#[]⟩) := by kernel_rfl
@[go_sem] theorem td9 : td Tryz.prog 9 = some ⟨1, 16, false, (some [.string ⟨#[]⟩]), .str⟩ := by kernel_rfl
@[go_sem] theorem zr10 : zeroRaw Tryz.prog 10 = some (.string ⟨#[]⟩) := by kernel_rfl
@[go_sem] theorem td10 : td Tryz.prog 10 = some ⟨1, 16, false, (some [.string ⟨#[]⟩]), .str⟩ := by kernel_rfl
@[go_sem] theorem zr11 : zeroRaw Tryz.prog 11 = some (.string ⟨#[]⟩) := by kernel_rfl
@[go_sem] theorem td11 : td Tryz.prog 11 = some ⟨1, 16, false, (some [.string ⟨#[]⟩]), .str⟩ := by kernel_rfl
@[go_sem] theorem zr12 : zeroRaw Tryz.prog 12 = some (.int .u64 0) := by kernel_rfl
@[go_sem] theorem td12 : td Tryz.prog 12 = some ⟨1, 8, false, (some [.int .u64 0]), .int .u64⟩ := by kernel_rfl
@[go_sem] theorem zr13 : zeroRaw Tryz.prog 13 = some (.agg #[.string ⟨#[]⟩, .int .u64 0]) := by kernel_rfl
@[go_sem] theorem td13 : td Tryz.prog 13 = some ⟨2, 24, true, (some [.string ⟨#[]⟩, .int .u64 0]), .struct [(0, 9), (1, 12)]⟩ := by kernel_rfl
@[go_sem] theorem zr14 : zeroRaw Tryz.prog 14 = some (.agg #[.string ⟨#[]⟩, .int .u64 0]) := by kernel_rfl
@[go_sem] theorem td14 : td Tryz.prog 14 = some ⟨2, 24, true, (some [.string ⟨#[]⟩, .int .u64 0]), .struct [(0, 9), (1, 12)]⟩ := by kernel_rfl
@[go_sem] theorem zr15 : zeroRaw Tryz.prog 15 = some (.pointer none) := by kernel_rfl
@[go_sem] theorem td15 : td Tryz.prog 15 = some ⟨1, 8, false, (some [.pointer none]), .other⟩ := by kernel_rfl
@[go_sem] theorem zr16 : zeroRaw Tryz.prog 16 = some (.pointer none) := by kernel_rfl
@[go_sem] theorem td16 : td Tryz.prog 16 = some ⟨1, 8, false, (some [.pointer none]), .other⟩ := by kernel_rfl
@[go_sem] theorem zr17 : zeroRaw Tryz.prog 17 = some (.pointer none) := by kernel_rfl
@[go_sem] theorem td17 : td Tryz.prog 17 = some ⟨1, 8, false, (some [.pointer none]), .other⟩ := by kernel_rfl
@[go_sem] theorem zr18 : zeroRaw Tryz.prog 18 = some (.agg #[.pointer none]) := by kernel_rfl
@[go_sem] theorem td18 : td Tryz.prog 18 = some ⟨1, 8, true, (some [.pointer none]), .struct [(0, 17)]⟩ := by kernel_rfl
@[go_sem] theorem zr19 : zeroRaw Tryz.prog 19 = some (.agg #[.pointer none]) := by kernel_rfl
@[go_sem] theorem td19 : td Tryz.prog 19 = some ⟨1, 8, true, (some [.pointer none]), .struct [(0, 17)]⟩ := by kernel_rfl
@[go_sem] theorem zr21 : zeroRaw Tryz.prog 21 = some (.int .i32 0) := by kernel_rfl
@[go_sem] theorem td21 : td Tryz.prog 21 = some ⟨1, 4, false, (some [.int .i32 0]), .int .i32⟩ := by kernel_rfl
@[go_sem] theorem zr22 : zeroRaw Tryz.prog 22 = some (.slice none 0 0) := by kernel_rfl
@[go_sem] theorem td22 : td Tryz.prog 22 = some ⟨1, 24, false, (some [.slice none 0 0]), .slice 3⟩ := by kernel_rfl
@[go_sem] theorem zr23 : zeroRaw Tryz.prog 23 = some (.nilFunc) := by kernel_rfl
@[go_sem] theorem td23 : td Tryz.prog 23 = some ⟨1, 8, false, (some [.nilFunc]), .other⟩ := by kernel_rfl
@[go_sem] theorem zr24 : zeroRaw Tryz.prog 24 = some (.nilFunc) := by kernel_rfl
@[go_sem] theorem td24 : td Tryz.prog 24 = some ⟨1, 8, false, (some [.nilFunc]), .other⟩ := by kernel_rfl
@[go_sem] theorem zr25 : zeroRaw Tryz.prog 25 = some (.pointer none) := by kernel_rfl
@[go_sem] theorem td25 : td Tryz.prog 25 = some ⟨1, 8, false, (some [.pointer none]), .other⟩ := by kernel_rfl
@[go_sem] theorem zr26 : zeroRaw Tryz.prog 26 = some (.nilFunc) := by kernel_rfl
@[go_sem] theorem td26 : td Tryz.prog 26 = some ⟨1, 8, false, (some [.nilFunc]), .other⟩ := by kernel_rfl
@[go_sem] theorem zr27 : zeroRaw Tryz.prog 27 = some (.slice none 0 0) := by kernel_rfl
@[go_sem] theorem td27 : td Tryz.prog 27 = some ⟨1, 24, false, (some [.slice none 0 0]), .slice 43⟩ := by kernel_rfl
@[go_sem] theorem zr28 : zeroRaw Tryz.prog 28 = some (.slice none 0 0) := by kernel_rfl
@[go_sem] theorem td28 : td Tryz.prog 28 = some ⟨1, 24, false, (some [.slice none 0 0]), .slice 41⟩ := by kernel_rfl
@[go_sem] theorem zr29 : zeroRaw Tryz.prog 29 = some (.agg #[.slice none 0 0, .slice none 0 0]) := by kernel_rfl
@[go_sem] theorem td29 : td Tryz.prog 29 = some ⟨2, 48, true, (some [.slice none 0 0, .slice none 0 0]), .struct [(0, 27), (1, 28)]⟩ := by kernel_rfl
@[go_sem] theorem zr30 : zeroRaw Tryz.prog 30 = some (.agg #[.slice none 0 0, .slice none 0 0]) := by kernel_rfl
@[go_sem] theorem td30 : td Tryz.prog 30 = some ⟨2, 48, true, (some [.slice none 0 0, .slice none 0 0]), .struct [(0, 27), (1, 28)]⟩ := by kernel_rfl
@[go_sem] theorem zr32 : zeroRaw Tryz.prog 32 = some (.nilFunc) := by kernel_rfl
@[go_sem] theorem td32 : td Tryz.prog 32 = some ⟨1, 8, false, (some [.nilFunc]), .other⟩ := by kernel_rfl
@[go_sem] theorem zr33 : zeroRaw Tryz.prog 33 = some (.slice none 0 0) := by kernel_rfl
@[go_sem] theorem td33 : td Tryz.prog 33 = some ⟨1, 24, false, (some [.slice none 0 0]), .slice 39⟩ := by kernel_rfl
@[go_sem] theorem zr34 : zeroRaw Tryz.prog 34 = some (.nilFunc) := by kernel_rfl
@[go_sem] theorem td34 : td Tryz.prog 34 = some ⟨1, 8, false, (some [.nilFunc]), .other⟩ := by kernel_rfl
@[go_sem] theorem zr35 : zeroRaw Tryz.prog 35 = some (.int .i64 0) := by kernel_rfl
@[go_sem] theorem td35 : td Tryz.prog 35 = some ⟨1, 8, false, (some [.int .i64 0]), .int .i64⟩ := by kernel_rfl
@[go_sem] theorem zr37 : zeroRaw Tryz.prog 37 = some (.nilFunc) := by kernel_rfl
@[go_sem] theorem td37 : td Tryz.prog 37 = some ⟨1, 8, false, (some [.nilFunc]), .other⟩ := by kernel_rfl
@[go_sem] theorem zr38 : zeroRaw Tryz.prog 38 = some (.agg #[.int .i64 0, .int .i64 0, .int .i64 0]) := by kernel_rfl
@[go_sem] theorem td38 : td Tryz.prog 38 = some ⟨3, 24, true, (some [.int .i64 0, .int .i64 0, .int .i64 0]), .struct [(0, 3), (1, 3), (2, 3)]⟩ := by kernel_rfl
@[go_sem] theorem zr39 : zeroRaw Tryz.prog 39 = some (.agg #[.int .i64 0, .int .i64 0, .int .i64 0]) := by kernel_rfl
@[go_sem] theorem td39 : td Tryz.prog 39 = some ⟨3, 24, true, (some [.int .i64 0, .int .i64 0, .int .i64 0]), .struct [(0, 3), (1, 3), (2, 3)]⟩ := by kernel_rfl
@[go_sem] theorem zr40 : zeroRaw Tryz.prog 40 = some (.agg #[.string ⟨#[]⟩, .int .i64 0, .int .i64 0, .int .i64 0, .int .i64 0]) := by kernel_rfl
@[go_sem] theorem td40 : td Tryz.prog 40 = some ⟨5, 48, true, (some [.string ⟨#[]⟩, .int .i64 0, .int .i64 0, .int .i64 0, .int .i64 0]), .struct [(0, 9), (1, 3), (2, 3), (3, 3), (4, 3)]⟩ := by kernel_rfl
@[go_sem] theorem zr41 : zeroRaw Tryz.prog 41 = some (.agg #[.string ⟨#[]⟩, .int .i64 0, .int .i64 0, .int .i64 0, .int .i64 0]) := by kernel_rfl
@[go_sem] theorem td41 : td Tryz.prog 41 = some ⟨5, 48, true, (some [.string ⟨#[]⟩, .int .i64 0, .int .i64 0, .int .i64 0, .int .i64 0]), .struct [(0, 9), (1, 3), (2, 3), (3, 3), (4, 3)]⟩ := by kernel_rfl
@[go_sem] theorem zr42 : zeroRaw Tryz.prog 42 = some (.agg #[.string ⟨#[]⟩, .int .i64 0, .int .i64 0]) := by kernel_rfl
@[go_sem] theorem td42 : td Tryz.prog 42 = some ⟨3, 32, true, (some [.string ⟨#[]⟩, .int .i64 0, .int .i64 0]), .struct [(0, 9), (1, 3), (2, 3)]⟩ := by kernel_rfl
@[go_sem] theorem zr43 : zeroRaw Tryz.prog 43 = some (.agg #[.string ⟨#[]⟩, .int .i64 0, .int .i64 0]) := by kernel_rfl
@[go_sem] theorem td43 : td Tryz.prog 43 = some ⟨3, 32, true, (some [.string ⟨#[]⟩, .int .i64 0, .int .i64 0]), .struct [(0, 9), (1, 3), (2, 3)]⟩ := by kernel_rfl
@[go_sem] theorem zr44 : zeroRaw Tryz.prog 44 = some (.agg #[.string ⟨#[]⟩, .int .i64 0, .int .i64 0, .int .i64 0, .int .i64 0]) := by kernel_rfl
@[go_sem] theorem td44 : td Tryz.prog 44 = some ⟨5, 48, true, (some [.string ⟨#[]⟩, .int .i64 0, .int .i64 0, .int .i64 0, .int .i64 0]), .struct [(0, 9), (1, 3), (2, 3), (3, 3), (4, 3)]⟩ := by kernel_rfl
@[go_sem] theorem zr45 : zeroRaw Tryz.prog 45 = some (.agg #[.string ⟨#[]⟩, .int .i64 0, .int .i64 0, .int .i64 0, .int .i64 0]) := by kernel_rfl
@[go_sem] theorem td45 : td Tryz.prog 45 = some ⟨5, 48, true, (some [.string ⟨#[]⟩, .int .i64 0, .int .i64 0, .int .i64 0, .int .i64 0]), .struct [(0, 9), (1, 3), (2, 3), (3, 3), (4, 3)]⟩ := by kernel_rfl
@[go_sem] theorem zr46 : zeroRaw Tryz.prog 46 = some (.slice none 0 0) := by kernel_rfl
@[go_sem] theorem td46 : td Tryz.prog 46 = some ⟨1, 24, false, (some [.slice none 0 0]), .slice 45⟩ := by kernel_rfl
@[go_sem] theorem zr47 : zeroRaw Tryz.prog 47 = some (.agg #[.slice none 0 0]) := by kernel_rfl
@[go_sem] theorem td47 : td Tryz.prog 47 = some ⟨1, 24, true, (some [.slice none 0 0]), .struct [(0, 46)]⟩ := by kernel_rfl
@[go_sem] theorem zr48 : zeroRaw Tryz.prog 48 = some (.agg #[.slice none 0 0]) := by kernel_rfl
@[go_sem] theorem td48 : td Tryz.prog 48 = some ⟨1, 24, true, (some [.slice none 0 0]), .struct [(0, 46)]⟩ := by kernel_rfl
@[go_sem] theorem zr49 : zeroRaw Tryz.prog 49 = some (.agg #[.int .i64 0, .int .i64 0, .int .i64 0]) := by kernel_rfl
@[go_sem] theorem td49 : td Tryz.prog 49 = some ⟨3, 24, true, (some [.int .i64 0, .int .i64 0, .int .i64 0]), .struct [(0, 3), (1, 3), (2, 3)]⟩ := by kernel_rfl
@[go_sem] theorem zr50 : zeroRaw Tryz.prog 50 = some (.agg #[.int .i64 0, .int .i64 0, .int .i64 0]) := by kernel_rfl
@[go_sem] theorem td50 : td Tryz.prog 50 = some ⟨3, 24, true, (some [.int .i64 0, .int .i64 0, .int .i64 0]), .struct [(0, 3), (1, 3), (2, 3)]⟩ := by kernel_rfl
@[go_sem] theorem zr51 : zeroRaw Tryz.prog 51 = some (.slice none 0 0) := by kernel_rfl
@[go_sem] theorem td51 : td Tryz.prog 51 = some ⟨1, 24, false, (some [.slice none 0 0]), .slice 50⟩ := by kernel_rfl
@[go_sem] theorem zr52 : zeroRaw Tryz.prog 52 = some (.slice none 0 0) := by kernel_rfl
@[go_sem] theorem td52 : td Tryz.prog 52 = some ⟨1, 24, false, (some [.slice none 0 0]), .slice 130⟩ := by kernel_rfl
@[go_sem] theorem zr53 : zeroRaw Tryz.prog 53 = some (.slice none 0 0) := by kernel_rfl
@[go_sem] theorem td53 : td Tryz.prog 53 = some ⟨1, 24, false, (some [.slice none 0 0]), .slice 146⟩ := by kernel_rfl
@[go_sem] theorem zr54 : zeroRaw Tryz.prog 54 = some (.slice none 0 0) := by kernel_rfl
@[go_sem] theorem td54 : td Tryz.prog 54 = some ⟨1, 24, false, (some [.slice none 0 0]), .slice 62⟩ := by kernel_rfl
@[go_sem] theorem zr55 : zeroRaw Tryz.prog 55 = some (.slice none 0 0) := by kernel_rfl
@[go_sem] theorem td55 : td Tryz.prog 55 = some ⟨1, 24, false, (some [.slice none 0 0]), .slice 120⟩ := by kernel_rfl
@[go_sem] theorem zr56 : zeroRaw Tryz.prog 56 = some (.slice none 0 0) := by kernel_rfl
@[go_sem] theorem td56 : td Tryz.prog 56 = some ⟨1, 24, false, (some [.slice none 0 0]), .slice 134⟩ := by kernel_rfl
@[go_sem] theorem zr57 : zeroRaw Tryz.prog 57 = some (.agg #[.int .i64 0, .int .i64 0, .int .i64 0, .slice none 0 0, .slice none 0 0, .slice none 0 0, .slice none 0 0, .slice none 0 0, .slice none 0 0, .slice none 0 0, .slice none 0 0, .slice none 0 0]) := by kernel_rfl
@[go_sem] theorem td57 : td Tryz.prog 57 = some ⟨12, 240, true, (some [.int .i64 0, .int .i64 0, .int .i64 0, .slice none 0 0, .slice none 0 0, .slice none 0 0, .slice none 0 0, .slice none 0 0, .slice none 0 0, .slice none 0 0, .slice none 0 0, .slice none 0 0]), .struct [(0, 3), (1, 3), (2, 3), (3, 51), (4, 33), (5, 22), (6, 52), (7, 52), (8, 53), (9, 54), (10, 55), (11, 56)]⟩ := by kernel_rfl
@[go_sem] theorem zr58 : zeroRaw Tryz.prog 58 = some (.agg #[.int .i64 0, .int .i64 0, .int .i64 0, .slice none 0 0, .slice none 0 0, .slice none 0 0, .slice none 0 0, .slice none 0 0, .slice none 0 0, .slice none 0 0, .slice none 0 0, .slice none 0 0]) := by kernel_rfl
@[go_sem] theorem td58 : td Tryz.prog 58 = some ⟨12, 240, true, (some [.int .i64 0, .int .i64 0, .int .i64 0, .slice none 0 0, .slice none 0 0, .slice none 0 0, .slice none 0 0, .slice none 0 0, .slice none 0 0, .slice none 0 0, .slice none 0 0, .slice none 0 0]), .struct [(0, 3), (1, 3), (2, 3), (3, 51), (4, 33), (5, 22), (6, 52), (7, 52), (8, 53), (9, 54), (10, 55), (11, 56)]⟩ := by kernel_rfl
@[go_sem] theorem zr59 : zeroRaw Tryz.prog 59 = some (.agg #[.int .i64 0, .int .i64 0]) := by kernel_rfl
@[go_sem] theorem td59 : td Tryz.prog 59 = some ⟨2, 16, true, (some [.int .i64 0, .int .i64 0]), .struct [(0, 3), (1, 3)]⟩ := by kernel_rfl
@[go_sem] theorem zr60 : zeroRaw Tryz.prog 60 = some (.agg #[.int .i64 0, .int .i64 0]) := by kernel_rfl
@[go_sem] theorem td60 : td Tryz.prog 60 = some ⟨2, 16, true, (some [.int .i64 0, .int .i64 0]), .struct [(0, 3), (1, 3)]⟩ := by kernel_rfl
@[go_sem] theorem zr61 : zeroRaw Tryz.prog 61 = some (.agg #[.int .i64 0, .int .i64 0, .int .i64 0, .int .i64 0, .slice none 0 0, .int .i64 0, .slice none 0 0, .string ⟨#[]⟩, .string ⟨#[]⟩, .int .i64 0, .int .i64 0, .slice none 0 0]) := by kernel_rfl
@[go_sem] theorem td61 : td Tryz.prog 61 = some ⟨12, 160, true, (some [.int .i64 0, .int .i64 0, .int .i64 0, .int .i64 0, .slice none 0 0, .int .i64 0, .slice none 0 0, .string ⟨#[]⟩, .string ⟨#[]⟩, .int .i64 0, .int .i64 0, .slice none 0 0]), .struct [(0, 3), (1, 3), (2, 3), (3, 3), (4, 22), (5, 3), (6, 33), (7, 9), (8, 9), (9, 60), (11, 22)]⟩ := by kernel_rfl
@[go_sem] theorem zr62 : zeroRaw Tryz.prog 62 = some (.agg #[.int .i64 0, .int .i64 0, .int .i64 0, .int .i64 0, .slice none 0 0, .int .i64 0, .slice none 0 0, .string ⟨#[]⟩, .string ⟨#[]⟩, .int .i64 0, .int .i64 0, .slice none 0 0]) := by kernel_rfl
@[go_sem] theorem td62 : td Tryz.prog 62 = some ⟨12, 160, true, (some [.int .i64 0, .int .i64 0, .int .i64 0, .int .i64 0, .slice none 0 0, .int .i64 0, .slice none 0 0, .string ⟨#[]⟩, .string ⟨#[]⟩, .int .i64 0, .int .i64 0, .slice none 0 0]), .struct [(0, 3), (1, 3), (2, 3), (3, 3), (4, 22), (5, 3), (6, 33), (7, 9), (8, 9), (9, 60), (11, 22)]⟩ := by kernel_rfl
@[go_sem] theorem zr64 : zeroRaw Tryz.prog 64 = some (.nilFunc) := by kernel_rfl
@[go_sem] theorem td64 : td Tryz.prog 64 = some ⟨1, 8, false, (some [.nilFunc]), .other⟩ := by kernel_rfl
@[go_sem] theorem zr65 : zeroRaw Tryz.prog 65 = some (.nilFunc) := by kernel_rfl
@[go_sem] theorem td65 : td Tryz.prog 65 = some ⟨1, 8, false, (some [.nilFunc]), .other⟩ := by kernel_rfl
@[go_sem] theorem zr66 : zeroRaw Tryz.prog 66 = some (.int .u64 0) := by kernel_rfl
@[go_sem] theorem td66 : td Tryz.prog 66 = some ⟨1, 8, false, (some [.int .u64 0]), .int .u64⟩ := by kernel_rfl
@[go_sem] theorem zr67 : zeroRaw Tryz.prog 67 = some (.agg #[.slice none 0 0, .int .i64 0, .int .u64 0]) := by kernel_rfl
@[go_sem] theorem td67 : td Tryz.prog 67 = some ⟨3, 40, true, (some [.slice none 0 0, .int .i64 0, .int .u64 0]), .struct [(0, 22), (1, 3), (2, 66)]⟩ := by kernel_rfl
@[go_sem] theorem zr68 : zeroRaw Tryz.prog 68 = some (.agg #[.slice none 0 0, .int .i64 0, .int .u64 0]) := by kernel_rfl
@[go_sem] theorem td68 : td Tryz.prog 68 = some ⟨3, 40, true, (some [.slice none 0 0, .int .i64 0, .int .u64 0]), .struct [(0, 22), (1, 3), (2, 66)]⟩ := by kernel_rfl
@[go_sem] theorem zr69 : zeroRaw Tryz.prog 69 = some (.slice none 0 0) := by kernel_rfl
@[go_sem] theorem td69 : td Tryz.prog 69 = some ⟨1, 24, false, (some [.slice none 0 0]), .slice 5⟩ := by kernel_rfl
@[go_sem] theorem zr70 : zeroRaw Tryz.prog 70 = some (.nilFunc) := by kernel_rfl
@[go_sem] theorem td70 : td Tryz.prog 70 = some ⟨1, 8, false, (some [.nilFunc]), .other⟩ := by kernel_rfl
@[go_sem] theorem zr71 : zeroRaw Tryz.prog 71 = some (.nilFunc) := by kernel_rfl
@[go_sem] theorem td71 : td Tryz.prog 71 = some ⟨1, 8, false, (some [.nilFunc]), .other⟩ := by kernel_rfl
@[go_sem] theorem zr72 : zeroRaw Tryz.prog 72 = some (.nilFunc) := by kernel_rfl
@[go_sem] theorem td72 : td Tryz.prog 72 = some ⟨1, 8, false, (some [.nilFunc]), .other⟩ := by kernel_rfl
@[go_sem] theorem zr73 : zeroRaw Tryz.prog 73 = some (.nilFunc) := by kernel_rfl
@[go_sem] theorem td73 : td Tryz.prog 73 = some ⟨1, 8, false, (some [.nilFunc]), .other⟩ := by kernel_rfl
@[go_sem] theorem zr74 : zeroRaw Tryz.prog 74 = some (.nilFunc) := by kernel_rfl
@[go_sem] theorem td74 : td Tryz.prog 74 = some ⟨1, 8, false, (some [.nilFunc]), .other⟩ := by kernel_rfl
@[go_sem] theorem zr75 : zeroRaw Tryz.prog 75 = some (.nilFunc) := by kernel_rfl
@[go_sem] theorem td75 : td Tryz.prog 75 = some ⟨1, 8, false, (some [.nilFunc]), .other⟩ := by kernel_rfl
@[go_sem] theorem zr76 : zeroRaw Tryz.prog 76 = some (.nilFunc) := by kernel_rfl
@[go_sem] theorem td76 : td Tryz.prog 76 = some ⟨1, 8, false, (some [.nilFunc]), .other⟩ := by kernel_rfl
@[go_sem] theorem zr77 : zeroRaw Tryz.prog 77 = some (.nilFunc) := by kernel_rfl
@[go_sem] theorem td77 : td Tryz.prog 77 = some ⟨1, 8, false, (some [.nilFunc]), .other⟩ := by kernel_rfl
@[go_sem] theorem zr78 : zeroRaw Tryz.prog 78 = some (.agg #[.int .i64 0, .nilFunc]) := by kernel_rfl
@[go_sem] theorem td78 : td Tryz.prog 78 = some ⟨2, 16, true, (some [.int .i64 0, .nilFunc]), .struct [(0, 3), (1, 23)]⟩ := by kernel_rfl
@[go_sem] theorem zr79 : zeroRaw Tryz.prog 79 = some (.agg #[.int .i64 0, .nilFunc]) := by kernel_rfl
@[go_sem] theorem td79 : td Tryz.prog 79 = some ⟨2, 16, true, (some [.int .i64 0, .nilFunc]), .struct [(0, 3), (1, 23)]⟩ := by kernel_rfl
@[go_sem] theorem zr80 : zeroRaw Tryz.prog 80 = some (.nilFunc) := by kernel_rfl
@[go_sem] theorem td80 : td Tryz.prog 80 = some ⟨1, 8, false, (some [.nilFunc]), .other⟩ := by kernel_rfl
@[go_sem] theorem zr81 : zeroRaw Tryz.prog 81 = some (.nilFunc) := by kernel_rfl
@[go_sem] theorem td81 : td Tryz.prog 81 = some ⟨1, 8, false, (some [.nilFunc]), .other⟩ := by kernel_rfl
@[go_sem] theorem zr82 : zeroRaw Tryz.prog 82 = some (.nilFunc) := by kernel_rfl
@[go_sem] theorem td82 : td Tryz.prog 82 = some ⟨1, 8, false, (some [.nilFunc]), .other⟩ := by kernel_rfl
@[go_sem] theorem zr83 : zeroRaw Tryz.prog 83 = some (.nilFunc) := by kernel_rfl
@[go_sem] theorem td83 : td Tryz.prog 83 = some ⟨1, 8, false, (some [.nilFunc]), .other⟩ := by kernel_rfl
@[go_sem] theorem zr85 : zeroRaw Tryz.prog 85 = some (.nilFunc) := by kernel_rfl
@[go_sem] theorem td85 : td Tryz.prog 85 = some ⟨1, 8, false, (some [.nilFunc]), .other⟩ := by kernel_rfl
@[go_sem] theorem zr86 : zeroRaw Tryz.prog 86 = some (.nilFunc) := by kernel_rfl
@[go_sem] theorem td86 : td Tryz.prog 86 = some ⟨1, 8, false, (some [.nilFunc]), .other⟩ := by kernel_rfl
@[go_sem] theorem zr87 : zeroRaw Tryz.prog 87 = some (.nilFunc) := by kernel_rfl
@[go_sem] theorem td87 : td Tryz.prog 87 = some ⟨1, 8, false, (some [.nilFunc]), .other⟩ := by kernel_rfl
@[go_sem] theorem zr88 : zeroRaw Tryz.prog 88 = some (.slice none 0 0) := by kernel_rfl
@[go_sem] theorem td88 : td Tryz.prog 88 = some ⟨1, 24, false, (some [.slice none 0 0]), .slice 79⟩ := by kernel_rfl
@[go_sem] theorem zr89 : zeroRaw Tryz.prog 89 = some (.nilFunc) := by kernel_rfl
@[go_sem] theorem td89 : td Tryz.prog 89 = some ⟨1, 8, false, (some [.nilFunc]), .other⟩ := by kernel_rfl
@[go_sem] theorem zr90 : zeroRaw Tryz.prog 90 = some (.nilFunc) := by kernel_rfl
@[go_sem] theorem td90 : td Tryz.prog 90 = some ⟨1, 8, false, (some [.nilFunc]), .other⟩ := by kernel_rfl
@[go_sem] theorem zr91 : zeroRaw Tryz.prog 91 = some (.nilFunc) := by kernel_rfl
@[go_sem] theorem td91 : td Tryz.prog 91 = some ⟨1, 8, false, (some [.nilFunc]), .other⟩ := by kernel_rfl
@[go_sem] theorem zr92 : zeroRaw Tryz.prog 92 = some (.nilFunc) := by kernel_rfl
@[go_sem] theorem td92 : td Tryz.prog 92 = some ⟨1, 8, false, (some [.nilFunc]), .other⟩ := by kernel_rfl
@[go_sem] theorem zr93 : zeroRaw Tryz.prog 93 = some (.nilFunc) := by kernel_rfl
@[go_sem] theorem td93 : td Tryz.prog 93 = some ⟨1, 8, false, (some [.nilFunc]), .other⟩ := by kernel_rfl
@[go_sem] theorem zr94 : zeroRaw Tryz.prog 94 = some (.nilFunc) := by kernel_rfl
@[go_sem] theorem td94 : td Tryz.prog 94 = some ⟨1, 8, false, (some [.nilFunc]), .other⟩ := by kernel_rfl
@[go_sem] theorem zr95 : zeroRaw Tryz.prog 95 = some (.int .u64 0) := by kernel_rfl
@[go_sem] theorem td95 : td Tryz.prog 95 = some ⟨1, 8, false, (some [.int .u64 0]), .int .u64⟩ := by kernel_rfl
@[go_sem] theorem zr96 : zeroRaw Tryz.prog 96 = some (.nilFunc) := by kernel_rfl
@[go_sem] theorem td96 : td Tryz.prog 96 = some ⟨1, 8, false, (some [.nilFunc]), .other⟩ := by kernel_rfl
@[go_sem] theorem zr98 : zeroRaw Tryz.prog 98 = some (.nilFunc) := by kernel_rfl
@[go_sem] theorem td98 : td Tryz.prog 98 = some ⟨1, 8, false, (some [.nilFunc]), .other⟩ := by kernel_rfl
@[go_sem] theorem zr99 : zeroRaw Tryz.prog 99 = some (.nilFunc) := by kernel_rfl
@[go_sem] theorem td99 : td Tryz.prog 99 = some ⟨1, 8, false, (some [.nilFunc]), .other⟩ := by kernel_rfl
@[go_sem] theorem zr100 : zeroRaw Tryz.prog 100 = some (.nilFunc) := by kernel_rfl
@[go_sem] theorem td100 : td Tryz.prog 100 = some ⟨1, 8, false, (some [.nilFunc]), .other⟩ := by kernel_rfl
@[go_sem] theorem zr101 : zeroRaw Tryz.prog 101 = some (.nilFunc) := by kernel_rfl
@[go_sem] theorem td101 : td Tryz.prog 101 = some ⟨1, 8, false, (some [.nilFunc]), .other⟩ := by kernel_rfl
@[go_sem] theorem zr102 : zeroRaw Tryz.prog 102 = some (.nilFunc) := by kernel_rfl
@[go_sem] theorem td102 : td Tryz.prog 102 = some ⟨1, 8, false, (some [.nilFunc]), .other⟩ := by kernel_rfl
@[go_sem] theorem zr103 : zeroRaw Tryz.prog 103 = some (.nilFunc) := by kernel_rfl
@[go_sem] theorem td103 : td Tryz.prog 103 = some ⟨1, 8, false, (some [.nilFunc]), .other⟩ := by kernel_rfl
@[go_sem] theorem zr104 : zeroRaw Tryz.prog 104 = some (.nilFunc) := by kernel_rfl
@[go_sem] theorem td104 : td Tryz.prog 104 = some ⟨1, 8, false, (some [.nilFunc]), .other⟩ := by kernel_rfl
@[go_sem] theorem zr105 : zeroRaw Tryz.prog 105 = some (.nilFunc) := by kernel_rfl
@[go_sem] theorem td105 : td Tryz.prog 105 = some ⟨1, 8, false, (some [.nilFunc]), .other⟩ := by kernel_rfl
@[go_sem] theorem zr106 : zeroRaw Tryz.prog 106 = some (.nilFunc) := by kernel_rfl
@[go_sem] theorem td106 : td Tryz.prog 106 = some ⟨1, 8, false, (some [.nilFunc]), .other⟩ := by kernel_rfl
@[go_sem] theorem zr107 : zeroRaw Tryz.prog 107 = some (.nilFunc) := by kernel_rfl
@[go_sem] theorem td107 : td Tryz.prog 107 = some ⟨1, 8, false, (some [.nilFunc]), .other⟩ := by kernel_rfl
@[go_sem] theorem zr108 : zeroRaw Tryz.prog 108 = some (.nilFunc) := by kernel_rfl
@[go_sem] theorem td108 : td Tryz.prog 108 = some ⟨1, 8, false, (some [.nilFunc]), .other⟩ := by kernel_rfl
@[go_sem] theorem zr109 : zeroRaw Tryz.prog 109 = some (.nilFunc) := by kernel_rfl
@[go_sem] theorem td109 : td Tryz.prog 109 = some ⟨1, 8, false, (some [.nilFunc]), .other⟩ := by kernel_rfl
@[go_sem] theorem zr110 : zeroRaw Tryz.prog 110 = some (.agg #[.int .i64 0, .int .i64 0, .string ⟨#[]⟩]) := by kernel_rfl
@[go_sem] theorem td110 : td Tryz.prog 110 = some ⟨3, 32, true, (some [.int .i64 0, .int .i64 0, .string ⟨#[]⟩]), .struct [(0, 3), (1, 3), (2, 9)]⟩ := by kernel_rfl
@[go_sem] theorem zr111 : zeroRaw Tryz.prog 111 = some (.agg #[.int .i64 0, .int .i64 0, .string ⟨#[]⟩]) := by kernel_rfl
@[go_sem] theorem td111 : td Tryz.prog 111 = some ⟨3, 32, true, (some [.int .i64 0, .int .i64 0, .string ⟨#[]⟩]), .struct [(0, 3), (1, 3), (2, 9)]⟩ := by kernel_rfl
@[go_sem] theorem zr113 : zeroRaw Tryz.prog 113 = some (.nilFunc) := by kernel_rfl
@[go_sem] theorem td113 : td Tryz.prog 113 = some ⟨1, 8, false, (some [.nilFunc]), .other⟩ := by kernel_rfl
@[go_sem] theorem zr114 : zeroRaw Tryz.prog 114 = some (.nilFunc) := by kernel_rfl
@[go_sem] theorem td114 : td Tryz.prog 114 = some ⟨1, 8, false, (some [.nilFunc]), .other⟩ := by kernel_rfl
@[go_sem] theorem zr115 : zeroRaw Tryz.prog 115 = some (.nilFunc) := by kernel_rfl
@[go_sem] theorem td115 : td Tryz.prog 115 = some ⟨1, 8, false, (some [.nilFunc]), .other⟩ := by kernel_rfl
@[go_sem] theorem zr116 : zeroRaw Tryz.prog 116 = some (.nilFunc) := by kernel_rfl
@[go_sem] theorem td116 : td Tryz.prog 116 = some ⟨1, 8, false, (some [.nilFunc]), .other⟩ := by kernel_rfl
@[go_sem] theorem zr117 : zeroRaw Tryz.prog 117 = some (.nilFunc) := by kernel_rfl
@[go_sem] theorem td117 : td Tryz.prog 117 = some ⟨1, 8, false, (some [.nilFunc]), .other⟩ := by kernel_rfl
@[go_sem] theorem zr118 : zeroRaw Tryz.prog 118 = some (.nilFunc) := by kernel_rfl
@[go_sem] theorem td118 : td Tryz.prog 118 = some ⟨1, 8, false, (some [.nilFunc]), .other⟩ := by kernel_rfl
@[go_sem] theorem zr119 : zeroRaw Tryz.prog 119 = some (.agg #[.int .i64 0, .int .i64 0, .int .i64 0, .int .i64 0, .slice none 0 0]) := by kernel_rfl
@[go_sem] theorem td119 : td Tryz.prog 119 = some ⟨5, 56, true, (some [.int .i64 0, .int .i64 0, .int .i64 0, .int .i64 0, .slice none 0 0]), .struct [(0, 3), (1, 3), (2, 3), (3, 3), (4, 33)]⟩ := by kernel_rfl
@[go_sem] theorem zr120 : zeroRaw Tryz.prog 120 = some (.agg #[.int .i64 0, .int .i64 0, .int .i64 0, .int .i64 0, .slice none 0 0]) := by kernel_rfl
@[go_sem] theorem td120 : td Tryz.prog 120 = some ⟨5, 56, true, (some [.int .i64 0, .int .i64 0, .int .i64 0, .int .i64 0, .slice none 0 0]), .struct [(0, 3), (1, 3), (2, 3), (3, 3), (4, 33)]⟩ := by kernel_rfl
@[go_sem] theorem zr121 : zeroRaw Tryz.prog 121 = some (.nilFunc) := by kernel_rfl
@[go_sem] theorem td121 : td Tryz.prog 121 = some ⟨1, 8, false, (some [.nilFunc]), .other⟩ := by kernel_rfl
@[go_sem] theorem zr122 : zeroRaw Tryz.prog 122 = some (.nilFunc) := by kernel_rfl
@[go_sem] theorem td122 : td Tryz.prog 122 = some ⟨1, 8, false, (some [.nilFunc]), .other⟩ := by kernel_rfl
@[go_sem] theorem zr123 : zeroRaw Tryz.prog 123 = some (.nilFunc) := by kernel_rfl
@[go_sem] theorem td123 : td Tryz.prog 123 = some ⟨1, 8, false, (some [.nilFunc]), .other⟩ := by kernel_rfl
@[go_sem] theorem zr124 : zeroRaw Tryz.prog 124 = some (.map none) := by kernel_rfl
@[go_sem] theorem td124 : td Tryz.prog 124 = some ⟨1, 8, false, (some [.map none]), .map 9 4⟩ := by kernel_rfl
@[go_sem] theorem zr125 : zeroRaw Tryz.prog 125 = some (.nilFunc) := by kernel_rfl
@[go_sem] theorem td125 : td Tryz.prog 125 = some ⟨1, 8, false, (some [.nilFunc]), .other⟩ := by kernel_rfl
@[go_sem] theorem zr126 : zeroRaw Tryz.prog 126 = some (.nilFunc) := by kernel_rfl
@[go_sem] theorem td126 : td Tryz.prog 126 = some ⟨1, 8, false, (some [.nilFunc]), .other⟩ := by kernel_rfl
@[go_sem] theorem zr127 : zeroRaw Tryz.prog 127 = some (.nilFunc) := by kernel_rfl
@[go_sem] theorem td127 : td Tryz.prog 127 = some ⟨1, 8, false, (some [.nilFunc]), .other⟩ := by kernel_rfl
@[go_sem] theorem zr128 : zeroRaw Tryz.prog 128 = some (.nilFunc) := by kernel_rfl
@[go_sem] theorem td128 : td Tryz.prog 128 = some ⟨1, 8, false, (some [.nilFunc]), .other⟩ := by kernel_rfl
@[go_sem] theorem zr129 : zeroRaw Tryz.prog 129 = some (.agg #[.int .i64 0, .int .i64 0, .int .i64 0, .string ⟨#[]⟩]) := by kernel_rfl
@[go_sem] theorem td129 : td Tryz.prog 129 = some ⟨4, 40, true, (some [.int .i64 0, .int .i64 0, .int .i64 0, .string ⟨#[]⟩]), .struct [(0, 3), (1, 111)]⟩ := by kernel_rfl
@[go_sem] theorem zr130 : zeroRaw Tryz.prog 130 = some (.agg #[.int .i64 0, .int .i64 0, .int .i64 0, .string ⟨#[]⟩]) := by kernel_rfl
@[go_sem] theorem td130 : td Tryz.prog 130 = some ⟨4, 40, true, (some [.int .i64 0, .int .i64 0, .int .i64 0, .string ⟨#[]⟩]), .struct [(0, 3), (1, 111)]⟩ := by kernel_rfl
@[go_sem] theorem zr131 : zeroRaw Tryz.prog 131 = some (.nilFunc) := by kernel_rfl
@[go_sem] theorem td131 : td Tryz.prog 131 = some ⟨1, 8, false, (some [.nilFunc]), .other⟩ := by kernel_rfl
@[go_sem] theorem zr132 : zeroRaw Tryz.prog 132 = some (.nilFunc) := by kernel_rfl
@[go_sem] theorem td132 : td Tryz.prog 132 = some ⟨1, 8, false, (some [.nilFunc]), .other⟩ := by kernel_rfl
@[go_sem] theorem zr133 : zeroRaw Tryz.prog 133 = some (.agg #[.int .i64 0, .int .i64 0, .int .i64 0, .string ⟨#[]⟩, .int .i64 0, .int .i64 0, .int .i64 0, .int .i64 0]) := by kernel_rfl
@[go_sem] theorem td133 : td Tryz.prog 133 = some ⟨8, 72, true, (some [.int .i64 0, .int .i64 0, .int .i64 0, .string ⟨#[]⟩, .int .i64 0, .int .i64 0, .int .i64 0, .int .i64 0]), .struct [(0, 3), (1, 3), (2, 3), (3, 9), (4, 3), (5, 3), (6, 3), (7, 3)]⟩ := by kernel_rfl
@[go_sem] theorem zr134 : zeroRaw Tryz.prog 134 = some (.agg #[.int .i64 0, .int .i64 0, .int .i64 0, .string ⟨#[]⟩, .int .i64 0, .int .i64 0, .int .i64 0, .int .i64 0]) := by kernel_rfl
@[go_sem] theorem td134 : td Tryz.prog 134 = some ⟨8, 72, true, (some [.int .i64 0, .int .i64 0, .int .i64 0, .string ⟨#[]⟩, .int .i64 0, .int .i64 0, .int .i64 0, .int .i64 0]), .struct [(0, 3), (1, 3), (2, 3), (3, 9), (4, 3), (5, 3), (6, 3), (7, 3)]⟩ := by kernel_rfl
@[go_sem] theorem zr135 : zeroRaw Tryz.prog 135 = some (.nilFunc) := by kernel_rfl
@[go_sem] theorem td135 : td Tryz.prog 135 = some ⟨1, 8, false, (some [.nilFunc]), .other⟩ := by kernel_rfl
@[go_sem] theorem zr136 : zeroRaw Tryz.prog 136 = some (.nilFunc) := by kernel_rfl
@[go_sem] theorem td136 : td Tryz.prog 136 = some ⟨1, 8, false, (some [.nilFunc]), .other⟩ := by kernel_rfl
@[go_sem] theorem zr137 : zeroRaw Tryz.prog 137 = some (.nilFunc) := by kernel_rfl
@[go_sem] theorem td137 : td Tryz.prog 137 = some ⟨1, 8, false, (some [.nilFunc]), .other⟩ := by kernel_rfl
@[go_sem] theorem zr138 : zeroRaw Tryz.prog 138 = some (.nilFunc) := by kernel_rfl
@[go_sem] theorem td138 : td Tryz.prog 138 = some ⟨1, 8, false, (some [.nilFunc]), .other⟩ := by kernel_rfl
@[go_sem] theorem zr139 : zeroRaw Tryz.prog 139 = some (.nilFunc) := by kernel_rfl
@[go_sem] theorem td139 : td Tryz.prog 139 = some ⟨1, 8, false, (some [.nilFunc]), .other⟩ := by kernel_rfl
@[go_sem] theorem zr140 : zeroRaw Tryz.prog 140 = some (.nilFunc) := by kernel_rfl
@[go_sem] theorem td140 : td Tryz.prog 140 = some ⟨1, 8, false, (some [.nilFunc]), .other⟩ := by kernel_rfl
@[go_sem] theorem zr141 : zeroRaw Tryz.prog 141 = some (.nilFunc) := by kernel_rfl
@[go_sem] theorem td141 : td Tryz.prog 141 = some ⟨1, 8, false, (some [.nilFunc]), .other⟩ := by kernel_rfl
@[go_sem] theorem zr142 : zeroRaw Tryz.prog 142 = some (.nilFunc) := by kernel_rfl
@[go_sem] theorem td142 : td Tryz.prog 142 = some ⟨1, 8, false, (some [.nilFunc]), .other⟩ := by kernel_rfl
@[go_sem] theorem zr143 : zeroRaw Tryz.prog 143 = some (.nilFunc) := by kernel_rfl
@[go_sem] theorem td143 : td Tryz.prog 143 = some ⟨1, 8, false, (some [.nilFunc]), .other⟩ := by kernel_rfl
@[go_sem] theorem zr144 : zeroRaw Tryz.prog 144 = some (.slice none 0 0) := by kernel_rfl
@[go_sem] theorem td144 : td Tryz.prog 144 = some ⟨1, 24, false, (some [.slice none 0 0]), .slice 9⟩ := by kernel_rfl
@[go_sem] theorem zr145 : zeroRaw Tryz.prog 145 = some (.agg #[.int .i64 0, .slice none 0 0, .slice none 0 0]) := by kernel_rfl
@[go_sem] theorem td145 : td Tryz.prog 145 = some ⟨3, 56, true, (some [.int .i64 0, .slice none 0 0, .slice none 0 0]), .struct [(0, 3), (1, 22), (2, 144)]⟩ := by kernel_rfl
@[go_sem] theorem zr146 : zeroRaw Tryz.prog 146 = some (.agg #[.int .i64 0, .slice none 0 0, .slice none 0 0]) := by kernel_rfl
@[go_sem] theorem td146 : td Tryz.prog 146 = some ⟨3, 56, true, (some [.int .i64 0, .slice none 0 0, .slice none 0 0]), .struct [(0, 3), (1, 22), (2, 144)]⟩ := by kernel_rfl
@[go_sem] theorem zr147 : zeroRaw Tryz.prog 147 = some (.nilFunc) := by kernel_rfl
@[go_sem] theorem td147 : td Tryz.prog 147 = some ⟨1, 8, false, (some [.nilFunc]), .other⟩ := by kernel_rfl
@[go_sem] theorem zr148 : zeroRaw Tryz.prog 148 = some (.nilFunc) := by kernel_rfl
@[go_sem] theorem td148 : td Tryz.prog 148 = some ⟨1, 8, false, (some [.nilFunc]), .other⟩ := by kernel_rfl
@[go_sem] theorem zr149 : zeroRaw Tryz.prog 149 = some (.slice none 0 0) := by kernel_rfl
@[go_sem] theorem td149 : td Tryz.prog 149 = some ⟨1, 24, false, (some [.slice none 0 0]), .slice 4⟩ := by kernel_rfl
@[go_sem] theorem zr150 : zeroRaw Tryz.prog 150 = some (.nilFunc) := by kernel_rfl
@[go_sem] theorem td150 : td Tryz.prog 150 = some ⟨1, 8, false, (some [.nilFunc]), .other⟩ := by kernel_rfl
@[go_sem] theorem zr151 : zeroRaw Tryz.prog 151 = some (.nilFunc) := by kernel_rfl
@[go_sem] theorem td151 : td Tryz.prog 151 = some ⟨1, 8, false, (some [.nilFunc]), .other⟩ := by kernel_rfl
@[go_sem] theorem zr152 : zeroRaw Tryz.prog 152 = some (.nilFunc) := by kernel_rfl
@[go_sem] theorem td152 : td Tryz.prog 152 = some ⟨1, 8, false, (some [.nilFunc]), .other⟩ := by kernel_rfl
@[go_sem] theorem zr153 : zeroRaw Tryz.prog 153 = some (.nilFunc) := by kernel_rfl
@[go_sem] theorem td153 : td Tryz.prog 153 = some ⟨1, 8, false, (some [.nilFunc]), .other⟩ := by kernel_rfl
@[go_sem] theorem zr154 : zeroRaw Tryz.prog 154 = some (.nilFunc) := by kernel_rfl
@[go_sem] theorem td154 : td Tryz.prog 154 = some ⟨1, 8, false, (some [.nilFunc]), .other⟩ := by kernel_rfl
@[go_sem] theorem zr155 : zeroRaw Tryz.prog 155 = some (.nilFunc) := by kernel_rfl
@[go_sem] theorem td155 : td Tryz.prog 155 = some ⟨1, 8, false, (some [.nilFunc]), .other⟩ := by kernel_rfl
@[go_sem] theorem zr156 : zeroRaw Tryz.prog 156 = some (.nilFunc) := by kernel_rfl
@[go_sem] theorem td156 : td Tryz.prog 156 = some ⟨1, 8, false, (some [.nilFunc]), .other⟩ := by kernel_rfl
@[go_sem] theorem zr157 : zeroRaw Tryz.prog 157 = some (.nilFunc) := by kernel_rfl
@[go_sem] theorem td157 : td Tryz.prog 157 = some ⟨1, 8, false, (some [.nilFunc]), .other⟩ := by kernel_rfl
@[go_sem] theorem zr158 : zeroRaw Tryz.prog 158 = some (.nilFunc) := by kernel_rfl
@[go_sem] theorem td158 : td Tryz.prog 158 = some ⟨1, 8, false, (some [.nilFunc]), .other⟩ := by kernel_rfl
@[go_sem] theorem zr159 : zeroRaw Tryz.prog 159 = some (.agg #[.int .u8 0, .int .u8 0, .bool false]) := by kernel_rfl
@[go_sem] theorem td159 : td Tryz.prog 159 = some ⟨3, 3, true, (some [.int .u8 0, .int .u8 0, .bool false]), .struct [(0, 5), (1, 5), (2, 4)]⟩ := by kernel_rfl
@[go_sem] theorem zr160 : zeroRaw Tryz.prog 160 = some (.agg #[.int .u8 0, .int .u8 0, .bool false, .int .u8 0, .int .u8 0, .bool false, .int .u8 0, .int .u8 0, .bool false, .int .u8 0, .int .u8 0, .bool false]) := by kernel_rfl
@[go_sem] theorem td160 : td Tryz.prog 160 = some ⟨12, 12, true, (some [.int .u8 0, .int .u8 0, .bool false, .int .u8 0, .int .u8 0, .bool false, .int .u8 0, .int .u8 0, .bool false, .int .u8 0, .int .u8 0, .bool false]), .array 4 159⟩ := by kernel_rfl
@[go_sem] theorem zr161 : zeroRaw Tryz.prog 161 = some (.nilFunc) := by kernel_rfl
@[go_sem] theorem td161 : td Tryz.prog 161 = some ⟨1, 8, false, (some [.nilFunc]), .other⟩ := by kernel_rfl
@[go_sem] theorem zr162 : zeroRaw Tryz.prog 162 = some (.nilFunc) := by kernel_rfl
@[go_sem] theorem td162 : td Tryz.prog 162 = some ⟨1, 8, false, (some [.nilFunc]), .other⟩ := by kernel_rfl
@[go_sem] theorem zr163 : zeroRaw Tryz.prog 163 = some (.nilFunc) := by kernel_rfl
@[go_sem] theorem td163 : td Tryz.prog 163 = some ⟨1, 8, false, (some [.nilFunc]), .other⟩ := by kernel_rfl
@[go_sem] theorem zr164 : zeroRaw Tryz.prog 164 = some (.nilFunc) := by kernel_rfl
@[go_sem] theorem td164 : td Tryz.prog 164 = some ⟨1, 8, false, (some [.nilFunc]), .other⟩ := by kernel_rfl
@[go_sem] theorem zr165 : zeroRaw Tryz.prog 165 = some (.nilFunc) := by kernel_rfl
@[go_sem] theorem td165 : td Tryz.prog 165 = some ⟨1, 8, false, (some [.nilFunc]), .other⟩ := by kernel_rfl
@[go_sem] theorem zr166 : zeroRaw Tryz.prog 166 = some (.nilFunc) := by kernel_rfl
@[go_sem] theorem td166 : td Tryz.prog 166 = some ⟨1, 8, false, (some [.nilFunc]), .other⟩ := by kernel_rfl
@[go_sem] theorem zr167 : zeroRaw Tryz.prog 167 = some (.nilFunc) := by kernel_rfl
@[go_sem] theorem td167 : td Tryz.prog 167 = some ⟨1, 8, false, (some [.nilFunc]), .other⟩ := by kernel_rfl
@[go_sem] theorem zr168 : zeroRaw Tryz.prog 168 = some (.nilFunc) := by kernel_rfl
@[go_sem] theorem td168 : td Tryz.prog 168 = some ⟨1, 8, false, (some [.nilFunc]), .other⟩ := by kernel_rfl
@[go_sem] theorem zr169 : zeroRaw Tryz.prog 169 = some (.nilFunc) := by kernel_rfl
@[go_sem] theorem td169 : td Tryz.prog 169 = some ⟨1, 8, false, (some [.nilFunc]), .other⟩ := by kernel_rfl
@[go_sem] theorem zr170 : zeroRaw Tryz.prog 170 = some (.nilFunc) := by kernel_rfl
@[go_sem] theorem td170 : td Tryz.prog 170 = some ⟨1, 8, false, (some [.nilFunc]), .other⟩ := by kernel_rfl
@[go_sem] theorem zr171 : zeroRaw Tryz.prog 171 = some (.nilFunc) := by kernel_rfl
@[go_sem] theorem td171 : td Tryz.prog 171 = some ⟨1, 8, false, (some [.nilFunc]), .other⟩ := by kernel_rfl
@[go_sem] theorem zr173 : zeroRaw Tryz.prog 173 = some (.nilFunc) := by kernel_rfl
@[go_sem] theorem td173 : td Tryz.prog 173 = some ⟨1, 8, false, (some [.nilFunc]), .other⟩ := by kernel_rfl
@[go_sem] theorem zr174 : zeroRaw Tryz.prog 174 = some (.nilFunc) := by kernel_rfl
@[go_sem] theorem td174 : td Tryz.prog 174 = some ⟨1, 8, false, (some [.nilFunc]), .other⟩ := by kernel_rfl
@[go_sem] theorem zr175 : zeroRaw Tryz.prog 175 = some (.nilFunc) := by kernel_rfl
@[go_sem] theorem td175 : td Tryz.prog 175 = some ⟨1, 8, false, (some [.nilFunc]), .other⟩ := by kernel_rfl
@[go_sem] theorem zr176 : zeroRaw Tryz.prog 176 = some (.nilFunc) := by kernel_rfl
@[go_sem] theorem td176 : td Tryz.prog 176 = some ⟨1, 8, false, (some [.nilFunc]), .other⟩ := by kernel_rfl
@[go_sem] theorem zr177 : zeroRaw Tryz.prog 177 = some (.nilFunc) := by kernel_rfl
@[go_sem] theorem td177 : td Tryz.prog 177 = some ⟨1, 8, false, (some [.nilFunc]), .other⟩ := by kernel_rfl
@[go_sem] theorem zr178 : zeroRaw Tryz.prog 178 = some (.nilFunc) := by kernel_rfl
@[go_sem] theorem td178 : td Tryz.prog 178 = some ⟨1, 8, false, (some [.nilFunc]), .other⟩ := by kernel_rfl
@[go_sem] theorem zr179 : zeroRaw Tryz.prog 179 = some (.nilFunc) := by kernel_rfl
@[go_sem] theorem td179 : td Tryz.prog 179 = some ⟨1, 8, false, (some [.nilFunc]), .other⟩ := by kernel_rfl
@[go_sem] theorem zr180 : zeroRaw Tryz.prog 180 = some (.nilFunc) := by kernel_rfl
@[go_sem] theorem td180 : td Tryz.prog 180 = some ⟨1, 8, false, (some [.nilFunc]), .other⟩ := by kernel_rfl
@[go_sem] theorem zr181 : zeroRaw Tryz.prog 181 = some (.agg #[.pointer none, .pointer none, .pointer none, .string ⟨#[]⟩]) := by kernel_rfl
@[go_sem] theorem td181 : td Tryz.prog 181 = some ⟨4, 40, true, (some [.pointer none, .pointer none, .pointer none, .string ⟨#[]⟩]), .struct [(0, 17), (1, 17), (2, 17), (3, 9)]⟩ := by kernel_rfl
@[go_sem] theorem zr182 : zeroRaw Tryz.prog 182 = some (.agg #[.pointer none, .pointer none, .pointer none, .string ⟨#[]⟩]) := by kernel_rfl
@[go_sem] theorem td182 : td Tryz.prog 182 = some ⟨4, 40, true, (some [.pointer none, .pointer none, .pointer none, .string ⟨#[]⟩]), .struct [(0, 17), (1, 17), (2, 17), (3, 9)]⟩ := by kernel_rfl
@[go_sem] theorem zr183 : zeroRaw Tryz.prog 183 = some (.agg #[]) := by kernel_rfl
@[go_sem] theorem td183 : td Tryz.prog 183 = some ⟨0, 0, true, (some []), .array 0 16⟩ := by kernel_rfl
@[go_sem] theorem zr184 : zeroRaw Tryz.prog 184 = some (.agg #[]) := by kernel_rfl
@[go_sem] theorem td184 : td Tryz.prog 184 = some ⟨0, 0, true, (some []), .struct [(0, 183)]⟩ := by kernel_rfl
@[go_sem] theorem zr185 : zeroRaw Tryz.prog 185 = some (.agg #[]) := by kernel_rfl
@[go_sem] theorem td185 : td Tryz.prog 185 = some ⟨0, 0, true, (some []), .struct [(0, 183)]⟩ := by kernel_rfl
@[go_sem] theorem zr186 : zeroRaw Tryz.prog 186 = some (.nilFunc) := by kernel_rfl
@[go_sem] theorem td186 : td Tryz.prog 186 = some ⟨1, 8, false, (some [.nilFunc]), .other⟩ := by kernel_rfl
@[go_sem] theorem zr187 : zeroRaw Tryz.prog 187 = some (.int .u32 0) := by kernel_rfl
@[go_sem] theorem td187 : td Tryz.prog 187 = some ⟨1, 4, false, (some [.int .u32 0]), .int .u32⟩ := by kernel_rfl
@[go_sem] theorem zr188 : zeroRaw Tryz.prog 188 = some (.int .u8 0) := by kernel_rfl
@[go_sem] theorem td188 : td Tryz.prog 188 = some ⟨1, 1, false, (some [.int .u8 0]), .int .u8⟩ := by kernel_rfl
@[go_sem] theorem zr189 : zeroRaw Tryz.prog 189 = some (.int .u8 0) := by kernel_rfl
@[go_sem] theorem td189 : td Tryz.prog 189 = some ⟨1, 1, false, (some [.int .u8 0]), .int .u8⟩ := by kernel_rfl
@[go_sem] theorem zr190 : zeroRaw Tryz.prog 190 = some (.nilFunc) := by kernel_rfl
@[go_sem] theorem td190 : td Tryz.prog 190 = some ⟨1, 8, false, (some [.nilFunc]), .other⟩ := by kernel_rfl
@[go_sem] theorem zr191 : zeroRaw Tryz.prog 191 = some (.pointer none) := by kernel_rfl
@[go_sem] theorem td191 : td Tryz.prog 191 = some ⟨1, 8, false, (some [.pointer none]), .other⟩ := by kernel_rfl
@[go_sem] theorem zr192 : zeroRaw Tryz.prog 192 = some (.int .i32 0) := by kernel_rfl
@[go_sem] theorem td192 : td Tryz.prog 192 = some ⟨1, 4, false, (some [.int .i32 0]), .int .i32⟩ := by kernel_rfl
@[go_sem] theorem zr193 : zeroRaw Tryz.prog 193 = some (.int .i32 0) := by kernel_rfl
@[go_sem] theorem td193 : td Tryz.prog 193 = some ⟨1, 4, false, (some [.int .i32 0]), .int .i32⟩ := by kernel_rfl
@[go_sem] theorem zr194 : zeroRaw Tryz.prog 194 = some (.agg #[.int .u64 0, .int .u64 0, .int .u32 0, .int .u8 0, .int .u8 0, .int .u8 0, .int .u8 0, .nilFunc, .pointer none, .int .i32 0, .int .i32 0]) := by kernel_rfl
@[go_sem] theorem td194 : td Tryz.prog 194 = some ⟨11, 48, true, (some [.int .u64 0, .int .u64 0, .int .u32 0, .int .u8 0, .int .u8 0, .int .u8 0, .int .u8 0, .nilFunc, .pointer none, .int .i32 0, .int .i32 0]), .struct [(0, 12), (1, 12), (2, 187), (3, 188), (4, 5), (5, 5), (6, 189), (7, 190), (8, 191), (9, 192), (10, 193)]⟩ := by kernel_rfl
@[go_sem] theorem zr195 : zeroRaw Tryz.prog 195 = some (.agg #[.int .u64 0, .int .u64 0, .int .u32 0, .int .u8 0, .int .u8 0, .int .u8 0, .int .u8 0, .nilFunc, .pointer none, .int .i32 0, .int .i32 0]) := by kernel_rfl
@[go_sem] theorem td195 : td Tryz.prog 195 = some ⟨11, 48, true, (some [.int .u64 0, .int .u64 0, .int .u32 0, .int .u8 0, .int .u8 0, .int .u8 0, .int .u8 0, .nilFunc, .pointer none, .int .i32 0, .int .i32 0]), .struct [(0, 12), (1, 12), (2, 187), (3, 188), (4, 5), (5, 5), (6, 189), (7, 190), (8, 191), (9, 192), (10, 193)]⟩ := by kernel_rfl
@[go_sem] theorem zr196 : zeroRaw Tryz.prog 196 = some (.pointer none) := by kernel_rfl
@[go_sem] theorem td196 : td Tryz.prog 196 = some ⟨1, 8, false, (some [.pointer none]), .other⟩ := by kernel_rfl
@[go_sem] theorem eqf7 : eqFlat Tryz.prog 7 = some [(0, 2), (1, 3), (2, 4), (3, 6)] := by kernel_rfl
@[go_sem] theorem eqf8 : eqFlat Tryz.prog 8 = some [(0, 2), (1, 3), (2, 4), (3, 6)] := by kernel_rfl
@[go_sem] theorem eqf38 : eqFlat Tryz.prog 38 = some [(0, 3), (1, 3), (2, 3)] := by kernel_rfl
@[go_sem] theorem eqf39 : eqFlat Tryz.prog 39 = some [(0, 3), (1, 3), (2, 3)] := by kernel_rfl
@[go_sem] theorem eqf40 : eqFlat Tryz.prog 40 = some [(0, 9), (1, 3), (2, 3), (3, 3), (4, 3)] := by kernel_rfl
@[go_sem] theorem eqf41 : eqFlat Tryz.prog 41 = some [(0, 9), (1, 3), (2, 3), (3, 3), (4, 3)] := by kernel_rfl
@[go_sem] theorem eqf42 : eqFlat Tryz.prog 42 = some [(0, 9), (1, 3), (2, 3)] := by kernel_rfl
@[go_sem] theorem eqf43 : eqFlat Tryz.prog 43 = some [(0, 9), (1, 3), (2, 3)] := by kernel_rfl
@[go_sem] theorem eqf44 : eqFlat Tryz.prog 44 = some [(0, 9), (1, 3), (2, 3), (3, 3), (4, 3)] := by kernel_rfl
@[go_sem] theorem eqf45 : eqFlat Tryz.prog 45 = some [(0, 9), (1, 3), (2, 3), (3, 3), (4, 3)] := by kernel_rfl
@[go_sem] theorem eqf49 : eqFlat Tryz.prog 49 = some [(0, 3), (1, 3), (2, 3)] := by kernel_rfl
@[go_sem] theorem eqf50 : eqFlat Tryz.prog 50 = some [(0, 3), (1, 3), (2, 3)] := by kernel_rfl
@[go_sem] theorem eqf59 : eqFlat Tryz.prog 59 = some [(0, 3), (1, 3)] := by kernel_rfl
@[go_sem] theorem eqf60 : eqFlat Tryz.prog 60 = some [(0, 3), (1, 3)] := by kernel_rfl
@[go_sem] theorem eqf110 : eqFlat Tryz.prog 110 = some [(0, 3), (1, 3), (2, 9)] := by kernel_rfl
@[go_sem] theorem eqf111 : eqFlat Tryz.prog 111 = some [(0, 3), (1, 3), (2, 9)] := by kernel_rfl
@[go_sem] theorem eqf133 : eqFlat Tryz.prog 133 = some [(0, 3), (1, 3), (2, 3), (3, 9), (4, 3), (5, 3), (6, 3), (7, 3)] := by kernel_rfl
@[go_sem] theorem eqf134 : eqFlat Tryz.prog 134 = some [(0, 3), (1, 3), (2, 3), (3, 9), (4, 3), (5, 3), (6, 3), (7, 3)] := by kernel_rfl
@[go_sem] theorem eqf159 : eqFlat Tryz.prog 159 = some [(0, 5), (1, 5), (2, 4)] := by kernel_rfl
end Go.Proofs.YtmfgaefefgnhbaaGreatDoor.Abs
