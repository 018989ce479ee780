/- Plans for regions that draw their order, and what is known of each type: printed by a program, checked where they are used, and by the kernel. -/
import Derived.Test.YtfkiomkfoabnhaaDoorT3
import Derived.Test.YtfkiomkfoabnhaaDoorChecked
import Derived.KernelRfl
namespace Go.Proofs.YtfkiomkfoabnhaaDoor.Abs
def plan3_16 : Plan := (.take 0 (.take 1 (.take 3 (.take 4 (.fork 2 (.fork 5 (.take 6 (.take 7 (.take 8 (.take 9 (.take 11 (.take 12 (.take 13 (.take 14 (.take 15 (.take 16 (.take 17 (.take 18 (.fork 10 (.take 19 (.take 20 .done)) .none))))))))))))) .none) .none))))) 
def plan4_5 : Plan := (.take 0 (.take 1 (.take 3 (.take 4 (.fork 2 (.fork 5 (.fork 6 (.fork 7 (.fork 8 (.fork 9 .done .none) .none) .none) (.fork 7 (.fork 6 (.fork 8 (.fork 9 .done .none) .none) .none) .none)) (.fork 6 (.fork 5 (.fork 7 (.fork 8 (.fork 9 .done .none) .none) .none) (.fork 7 (.fork 5 (.fork 8 (.fork 9 .done .none) .none) .none) .none)) (.fork 7 (.fork 5 (.fork 6 (.fork 8 (.fork 9 .done .none) .none) .none) (.fork 6 (.fork 5 (.fork 8 (.fork 9 .done .none) .none) .none) .none)) .none))) (.fork 6 (.fork 2 (.fork 5 (.fork 7 (.fork 8 (.fork 9 .done .none) .none) .none) (.fork 7 (.fork 5 (.fork 8 (.fork 9 .done .none) .none) .none) .none)) (.fork 7 (.fork 2 (.fork 5 (.fork 8 (.fork 9 .done .none) .none) .none) .none) .none)) (.fork 7 (.fork 2 (.fork 5 (.fork 6 (.fork 8 (.fork 9 .done .none) .none) .none) (.fork 6 (.fork 5 (.fork 8 (.fork 9 .done .none) .none) .none) .none)) (.fork 6 (.fork 2 (.fork 5 (.fork 8 (.fork 9 .done .none) .none) .none) .none) .none)) .none))))))) 
def plan5_5 : Plan := (.take 0 (.take 1 (.take 3 (.take 4 (.fork 2 (.fork 5 (.fork 6 (.take 7 (.fork 8 .done .none)) .none) (.fork 6 (.fork 5 (.take 7 (.fork 8 .done .none)) .none) .none)) (.fork 6 (.fork 2 (.fork 5 (.take 7 (.fork 8 .done .none)) .none) .none) .none)))))) 
def plan6_5 : Plan := (.take 0 (.take 1 (.take 3 (.take 4 (.fork 2 (.fork 5 (.fork 6 (.fork 7 (.fork 8 (.fork 9 .done .none) .none) .none) (.fork 7 (.fork 6 (.fork 8 (.fork 9 .done .none) .none) .none) .none)) (.fork 6 (.fork 5 (.fork 7 (.fork 8 (.fork 9 .done .none) .none) .none) (.fork 7 (.fork 5 (.fork 8 (.fork 9 .done .none) .none) .none) .none)) (.fork 7 (.fork 5 (.fork 6 (.fork 8 (.fork 9 .done .none) .none) .none) (.fork 6 (.fork 5 (.fork 8 (.fork 9 .done .none) .none) .none) .none)) .none))) (.fork 6 (.fork 2 (.fork 5 (.fork 7 (.fork 8 (.fork 9 .done .none) .none) .none) (.fork 7 (.fork 5 (.fork 8 (.fork 9 .done .none) .none) .none) .none)) (.fork 7 (.fork 2 (.fork 5 (.fork 8 (.fork 9 .done .none) .none) .none) .none) .none)) (.fork 7 (.fork 2 (.fork 5 (.fork 6 (.fork 8 (.fork 9 .done .none) .none) .none) (.fork 6 (.fork 5 (.fork 8 (.fork 9 .done .none) .none) .none) .none)) (.fork 6 (.fork 2 (.fork 5 (.fork 8 (.fork 9 .done .none) .none) .none) .none) .none)) .none))))))) 
def plan6_9 : Plan := (.take 0 (.take 1 (.take 3 (.take 4 (.fork 2 (.fork 5 (.take 6 (.take 7 .done)) .none) .none))))) 
def plan7_7 : Plan := (.take 0 (.take 1 (.take 2 (.take 3 (.take 7 (.fork 4 (.fork 5 (.take 6 .done) .none) .none)))))) 
def plan7_16 : Plan := (.take 0 (.take 7 (.fork 1 (.take 2 (.take 3 (.fork 4 (.fork 5 (.take 6 .done) .none) .none))) (.fork 2 (.fork 1 (.take 3 (.fork 4 (.fork 5 (.take 6 .done) .none) .none)) (.fork 3 (.fork 1 (.fork 4 (.fork 5 (.take 6 .done) .none) .none) (.fork 4 (.fork 1 (.fork 5 (.take 6 .done) .none) .none) .none)) .none)) (.fork 3 (.fork 1 (.take 2 (.fork 4 (.fork 5 (.take 6 .done) .none) .none)) (.fork 2 (.fork 1 (.fork 4 (.fork 5 (.take 6 .done) .none) .none) (.fork 4 (.fork 1 (.fork 5 (.take 6 .done) .none) .none) .none)) .none)) .none))))) 
def plan12_9 : Plan := (.take 0 (.take 1 (.take 2 (.take 3 (.take 5 (.take 9 (.take 13 (.take 14 (.take 15 (.take 16 (.fork 4 (.fork 6 (.take 7 (.take 8 (.fork 10 (.take 11 (.take 12 (.fork 17 (.take 18 (.fork 19 .done .none)) .none))) .none))) .none) (.fork 6 (.fork 4 (.take 7 (.take 8 (.fork 10 (.take 11 (.take 12 (.fork 17 (.take 18 (.fork 19 .done .none)) .none))) .none))) (.fork 10 (.take 11 (.fork 4 (.take 7 (.take 8 (.take 12 (.fork 17 (.take 18 (.fork 19 .done .none)) .none)))) .none)) .none)) .none)))))))))))) 
def plan12_16 : Plan := (.take 0 (.take 1 (.take 2 (.fork 3 (.take 4 (.take 5 (.fork 6 (.fork 7 (.take 8 (.fork 9 .done .none)) .none) .none))) .none)))) 
def plan14_14 : Plan := (.take 0 (.take 1 (.take 2 (.take 3 (.take 5 (.fork 4 (.fork 6 (.take 7 (.take 8 .done)) .none) .none)))))) 
def plan18_6 : Plan := (.take 0 (.take 1 (.take 2 (.take 3 (.take 4 (.take 5 (.fork 6 (.take 7 (.fork 8 (.fork 9 (.take 10 (.fork 11 .done .none)) .none) .none)) .none))))))) 
def plan18_13 : Plan := (.take 0 (.take 1 (.take 2 (.fork 3 (.fork 4 (.fork 5 (.take 6 (.fork 7 .done .none)) .none) .none) .none)))) 
def plan26_19 : Plan := (.take 0 (.take 1 (.take 2 (.take 3 (.take 4 (.fork 5 (.fork 6 (.fork 7 .done .none) .none) (.fork 6 (.take 5 (.fork 7 .done .none)) .none))))))) 
def plan31_11 : Plan := (.take 0 (.take 1 (.take 2 (.take 3 (.take 4 (.take 5 (.fork 6 (.take 7 (.take 8 (.take 9 (.take 10 (.take 11 .done))))) .none))))))) 
def plan31_12 : Plan := (.take 0 (.take 1 (.take 2 (.take 3 (.take 4 (.take 5 (.fork 6 (.take 7 (.take 8 (.take 9 (.take 10 (.take 11 (.take 12 (.take 13 (.take 14 (.take 15 (.take 16 (.take 17 .done))))))))))) .none))))))) 
def plan32_6 : Plan := (.take 0 (.take 1 (.take 2 (.take 3 (.take 4 (.take 5 (.take 6 (.take 7 (.take 8 .done))))))))) 
def plan35_8 : Plan := (.take 0 (.take 1 (.take 2 (.take 3 (.take 4 (.take 5 (.fork 6 (.take 7 (.take 8 (.take 9 (.take 10 (.take 11 .done))))) .none))))))) 
def plan36_10 : Plan := (.take 0 (.take 1 (.take 2 (.take 3 (.take 4 (.take 5 (.take 6 (.take 7 (.take 8 (.fork 9 (.take 10 (.take 11 (.take 12 (.take 13 (.take 14 .done))))) .none)))))))))) 
def plan37_9 : Plan := (.take 0 (.take 1 (.take 2 (.take 3 (.take 4 (.fork 5 (.take 6 .done) .none)))))) 
def plan37_12 : Plan := (.take 0 (.take 1 (.take 2 (.take 3 (.take 4 (.take 5 (.take 6 (.take 7 (.take 8 (.take 9 (.take 10 (.take 11 (.take 12 (.take 13 (.take 14 (.take 15 .done)))))))))))))))) 
def plan40_2 : Plan := (.take 0 (.take 1 (.take 2 (.take 3 (.take 4 (.take 5 (.take 6 (.take 7 (.take 8 (.take 9 .done)))))))))) 
def plan40_3 : Plan := (.take 0 (.take 1 (.take 2 (.take 3 (.take 4 (.take 5 (.take 6 (.take 7 (.take 8 (.take 9 (.take 10 (.take 11 .done)))))))))))) 
def plan43_5 : Plan := (.take 0 (.take 1 (.take 2 (.take 3 (.take 4 (.take 5 (.take 6 (.take 7 (.fork 8 (.fork 9 .done .none) .none))))))))) 
def plan44_13 : Plan := (.take 0 (.take 1 (.fork 2 (.take 3 (.take 4 (.take 5 (.fork 6 (.take 7 (.take 8 (.take 9 (.take 10 (.take 11 (.take 12 (.take 13 (.take 14 (.take 15 (.take 16 (.take 17 (.take 18 (.take 19 (.take 20 (.take 21 .done))))))))))))))) .none)))) .none))) 
def plan44_14 : Plan := (.take 0 (.take 1 (.take 2 (.take 3 (.take 4 (.take 6 (.fork 5 (.fork 7 (.take 8 (.fork 9 .done .none)) .none) (.fork 7 (.take 5 (.take 8 (.fork 9 .done .none))) .none)))))))) 
def plan47_12 : Plan := (.take 0 (.take 1 (.take 2 (.take 3 (.take 4 (.take 5 (.take 6 (.take 7 (.fork 8 (.take 9 (.take 10 (.fork 11 (.take 12 (.take 13 (.take 14 (.take 15 (.take 16 .done))))) .none))) .none))))))))) 
def plan48_12 : Plan := (.take 0 (.take 1 (.take 2 (.take 3 (.take 4 (.take 5 (.take 6 (.take 7 (.take 8 .done))))))))) 
def plan48_25 : Plan := (.take 0 (.take 1 (.take 2 (.take 3 (.take 4 (.take 5 (.take 6 (.take 7 (.take 8 .done))))))))) 
def plan48_30 : Plan := (.take 0 (.take 1 (.take 2 (.take 3 (.take 4 (.take 5 (.take 6 (.take 7 (.take 8 .done))))))))) 
def plan49_9 : Plan := (.take 0 (.take 1 (.take 2 (.take 3 (.take 4 (.fork 5 (.take 6 .done) .none)))))) 
def plan49_12 : Plan := (.take 0 (.take 1 (.take 2 (.take 3 (.take 4 (.take 5 (.take 6 (.take 7 (.take 8 (.take 9 (.take 10 (.take 11 (.fork 12 (.take 13 (.take 14 .done)) .none))))))))))))) 
def plan49_17 : Plan := (.take 0 (.take 1 (.take 2 (.take 3 (.take 4 (.take 5 (.take 6 (.take 7 (.take 8 (.take 9 (.take 10 (.take 11 (.take 12 (.take 13 (.take 14 (.take 15 (.take 16 (.take 17 (.take 18 (.take 19 (.take 20 (.take 21 (.take 22 (.take 23 .done)))))))))))))))))))))))) 
def plan49_22 : Plan := (.take 0 (.take 1 (.take 2 (.take 3 (.take 4 (.take 5 (.take 6 (.take 7 (.take 8 (.take 9 (.take 10 .done))))))))))) 
def plan56_12 : Plan := (.take 0 (.take 1 (.take 2 (.take 3 (.take 4 (.take 5 (.take 6 (.take 7 (.take 8 (.take 9 (.take 10 (.take 11 (.take 12 .done))))))))))))) 
def plan58_4 : Plan := (.take 0 (.take 1 (.take 2 (.take 3 (.take 4 (.take 5 (.take 6 (.take 7 (.take 8 (.take 9 (.take 10 (.take 11 (.take 12 (.take 13 (.take 14 (.take 15 (.take 16 (.take 17 (.take 18 (.take 19 (.take 20 (.take 21 (.take 22 (.take 23 (.take 24 (.take 25 (.take 26 (.take 27 (.take 28 .done))))))))))))))))))))))))))))) 
def plan61_12 : Plan := (.take 0 (.take 1 (.take 2 (.take 3 (.take 4 (.take 5 (.take 6 (.take 7 (.take 8 (.fork 9 (.take 10 (.take 11 (.take 12 .done))) .none)))))))))) 
def plan61_14 : Plan := (.take 0 (.take 1 (.take 2 (.take 3 (.fork 4 (.take 5 .done) .none))))) 
def plan61_16 : Plan := (.take 0 (.take 1 (.take 2 (.take 3 (.take 4 (.fork 5 (.take 6 .done) .none)))))) 
def plan62_7 : Plan := (.take 0 (.take 1 (.take 2 (.take 3 (.take 4 (.fork 5 (.fork 6 (.take 7 (.fork 8 .done .none)) .none) .none)))))) 
def plan63_4 : Plan := (.take 0 (.take 1 (.take 2 (.take 3 (.take 4 (.take 5 .done)))))) 
def plan68_1 : Plan := (.take 0 (.take 1 (.take 2 (.take 3 (.take 4 (.take 5 (.fork 6 (.take 7 (.take 8 .done)) .none))))))) 
def plan69_10 : Plan := (.take 0 (.take 1 (.take 2 (.take 3 (.take 4 (.take 5 (.take 6 (.take 7 .done)))))))) 
def plan69_18 : Plan := (.take 0 (.take 1 (.take 2 (.take 3 (.take 4 (.take 5 (.take 6 (.take 7 (.take 8 (.take 9 (.fork 10 (.take 11 .done) .none))))))))))) 
def plan69_20 : Plan := (.take 0 (.take 1 (.take 2 (.fork 3 (.take 4 (.fork 5 (.fork 6 (.take 7 .done) .none) .none)) (.fork 4 (.fork 3 (.fork 5 (.fork 6 (.take 7 .done) .none) .none) (.fork 5 (.fork 3 (.fork 6 (.take 7 .done) .none) .none) .none)) .none))))) 
def plan81_7 : Plan := (.take 0 (.take 1 (.take 2 (.take 3 (.take 4 (.take 5 (.take 6 (.fork 7 (.take 8 (.take 9 .done)) .none)))))))) 
def plan83_7 : Plan := (.take 0 (.take 1 (.take 2 (.take 3 (.take 4 (.take 5 (.take 6 (.take 7 (.take 8 (.take 9 (.take 10 (.take 11 (.take 12 (.take 13 (.take 14 (.take 15 (.take 16 (.take 17 (.take 18 (.take 19 (.take 20 (.take 21 (.take 22 (.take 23 (.take 24 (.take 25 (.take 26 (.take 27 (.take 28 (.take 29 (.take 30 .done))))))))))))))))))))))))))))))) 
def plan83_9 : Plan := (.take 0 (.take 1 (.take 2 (.take 3 (.take 4 (.take 5 (.take 6 (.take 7 (.take 8 (.fork 9 (.take 10 .done) .none)))))))))) 
def plan85_1 : Plan := (.take 0 (.take 1 (.take 2 (.take 3 (.take 5 (.take 6 (.take 7 (.take 8 (.fork 4 (.fork 9 (.fork 10 (.fork 11 (.take 12 .done) .none) .none) .none) .none))))))))) 
def plan91_14 : Plan := (.take 0 (.take 1 (.take 2 (.take 3 (.fork 4 (.take 5 .done) .none))))) 
end Go.Proofs.YtfkiomkfoabnhaaDoor.Abs
namespace Go.Proofs.YtfkiomkfoabnhaaDoor.Abs
def plan47_12_8 : Plan := (.take 1 (.take 2 (.take 3 (.take 4 (.take 7 (.fork 0 (.fork 5 (.fork 6 (.fork 8 (.take 9 (.take 10 (.fork 11 (.take 12 (.take 13 (.take 14 (.take 15 (.take 16 .done))))) .none))) .none) (.fork 8 (.take 6 (.take 9 (.take 10 (.fork 11 (.take 12 (.take 13 (.take 14 (.take 15 (.take 16 .done))))) .none)))) .none)) (.fork 8 (.take 5 (.take 6 (.take 9 (.take 10 (.fork 11 (.take 12 (.take 13 (.take 14 (.take 15 (.take 16 .done))))) .none))))) .none)) (.fork 5 (.fork 0 (.fork 6 (.fork 8 (.take 9 (.take 10 (.fork 11 (.take 12 (.take 13 (.take 14 (.take 15 (.take 16 .done))))) .none))) .none) (.fork 8 (.take 6 (.take 9 (.take 10 (.fork 11 (.take 12 (.take 13 (.take 14 (.take 15 (.take 16 .done))))) .none)))) .none)) (.fork 6 (.fork 0 (.fork 8 (.take 9 (.take 10 (.fork 11 (.take 12 (.take 13 (.take 14 (.take 15 (.take 16 .done))))) .none))) .none) (.fork 8 (.take 0 (.take 9 (.take 10 (.fork 11 (.take 12 (.take 13 (.take 14 (.take 15 (.take 16 .done))))) .none)))) .none)) (.fork 8 (.take 0 (.take 6 (.take 9 (.take 10 (.fork 11 (.take 12 (.take 13 (.take 14 (.take 15 (.take 16 .done))))) .none))))) .none))) (.fork 8 (.take 0 (.take 5 (.take 6 (.take 9 (.take 10 (.fork 11 (.take 12 (.take 13 (.take 14 (.take 15 (.take 16 .done))))) .none)))))) .none)))))))) 
def plan12_9_6_10 : Plan := (.take 0 (.take 1 (.take 2 (.take 3 (.take 5 (.take 9 (.take 13 (.take 14 (.take 15 (.take 16 (.fork 4 (.fork 6 (.take 7 (.fork 8 (.fork 10 (.take 11 (.take 12 (.fork 17 (.take 18 (.fork 19 .done .none)) .none))) .none) (.fork 10 (.take 8 (.take 11 (.take 12 (.fork 17 (.take 18 (.fork 19 .done .none)) .none)))) .none))) .none) (.fork 6 (.fork 4 (.take 7 (.fork 8 (.fork 10 (.take 11 (.take 12 (.fork 17 (.take 18 (.fork 19 .done .none)) .none))) .none) (.fork 10 (.take 8 (.take 11 (.take 12 (.fork 17 (.take 18 (.fork 19 .done .none)) .none)))) .none))) (.fork 10 (.take 11 (.fork 4 (.take 7 (.take 8 (.take 12 (.fork 17 (.take 18 (.fork 19 .done .none)) .none)))) .none)) .none)) .none)))))))))))) 
def plan12_16_3 : Plan := (.take 0 (.take 2 (.fork 1 (.fork 3 (.take 4 (.take 5 (.fork 6 (.fork 7 (.take 8 (.fork 9 .done .none)) .none) .none))) .none) (.fork 3 (.take 1 (.take 4 (.take 5 (.fork 6 (.fork 7 (.take 8 (.fork 9 .done .none)) .none) .none)))) .none)))) 
def plan18_6_6 : Plan := (.take 0 (.take 2 (.take 5 (.fork 1 (.fork 3 (.fork 4 (.fork 6 (.take 7 (.fork 8 (.fork 9 (.take 10 (.fork 11 .done .none)) .none) .none)) .none) (.fork 6 (.take 4 (.take 7 (.fork 8 (.fork 9 (.take 10 (.fork 11 .done .none)) .none) .none))) .none)) (.fork 6 (.take 3 (.take 4 (.take 7 (.fork 8 (.fork 9 (.take 10 (.fork 11 .done .none)) .none) .none)))) .none)) (.fork 3 (.fork 1 (.fork 4 (.fork 6 (.take 7 (.fork 8 (.fork 9 (.take 10 (.fork 11 .done .none)) .none) .none)) .none) (.fork 6 (.take 4 (.take 7 (.fork 8 (.fork 9 (.take 10 (.fork 11 .done .none)) .none) .none))) .none)) (.fork 4 (.fork 1 (.fork 6 (.take 7 (.fork 8 (.fork 9 (.take 10 (.fork 11 .done .none)) .none) .none)) .none) (.fork 6 (.take 1 (.take 7 (.fork 8 (.fork 9 (.take 10 (.fork 11 .done .none)) .none) .none))) .none)) (.fork 6 (.take 1 (.take 4 (.take 7 (.fork 8 (.fork 9 (.take 10 (.fork 11 .done .none)) .none) .none)))) .none))) (.fork 6 (.take 1 (.take 3 (.take 4 (.take 7 (.fork 8 (.fork 9 (.take 10 (.fork 11 .done .none)) .none) .none))))) .none)))))) 
def plan18_13_3 : Plan := (.take 0 (.take 2 (.fork 1 (.fork 3 (.fork 4 (.fork 5 (.take 6 (.fork 7 .done .none)) .none) .none) .none) (.fork 3 (.take 1 (.fork 4 (.fork 5 (.take 6 (.fork 7 .done .none)) .none) .none)) .none)))) 
end Go.Proofs.YtfkiomkfoabnhaaDoor.Abs
namespace Go.Proofs.YtfkiomkfoabnhaaDoor.Abs
open Go
@[go_sem] theorem zr1 : zeroRaw Tryd.prog 1 = some (.nilFunc) := by kernel_rfl
@[go_sem] theorem td1 : td Tryd.prog 1 = some ⟨1, 8, false, (some [.nilFunc]), .other⟩ := by kernel_rfl
@[go_sem] theorem zr2 : zeroRaw Tryd.prog 2 = some (.int .i64 0) := by kernel_rfl
@[go_sem] theorem td2 : td Tryd.prog 2 = some ⟨1, 8, false, (some [.int .i64 0]), .int .i64⟩ := by kernel_rfl
@[go_sem] theorem zr3 : zeroRaw Tryd.prog 3 = some (.int .i64 0) := by kernel_rfl
@[go_sem] theorem td3 : td Tryd.prog 3 = some ⟨1, 8, false, (some [.int .i64 0]), .int .i64⟩ := by kernel_rfl
@[go_sem] theorem zr4 : zeroRaw Tryd.prog 4 = some (.bool false) := by kernel_rfl
@[go_sem] theorem td4 : td Tryd.prog 4 = some ⟨1, 1, false, (some [.bool false]), .bool⟩ := by kernel_rfl
@[go_sem] theorem zr5 : zeroRaw Tryd.prog 5 = some (.int .u8 0) := by kernel_rfl
@[go_sem] theorem td5 : td Tryd.prog 5 = some ⟨1, 1, false, (some [.int .u8 0]), .int .u8⟩ := by kernel_rfl
@[go_sem] theorem zr6 : zeroRaw Tryd.prog 6 = some (.int .u8 0) := by kernel_rfl
@[go_sem] theorem td6 : td Tryd.prog 6 = some ⟨1, 1, false, (some [.int .u8 0]), .int .u8⟩ := by kernel_rfl
@[go_sem] theorem zr7 : zeroRaw Tryd.prog 7 = some (.agg #[.int .i64 0, .int .i64 0, .bool false, .int .u8 0]) := by kernel_rfl
@[go_sem] theorem td7 : td Tryd.prog 7 = some ⟨4, 24, true, (some [.int .i64 0, .int .i64 0, .bool false, .int .u8 0]), .struct [(0, 2), (1, 3), (2, 4), (3, 6)]⟩ := by kernel_rfl
@[go_sem] theorem zr8 : zeroRaw Tryd.prog 8 = some (.agg #[.int .i64 0, .int .i64 0, .bool false, .int .u8 0]) := by kernel_rfl
@[go_sem] theorem td8 : td Tryd.prog 8 = some ⟨4, 24, true, (some [.int .i64 0, .int .i64 0, .bool false, .int .u8 0]), .struct [(0, 2), (1, 3), (2, 4), (3, 6)]⟩ := by kernel_rfl
@[go_sem] theorem zr9 : zeroRaw Tryd.prog 9 = some (.string ⟨#[]⟩) := by kernel_rfl
@[go_sem] theorem td9 : td Tryd.prog 9 = some ⟨1, 16, false, (some [.string ⟨#[]⟩]), .str⟩ := by kernel_rfl
@[go_sem] theorem zr10 : zeroRaw Tryd.prog 10 = some (.string ⟨#[]⟩) := by kernel_rfl
@[go_sem] theorem td10 : td Tryd.prog 10 = some ⟨1, 16, false, (some [.string ⟨#[]⟩]), .str⟩ := by kernel_rfl
@[go_sem] theorem zr11 : zeroRaw Tryd.prog 11 = some (.string ⟨#[]⟩) := by kernel_rfl
@[go_sem] theorem td11 : td Tryd.prog 11 = some ⟨1, 16, false, (some [.string ⟨#[]⟩]), .str⟩ := by kernel_rfl
@[go_sem] theorem zr12 : zeroRaw Tryd.prog 12 = some (.int .u64 0) := by kernel_rfl
@[go_sem] theorem td12 : td Tryd.prog 12 = some ⟨1, 8, false, (some [.int .u64 0]), .int .u64⟩ := by kernel_rfl
@[go_sem] theorem zr13 : zeroRaw Tryd.prog 13 = some (.agg #[.string ⟨#[]⟩, .int .u64 0]) := by kernel_rfl
@[go_sem] theorem td13 : td Tryd.prog 13 = some ⟨2, 24, true, (some [.string ⟨#[]⟩, .int .u64 0]), .struct [(0, 9), (1, 12)]⟩ := by kernel_rfl
@[go_sem] theorem zr14 : zeroRaw Tryd.prog 14 = some (.agg #[.string ⟨#[]⟩, .int .u64 0]) := by kernel_rfl
@[go_sem] theorem td14 : td Tryd.prog 14 = some ⟨2, 24, true, (some [.string ⟨#[]⟩, .int .u64 0]), .struct [(0, 9), (1, 12)]⟩ := by kernel_rfl
@[go_sem] theorem zr15 : zeroRaw Tryd.prog 15 = some (.pointer none) := by kernel_rfl
@[go_sem] theorem td15 : td Tryd.prog 15 = some ⟨1, 8, false, (some [.pointer none]), .other⟩ := by kernel_rfl
@[go_sem] theorem zr16 : zeroRaw Tryd.prog 16 = some (.pointer none) := by kernel_rfl
@[go_sem] theorem td16 : td Tryd.prog 16 = some ⟨1, 8, false, (some [.pointer none]), .other⟩ := by kernel_rfl
@[go_sem] theorem zr17 : zeroRaw Tryd.prog 17 = some (.pointer none) := by kernel_rfl
@[go_sem] theorem td17 : td Tryd.prog 17 = some ⟨1, 8, false, (some [.pointer none]), .other⟩ := by kernel_rfl
@[go_sem] theorem zr18 : zeroRaw Tryd.prog 18 = some (.agg #[.pointer none]) := by kernel_rfl
@[go_sem] theorem td18 : td Tryd.prog 18 = some ⟨1, 8, true, (some [.pointer none]), .struct [(0, 17)]⟩ := by kernel_rfl
@[go_sem] theorem zr19 : zeroRaw Tryd.prog 19 = some (.agg #[.pointer none]) := by kernel_rfl
@[go_sem] theorem td19 : td Tryd.prog 19 = some ⟨1, 8, true, (some [.pointer none]), .struct [(0, 17)]⟩ := by kernel_rfl
@[go_sem] theorem zr21 : zeroRaw Tryd.prog 21 = some (.int .i32 0) := by kernel_rfl
@[go_sem] theorem td21 : td Tryd.prog 21 = some ⟨1, 4, false, (some [.int .i32 0]), .int .i32⟩ := by kernel_rfl
@[go_sem] theorem zr22 : zeroRaw Tryd.prog 22 = some (.slice none 0 0) := by kernel_rfl
@[go_sem] theorem td22 : td Tryd.prog 22 = some ⟨1, 24, false, (some [.slice none 0 0]), .slice 3⟩ := by kernel_rfl
@[go_sem] theorem zr23 : zeroRaw Tryd.prog 23 = some (.nilFunc) := by kernel_rfl
@[go_sem] theorem td23 : td Tryd.prog 23 = some ⟨1, 8, false, (some [.nilFunc]), .other⟩ := by kernel_rfl
@[go_sem] theorem zr24 : zeroRaw Tryd.prog 24 = some (.nilFunc) := by kernel_rfl
@[go_sem] theorem td24 : td Tryd.prog 24 = some ⟨1, 8, false, (some [.nilFunc]), .other⟩ := by kernel_rfl
@[go_sem] theorem zr25 : zeroRaw Tryd.prog 25 = some (.pointer none) := by kernel_rfl
@[go_sem] theorem td25 : td Tryd.prog 25 = some ⟨1, 8, false, (some [.pointer none]), .other⟩ := by kernel_rfl
@[go_sem] theorem zr26 : zeroRaw Tryd.prog 26 = some (.nilFunc) := by kernel_rfl
@[go_sem] theorem td26 : td Tryd.prog 26 = some ⟨1, 8, false, (some [.nilFunc]), .other⟩ := by kernel_rfl
@[go_sem] theorem zr27 : zeroRaw Tryd.prog 27 = some (.slice none 0 0) := by kernel_rfl
@[go_sem] theorem td27 : td Tryd.prog 27 = some ⟨1, 24, false, (some [.slice none 0 0]), .slice 67⟩ := by kernel_rfl
@[go_sem] theorem zr28 : zeroRaw Tryd.prog 28 = some (.slice none 0 0) := by kernel_rfl
@[go_sem] theorem td28 : td Tryd.prog 28 = some ⟨1, 24, false, (some [.slice none 0 0]), .slice 41⟩ := by kernel_rfl
@[go_sem] theorem zr29 : zeroRaw Tryd.prog 29 = some (.agg #[.slice none 0 0, .slice none 0 0]) := by kernel_rfl
@[go_sem] theorem td29 : td Tryd.prog 29 = some ⟨2, 48, true, (some [.slice none 0 0, .slice none 0 0]), .struct [(0, 27), (1, 28)]⟩ := by kernel_rfl
@[go_sem] theorem zr30 : zeroRaw Tryd.prog 30 = some (.agg #[.slice none 0 0, .slice none 0 0]) := by kernel_rfl
@[go_sem] theorem td30 : td Tryd.prog 30 = some ⟨2, 48, true, (some [.slice none 0 0, .slice none 0 0]), .struct [(0, 27), (1, 28)]⟩ := by kernel_rfl
@[go_sem] theorem zr32 : zeroRaw Tryd.prog 32 = some (.nilFunc) := by kernel_rfl
@[go_sem] theorem td32 : td Tryd.prog 32 = some ⟨1, 8, false, (some [.nilFunc]), .other⟩ := by kernel_rfl
@[go_sem] theorem zr33 : zeroRaw Tryd.prog 33 = some (.nilFunc) := by kernel_rfl
@[go_sem] theorem td33 : td Tryd.prog 33 = some ⟨1, 8, false, (some [.nilFunc]), .other⟩ := by kernel_rfl
@[go_sem] theorem zr34 : zeroRaw Tryd.prog 34 = some (.int .i64 0) := by kernel_rfl
@[go_sem] theorem td34 : td Tryd.prog 34 = some ⟨1, 8, false, (some [.int .i64 0]), .int .i64⟩ := by kernel_rfl
@[go_sem] theorem zr36 : zeroRaw Tryd.prog 36 = some (.nilFunc) := by kernel_rfl
@[go_sem] theorem td36 : td Tryd.prog 36 = some ⟨1, 8, false, (some [.nilFunc]), .other⟩ := by kernel_rfl
@[go_sem] theorem zr38 : zeroRaw Tryd.prog 38 = some (.nilFunc) := by kernel_rfl
@[go_sem] theorem td38 : td Tryd.prog 38 = some ⟨1, 8, false, (some [.nilFunc]), .other⟩ := by kernel_rfl
@[go_sem] theorem zr39 : zeroRaw Tryd.prog 39 = some (.nilFunc) := by kernel_rfl
@[go_sem] theorem td39 : td Tryd.prog 39 = some ⟨1, 8, false, (some [.nilFunc]), .other⟩ := by kernel_rfl
@[go_sem] theorem zr40 : zeroRaw Tryd.prog 40 = some (.agg #[.string ⟨#[]⟩, .int .i64 0, .int .i64 0, .int .i64 0, .int .i64 0]) := by kernel_rfl
@[go_sem] theorem td40 : td Tryd.prog 40 = some ⟨5, 48, true, (some [.string ⟨#[]⟩, .int .i64 0, .int .i64 0, .int .i64 0, .int .i64 0]), .struct [(0, 9), (1, 3), (2, 3), (3, 3), (4, 3)]⟩ := by kernel_rfl
@[go_sem] theorem zr41 : zeroRaw Tryd.prog 41 = some (.agg #[.string ⟨#[]⟩, .int .i64 0, .int .i64 0, .int .i64 0, .int .i64 0]) := by kernel_rfl
@[go_sem] theorem td41 : td Tryd.prog 41 = some ⟨5, 48, true, (some [.string ⟨#[]⟩, .int .i64 0, .int .i64 0, .int .i64 0, .int .i64 0]), .struct [(0, 9), (1, 3), (2, 3), (3, 3), (4, 3)]⟩ := by kernel_rfl
@[go_sem] theorem zr42 : zeroRaw Tryd.prog 42 = some (.slice none 0 0) := by kernel_rfl
@[go_sem] theorem td42 : td Tryd.prog 42 = some ⟨1, 24, false, (some [.slice none 0 0]), .slice 54⟩ := by kernel_rfl
@[go_sem] theorem zr43 : zeroRaw Tryd.prog 43 = some (.agg #[.int .i64 0, .int .i64 0]) := by kernel_rfl
@[go_sem] theorem td43 : td Tryd.prog 43 = some ⟨2, 16, true, (some [.int .i64 0, .int .i64 0]), .struct [(0, 3), (1, 3)]⟩ := by kernel_rfl
@[go_sem] theorem zr44 : zeroRaw Tryd.prog 44 = some (.agg #[.int .i64 0, .int .i64 0]) := by kernel_rfl
@[go_sem] theorem td44 : td Tryd.prog 44 = some ⟨2, 16, true, (some [.int .i64 0, .int .i64 0]), .struct [(0, 3), (1, 3)]⟩ := by kernel_rfl
@[go_sem] theorem zr45 : zeroRaw Tryd.prog 45 = some (.agg #[.int .i64 0, .int .i64 0, .int .i64 0, .int .i64 0, .slice none 0 0, .int .i64 0, .slice none 0 0, .string ⟨#[]⟩, .string ⟨#[]⟩, .int .i64 0, .int .i64 0, .slice none 0 0]) := by kernel_rfl
@[go_sem] theorem td45 : td Tryd.prog 45 = some ⟨12, 160, true, (some [.int .i64 0, .int .i64 0, .int .i64 0, .int .i64 0, .slice none 0 0, .int .i64 0, .slice none 0 0, .string ⟨#[]⟩, .string ⟨#[]⟩, .int .i64 0, .int .i64 0, .slice none 0 0]), .struct [(0, 3), (1, 3), (2, 3), (3, 3), (4, 22), (5, 3), (6, 42), (7, 9), (8, 9), (9, 44), (11, 22)]⟩ := by kernel_rfl
@[go_sem] theorem zr46 : zeroRaw Tryd.prog 46 = some (.agg #[.int .i64 0, .int .i64 0, .int .i64 0, .int .i64 0, .slice none 0 0, .int .i64 0, .slice none 0 0, .string ⟨#[]⟩, .string ⟨#[]⟩, .int .i64 0, .int .i64 0, .slice none 0 0]) := by kernel_rfl
@[go_sem] theorem td46 : td Tryd.prog 46 = some ⟨12, 160, true, (some [.int .i64 0, .int .i64 0, .int .i64 0, .int .i64 0, .slice none 0 0, .int .i64 0, .slice none 0 0, .string ⟨#[]⟩, .string ⟨#[]⟩, .int .i64 0, .int .i64 0, .slice none 0 0]), .struct [(0, 3), (1, 3), (2, 3), (3, 3), (4, 22), (5, 3), (6, 42), (7, 9), (8, 9), (9, 44), (11, 22)]⟩ := by kernel_rfl
@[go_sem] theorem zr47 : zeroRaw Tryd.prog 47 = some (.nilFunc) := by kernel_rfl
@[go_sem] theorem td47 : td Tryd.prog 47 = some ⟨1, 8, false, (some [.nilFunc]), .other⟩ := by kernel_rfl
@[go_sem] theorem zr48 : zeroRaw Tryd.prog 48 = some (.nilFunc) := by kernel_rfl
@[go_sem] theorem td48 : td Tryd.prog 48 = some ⟨1, 8, false, (some [.nilFunc]), .other⟩ := by kernel_rfl
@[go_sem] theorem zr50 : zeroRaw Tryd.prog 50 = some (.nilFunc) := by kernel_rfl
@[go_sem] theorem td50 : td Tryd.prog 50 = some ⟨1, 8, false, (some [.nilFunc]), .other⟩ := by kernel_rfl
@[go_sem] theorem zr51 : zeroRaw Tryd.prog 51 = some (.slice none 0 0) := by kernel_rfl
@[go_sem] theorem td51 : td Tryd.prog 51 = some ⟨1, 24, false, (some [.slice none 0 0]), .slice 46⟩ := by kernel_rfl
@[go_sem] theorem zr52 : zeroRaw Tryd.prog 52 = some (.nilFunc) := by kernel_rfl
@[go_sem] theorem td52 : td Tryd.prog 52 = some ⟨1, 8, false, (some [.nilFunc]), .other⟩ := by kernel_rfl
@[go_sem] theorem zr53 : zeroRaw Tryd.prog 53 = some (.agg #[.int .i64 0, .int .i64 0, .int .i64 0]) := by kernel_rfl
@[go_sem] theorem td53 : td Tryd.prog 53 = some ⟨3, 24, true, (some [.int .i64 0, .int .i64 0, .int .i64 0]), .struct [(0, 3), (1, 3), (2, 3)]⟩ := by kernel_rfl
@[go_sem] theorem zr54 : zeroRaw Tryd.prog 54 = some (.agg #[.int .i64 0, .int .i64 0, .int .i64 0]) := by kernel_rfl
@[go_sem] theorem td54 : td Tryd.prog 54 = some ⟨3, 24, true, (some [.int .i64 0, .int .i64 0, .int .i64 0]), .struct [(0, 3), (1, 3), (2, 3)]⟩ := by kernel_rfl
@[go_sem] theorem zr55 : zeroRaw Tryd.prog 55 = some (.nilFunc) := by kernel_rfl
@[go_sem] theorem td55 : td Tryd.prog 55 = some ⟨1, 8, false, (some [.nilFunc]), .other⟩ := by kernel_rfl
@[go_sem] theorem zr56 : zeroRaw Tryd.prog 56 = some (.nilFunc) := by kernel_rfl
@[go_sem] theorem td56 : td Tryd.prog 56 = some ⟨1, 8, false, (some [.nilFunc]), .other⟩ := by kernel_rfl
@[go_sem] theorem zr57 : zeroRaw Tryd.prog 57 = some (.nilFunc) := by kernel_rfl
@[go_sem] theorem td57 : td Tryd.prog 57 = some ⟨1, 8, false, (some [.nilFunc]), .other⟩ := by kernel_rfl
@[go_sem] theorem zr58 : zeroRaw Tryd.prog 58 = some (.map none) := by kernel_rfl
@[go_sem] theorem td58 : td Tryd.prog 58 = some ⟨1, 8, false, (some [.map none]), .map 3 4⟩ := by kernel_rfl
@[go_sem] theorem zr59 : zeroRaw Tryd.prog 59 = some (.nilFunc) := by kernel_rfl
@[go_sem] theorem td59 : td Tryd.prog 59 = some ⟨1, 8, false, (some [.nilFunc]), .other⟩ := by kernel_rfl
@[go_sem] theorem zr60 : zeroRaw Tryd.prog 60 = some (.nilFunc) := by kernel_rfl
@[go_sem] theorem td60 : td Tryd.prog 60 = some ⟨1, 8, false, (some [.nilFunc]), .other⟩ := by kernel_rfl
@[go_sem] theorem zr61 : zeroRaw Tryd.prog 61 = some (.nilFunc) := by kernel_rfl
@[go_sem] theorem td61 : td Tryd.prog 61 = some ⟨1, 8, false, (some [.nilFunc]), .other⟩ := by kernel_rfl
@[go_sem] theorem zr62 : zeroRaw Tryd.prog 62 = some (.nilFunc) := by kernel_rfl
@[go_sem] theorem td62 : td Tryd.prog 62 = some ⟨1, 8, false, (some [.nilFunc]), .other⟩ := by kernel_rfl
@[go_sem] theorem zr63 : zeroRaw Tryd.prog 63 = some (.nilFunc) := by kernel_rfl
@[go_sem] theorem td63 : td Tryd.prog 63 = some ⟨1, 8, false, (some [.nilFunc]), .other⟩ := by kernel_rfl
@[go_sem] theorem zr64 : zeroRaw Tryd.prog 64 = some (.nilFunc) := by kernel_rfl
@[go_sem] theorem td64 : td Tryd.prog 64 = some ⟨1, 8, false, (some [.nilFunc]), .other⟩ := by kernel_rfl
@[go_sem] theorem zr65 : zeroRaw Tryd.prog 65 = some (.nilFunc) := by kernel_rfl
@[go_sem] theorem td65 : td Tryd.prog 65 = some ⟨1, 8, false, (some [.nilFunc]), .other⟩ := by kernel_rfl
@[go_sem] theorem zr66 : zeroRaw Tryd.prog 66 = some (.agg #[.string ⟨#[]⟩, .int .i64 0, .int .i64 0]) := by kernel_rfl
@[go_sem] theorem td66 : td Tryd.prog 66 = some ⟨3, 32, true, (some [.string ⟨#[]⟩, .int .i64 0, .int .i64 0]), .struct [(0, 9), (1, 3), (2, 3)]⟩ := by kernel_rfl
@[go_sem] theorem zr67 : zeroRaw Tryd.prog 67 = some (.agg #[.string ⟨#[]⟩, .int .i64 0, .int .i64 0]) := by kernel_rfl
@[go_sem] theorem td67 : td Tryd.prog 67 = some ⟨3, 32, true, (some [.string ⟨#[]⟩, .int .i64 0, .int .i64 0]), .struct [(0, 9), (1, 3), (2, 3)]⟩ := by kernel_rfl
@[go_sem] theorem zr68 : zeroRaw Tryd.prog 68 = some (.nilFunc) := by kernel_rfl
@[go_sem] theorem td68 : td Tryd.prog 68 = some ⟨1, 8, false, (some [.nilFunc]), .other⟩ := by kernel_rfl
@[go_sem] theorem zr69 : zeroRaw Tryd.prog 69 = some (.int .u64 0) := by kernel_rfl
@[go_sem] theorem td69 : td Tryd.prog 69 = some ⟨1, 8, false, (some [.int .u64 0]), .int .u64⟩ := by kernel_rfl
@[go_sem] theorem zr70 : zeroRaw Tryd.prog 70 = some (.agg #[.slice none 0 0, .int .i64 0, .int .u64 0]) := by kernel_rfl
@[go_sem] theorem td70 : td Tryd.prog 70 = some ⟨3, 40, true, (some [.slice none 0 0, .int .i64 0, .int .u64 0]), .struct [(0, 22), (1, 3), (2, 69)]⟩ := by kernel_rfl
@[go_sem] theorem zr71 : zeroRaw Tryd.prog 71 = some (.agg #[.slice none 0 0, .int .i64 0, .int .u64 0]) := by kernel_rfl
@[go_sem] theorem td71 : td Tryd.prog 71 = some ⟨3, 40, true, (some [.slice none 0 0, .int .i64 0, .int .u64 0]), .struct [(0, 22), (1, 3), (2, 69)]⟩ := by kernel_rfl
@[go_sem] theorem zr72 : zeroRaw Tryd.prog 72 = some (.slice none 0 0) := by kernel_rfl
@[go_sem] theorem td72 : td Tryd.prog 72 = some ⟨1, 24, false, (some [.slice none 0 0]), .slice 5⟩ := by kernel_rfl
@[go_sem] theorem zr73 : zeroRaw Tryd.prog 73 = some (.nilFunc) := by kernel_rfl
@[go_sem] theorem td73 : td Tryd.prog 73 = some ⟨1, 8, false, (some [.nilFunc]), .other⟩ := by kernel_rfl
@[go_sem] theorem zr74 : zeroRaw Tryd.prog 74 = some (.nilFunc) := by kernel_rfl
@[go_sem] theorem td74 : td Tryd.prog 74 = some ⟨1, 8, false, (some [.nilFunc]), .other⟩ := by kernel_rfl
@[go_sem] theorem zr75 : zeroRaw Tryd.prog 75 = some (.nilFunc) := by kernel_rfl
@[go_sem] theorem td75 : td Tryd.prog 75 = some ⟨1, 8, false, (some [.nilFunc]), .other⟩ := by kernel_rfl
@[go_sem] theorem zr76 : zeroRaw Tryd.prog 76 = some (.nilFunc) := by kernel_rfl
@[go_sem] theorem td76 : td Tryd.prog 76 = some ⟨1, 8, false, (some [.nilFunc]), .other⟩ := by kernel_rfl
@[go_sem] theorem zr77 : zeroRaw Tryd.prog 77 = some (.slice none 0 0) := by kernel_rfl
@[go_sem] theorem td77 : td Tryd.prog 77 = some ⟨1, 24, false, (some [.slice none 0 0]), .slice 9⟩ := by kernel_rfl
@[go_sem] theorem zr78 : zeroRaw Tryd.prog 78 = some (.nilFunc) := by kernel_rfl
@[go_sem] theorem td78 : td Tryd.prog 78 = some ⟨1, 8, false, (some [.nilFunc]), .other⟩ := by kernel_rfl
@[go_sem] theorem zr79 : zeroRaw Tryd.prog 79 = some (.nilFunc) := by kernel_rfl
@[go_sem] theorem td79 : td Tryd.prog 79 = some ⟨1, 8, false, (some [.nilFunc]), .other⟩ := by kernel_rfl
@[go_sem] theorem zr80 : zeroRaw Tryd.prog 80 = some (.nilFunc) := by kernel_rfl
@[go_sem] theorem td80 : td Tryd.prog 80 = some ⟨1, 8, false, (some [.nilFunc]), .other⟩ := by kernel_rfl
@[go_sem] theorem zr81 : zeroRaw Tryd.prog 81 = some (.nilFunc) := by kernel_rfl
@[go_sem] theorem td81 : td Tryd.prog 81 = some ⟨1, 8, false, (some [.nilFunc]), .other⟩ := by kernel_rfl
@[go_sem] theorem zr82 : zeroRaw Tryd.prog 82 = some (.nilFunc) := by kernel_rfl
@[go_sem] theorem td82 : td Tryd.prog 82 = some ⟨1, 8, false, (some [.nilFunc]), .other⟩ := by kernel_rfl
@[go_sem] theorem zr83 : zeroRaw Tryd.prog 83 = some (.nilFunc) := by kernel_rfl
@[go_sem] theorem td83 : td Tryd.prog 83 = some ⟨1, 8, false, (some [.nilFunc]), .other⟩ := by kernel_rfl
@[go_sem] theorem zr85 : zeroRaw Tryd.prog 85 = some (.nilFunc) := by kernel_rfl
@[go_sem] theorem td85 : td Tryd.prog 85 = some ⟨1, 8, false, (some [.nilFunc]), .other⟩ := by kernel_rfl
@[go_sem] theorem zr86 : zeroRaw Tryd.prog 86 = some (.nilFunc) := by kernel_rfl
@[go_sem] theorem td86 : td Tryd.prog 86 = some ⟨1, 8, false, (some [.nilFunc]), .other⟩ := by kernel_rfl
@[go_sem] theorem zr87 : zeroRaw Tryd.prog 87 = some (.nilFunc) := by kernel_rfl
@[go_sem] theorem td87 : td Tryd.prog 87 = some ⟨1, 8, false, (some [.nilFunc]), .other⟩ := by kernel_rfl
@[go_sem] theorem zr88 : zeroRaw Tryd.prog 88 = some (.agg #[.slice none 0 0, .slice none 0 0, .slice none 0 0, .slice none 0 0, .slice none 0 0, .slice none 0 0, .slice none 0 0, .slice none 0 0]) := by kernel_rfl
@[go_sem] theorem td88 : td Tryd.prog 88 = some ⟨8, 192, true, (some [.slice none 0 0, .slice none 0 0, .slice none 0 0, .slice none 0 0, .slice none 0 0, .slice none 0 0, .slice none 0 0, .slice none 0 0]), .array 8 42⟩ := by kernel_rfl
@[go_sem] theorem zr89 : zeroRaw Tryd.prog 89 = some (.agg #[.slice none 0 0, .slice none 0 0, .slice none 0 0, .slice none 0 0, .slice none 0 0, .slice none 0 0, .slice none 0 0, .slice none 0 0]) := by kernel_rfl
@[go_sem] theorem td89 : td Tryd.prog 89 = some ⟨8, 192, true, (some [.slice none 0 0, .slice none 0 0, .slice none 0 0, .slice none 0 0, .slice none 0 0, .slice none 0 0, .slice none 0 0, .slice none 0 0]), .array 8 42⟩ := by kernel_rfl
@[go_sem] theorem zr90 : zeroRaw Tryd.prog 90 = some (.nilFunc) := by kernel_rfl
@[go_sem] theorem td90 : td Tryd.prog 90 = some ⟨1, 8, false, (some [.nilFunc]), .other⟩ := by kernel_rfl
@[go_sem] theorem zr91 : zeroRaw Tryd.prog 91 = some (.nilFunc) := by kernel_rfl
@[go_sem] theorem td91 : td Tryd.prog 91 = some ⟨1, 8, false, (some [.nilFunc]), .other⟩ := by kernel_rfl
@[go_sem] theorem zr92 : zeroRaw Tryd.prog 92 = some (.int .u64 0) := by kernel_rfl
@[go_sem] theorem td92 : td Tryd.prog 92 = some ⟨1, 8, false, (some [.int .u64 0]), .int .u64⟩ := by kernel_rfl
@[go_sem] theorem zr93 : zeroRaw Tryd.prog 93 = some (.slice none 0 0) := by kernel_rfl
@[go_sem] theorem td93 : td Tryd.prog 93 = some ⟨1, 24, false, (some [.slice none 0 0]), .slice 4⟩ := by kernel_rfl
@[go_sem] theorem zr94 : zeroRaw Tryd.prog 94 = some (.nilFunc) := by kernel_rfl
@[go_sem] theorem td94 : td Tryd.prog 94 = some ⟨1, 8, false, (some [.nilFunc]), .other⟩ := by kernel_rfl
@[go_sem] theorem zr95 : zeroRaw Tryd.prog 95 = some (.nilFunc) := by kernel_rfl
@[go_sem] theorem td95 : td Tryd.prog 95 = some ⟨1, 8, false, (some [.nilFunc]), .other⟩ := by kernel_rfl
@[go_sem] theorem zr96 : zeroRaw Tryd.prog 96 = some (.nilFunc) := by kernel_rfl
@[go_sem] theorem td96 : td Tryd.prog 96 = some ⟨1, 8, false, (some [.nilFunc]), .other⟩ := by kernel_rfl
@[go_sem] theorem zr98 : zeroRaw Tryd.prog 98 = some (.nilFunc) := by kernel_rfl
@[go_sem] theorem td98 : td Tryd.prog 98 = some ⟨1, 8, false, (some [.nilFunc]), .other⟩ := by kernel_rfl
@[go_sem] theorem zr99 : zeroRaw Tryd.prog 99 = some (.nilFunc) := by kernel_rfl
@[go_sem] theorem td99 : td Tryd.prog 99 = some ⟨1, 8, false, (some [.nilFunc]), .other⟩ := by kernel_rfl
@[go_sem] theorem zr100 : zeroRaw Tryd.prog 100 = some (.nilFunc) := by kernel_rfl
@[go_sem] theorem td100 : td Tryd.prog 100 = some ⟨1, 8, false, (some [.nilFunc]), .other⟩ := by kernel_rfl
@[go_sem] theorem zr101 : zeroRaw Tryd.prog 101 = some (.nilFunc) := by kernel_rfl
@[go_sem] theorem td101 : td Tryd.prog 101 = some ⟨1, 8, false, (some [.nilFunc]), .other⟩ := by kernel_rfl
@[go_sem] theorem zr102 : zeroRaw Tryd.prog 102 = some (.nilFunc) := by kernel_rfl
@[go_sem] theorem td102 : td Tryd.prog 102 = some ⟨1, 8, false, (some [.nilFunc]), .other⟩ := by kernel_rfl
@[go_sem] theorem zr103 : zeroRaw Tryd.prog 103 = some (.nilFunc) := by kernel_rfl
@[go_sem] theorem td103 : td Tryd.prog 103 = some ⟨1, 8, false, (some [.nilFunc]), .other⟩ := by kernel_rfl
@[go_sem] theorem zr104 : zeroRaw Tryd.prog 104 = some (.nilFunc) := by kernel_rfl
@[go_sem] theorem td104 : td Tryd.prog 104 = some ⟨1, 8, false, (some [.nilFunc]), .other⟩ := by kernel_rfl
@[go_sem] theorem zr105 : zeroRaw Tryd.prog 105 = some (.nilFunc) := by kernel_rfl
@[go_sem] theorem td105 : td Tryd.prog 105 = some ⟨1, 8, false, (some [.nilFunc]), .other⟩ := by kernel_rfl
@[go_sem] theorem zr106 : zeroRaw Tryd.prog 106 = some (.nilFunc) := by kernel_rfl
@[go_sem] theorem td106 : td Tryd.prog 106 = some ⟨1, 8, false, (some [.nilFunc]), .other⟩ := by kernel_rfl
@[go_sem] theorem zr107 : zeroRaw Tryd.prog 107 = some (.nilFunc) := by kernel_rfl
@[go_sem] theorem td107 : td Tryd.prog 107 = some ⟨1, 8, false, (some [.nilFunc]), .other⟩ := by kernel_rfl
@[go_sem] theorem zr108 : zeroRaw Tryd.prog 108 = some (.nilFunc) := by kernel_rfl
@[go_sem] theorem td108 : td Tryd.prog 108 = some ⟨1, 8, false, (some [.nilFunc]), .other⟩ := by kernel_rfl
@[go_sem] theorem zr109 : zeroRaw Tryd.prog 109 = some (.pointer none) := by kernel_rfl
@[go_sem] theorem td109 : td Tryd.prog 109 = some ⟨1, 8, false, (some [.pointer none]), .other⟩ := by kernel_rfl
@[go_sem] theorem zr110 : zeroRaw Tryd.prog 110 = some (.nilFunc) := by kernel_rfl
@[go_sem] theorem td110 : td Tryd.prog 110 = some ⟨1, 8, false, (some [.nilFunc]), .other⟩ := by kernel_rfl
@[go_sem] theorem zr111 : zeroRaw Tryd.prog 111 = some (.nilFunc) := by kernel_rfl
@[go_sem] theorem td111 : td Tryd.prog 111 = some ⟨1, 8, false, (some [.nilFunc]), .other⟩ := by kernel_rfl
@[go_sem] theorem zr113 : zeroRaw Tryd.prog 113 = some (.nilFunc) := by kernel_rfl
@[go_sem] theorem td113 : td Tryd.prog 113 = some ⟨1, 8, false, (some [.nilFunc]), .other⟩ := by kernel_rfl
@[go_sem] theorem zr114 : zeroRaw Tryd.prog 114 = some (.map none) := by kernel_rfl
@[go_sem] theorem td114 : td Tryd.prog 114 = some ⟨1, 8, false, (some [.map none]), .map 9 4⟩ := by kernel_rfl
@[go_sem] theorem zr115 : zeroRaw Tryd.prog 115 = some (.nilFunc) := by kernel_rfl
@[go_sem] theorem td115 : td Tryd.prog 115 = some ⟨1, 8, false, (some [.nilFunc]), .other⟩ := by kernel_rfl
@[go_sem] theorem zr116 : zeroRaw Tryd.prog 116 = some (.nilFunc) := by kernel_rfl
@[go_sem] theorem td116 : td Tryd.prog 116 = some ⟨1, 8, false, (some [.nilFunc]), .other⟩ := by kernel_rfl
@[go_sem] theorem zr117 : zeroRaw Tryd.prog 117 = some (.nilFunc) := by kernel_rfl
@[go_sem] theorem td117 : td Tryd.prog 117 = some ⟨1, 8, false, (some [.nilFunc]), .other⟩ := by kernel_rfl
@[go_sem] theorem zr118 : zeroRaw Tryd.prog 118 = some (.nilFunc) := by kernel_rfl
@[go_sem] theorem td118 : td Tryd.prog 118 = some ⟨1, 8, false, (some [.nilFunc]), .other⟩ := by kernel_rfl
@[go_sem] theorem zr119 : zeroRaw Tryd.prog 119 = some (.nilFunc) := by kernel_rfl
@[go_sem] theorem td119 : td Tryd.prog 119 = some ⟨1, 8, false, (some [.nilFunc]), .other⟩ := by kernel_rfl
@[go_sem] theorem zr120 : zeroRaw Tryd.prog 120 = some (.nilFunc) := by kernel_rfl
@[go_sem] theorem td120 : td Tryd.prog 120 = some ⟨1, 8, false, (some [.nilFunc]), .other⟩ := by kernel_rfl
@[go_sem] theorem zr121 : zeroRaw Tryd.prog 121 = some (.nilFunc) := by kernel_rfl
@[go_sem] theorem td121 : td Tryd.prog 121 = some ⟨1, 8, false, (some [.nilFunc]), .other⟩ := by kernel_rfl
@[go_sem] theorem zr122 : zeroRaw Tryd.prog 122 = some (.nilFunc) := by kernel_rfl
@[go_sem] theorem td122 : td Tryd.prog 122 = some ⟨1, 8, false, (some [.nilFunc]), .other⟩ := by kernel_rfl
@[go_sem] theorem zr123 : zeroRaw Tryd.prog 123 = some (.nilFunc) := by kernel_rfl
@[go_sem] theorem td123 : td Tryd.prog 123 = some ⟨1, 8, false, (some [.nilFunc]), .other⟩ := by kernel_rfl
@[go_sem] theorem zr124 : zeroRaw Tryd.prog 124 = some (.agg #[.int .u8 0, .int .u8 0, .bool false]) := by kernel_rfl
@[go_sem] theorem td124 : td Tryd.prog 124 = some ⟨3, 3, true, (some [.int .u8 0, .int .u8 0, .bool false]), .struct [(0, 5), (1, 5), (2, 4)]⟩ := by kernel_rfl
@[go_sem] theorem zr125 : zeroRaw Tryd.prog 125 = some (.agg #[.int .u8 0, .int .u8 0, .bool false, .int .u8 0, .int .u8 0, .bool false, .int .u8 0, .int .u8 0, .bool false, .int .u8 0, .int .u8 0, .bool false]) := by kernel_rfl
@[go_sem] theorem td125 : td Tryd.prog 125 = some ⟨12, 12, true, (some [.int .u8 0, .int .u8 0, .bool false, .int .u8 0, .int .u8 0, .bool false, .int .u8 0, .int .u8 0, .bool false, .int .u8 0, .int .u8 0, .bool false]), .array 4 124⟩ := by kernel_rfl
@[go_sem] theorem zr126 : zeroRaw Tryd.prog 126 = some (.nilFunc) := by kernel_rfl
@[go_sem] theorem td126 : td Tryd.prog 126 = some ⟨1, 8, false, (some [.nilFunc]), .other⟩ := by kernel_rfl
@[go_sem] theorem zr127 : zeroRaw Tryd.prog 127 = some (.nilFunc) := by kernel_rfl
@[go_sem] theorem td127 : td Tryd.prog 127 = some ⟨1, 8, false, (some [.nilFunc]), .other⟩ := by kernel_rfl
@[go_sem] theorem zr128 : zeroRaw Tryd.prog 128 = some (.agg #[.pointer none, .pointer none, .pointer none, .string ⟨#[]⟩]) := by kernel_rfl
@[go_sem] theorem td128 : td Tryd.prog 128 = some ⟨4, 40, true, (some [.pointer none, .pointer none, .pointer none, .string ⟨#[]⟩]), .struct [(0, 17), (1, 17), (2, 17), (3, 9)]⟩ := by kernel_rfl
@[go_sem] theorem zr129 : zeroRaw Tryd.prog 129 = some (.agg #[.pointer none, .pointer none, .pointer none, .string ⟨#[]⟩]) := by kernel_rfl
@[go_sem] theorem td129 : td Tryd.prog 129 = some ⟨4, 40, true, (some [.pointer none, .pointer none, .pointer none, .string ⟨#[]⟩]), .struct [(0, 17), (1, 17), (2, 17), (3, 9)]⟩ := by kernel_rfl
@[go_sem] theorem zr130 : zeroRaw Tryd.prog 130 = some (.agg #[]) := by kernel_rfl
@[go_sem] theorem td130 : td Tryd.prog 130 = some ⟨0, 0, true, (some []), .array 0 16⟩ := by kernel_rfl
@[go_sem] theorem zr131 : zeroRaw Tryd.prog 131 = some (.agg #[]) := by kernel_rfl
@[go_sem] theorem td131 : td Tryd.prog 131 = some ⟨0, 0, true, (some []), .struct [(0, 130)]⟩ := by kernel_rfl
@[go_sem] theorem zr132 : zeroRaw Tryd.prog 132 = some (.agg #[]) := by kernel_rfl
@[go_sem] theorem td132 : td Tryd.prog 132 = some ⟨0, 0, true, (some []), .struct [(0, 130)]⟩ := by kernel_rfl
@[go_sem] theorem zr133 : zeroRaw Tryd.prog 133 = some (.nilFunc) := by kernel_rfl
@[go_sem] theorem td133 : td Tryd.prog 133 = some ⟨1, 8, false, (some [.nilFunc]), .other⟩ := by kernel_rfl
@[go_sem] theorem zr134 : zeroRaw Tryd.prog 134 = some (.int .u32 0) := by kernel_rfl
@[go_sem] theorem td134 : td Tryd.prog 134 = some ⟨1, 4, false, (some [.int .u32 0]), .int .u32⟩ := by kernel_rfl
@[go_sem] theorem zr135 : zeroRaw Tryd.prog 135 = some (.int .u8 0) := by kernel_rfl
@[go_sem] theorem td135 : td Tryd.prog 135 = some ⟨1, 1, false, (some [.int .u8 0]), .int .u8⟩ := by kernel_rfl
@[go_sem] theorem zr136 : zeroRaw Tryd.prog 136 = some (.int .u8 0) := by kernel_rfl
@[go_sem] theorem td136 : td Tryd.prog 136 = some ⟨1, 1, false, (some [.int .u8 0]), .int .u8⟩ := by kernel_rfl
@[go_sem] theorem zr137 : zeroRaw Tryd.prog 137 = some (.nilFunc) := by kernel_rfl
@[go_sem] theorem td137 : td Tryd.prog 137 = some ⟨1, 8, false, (some [.nilFunc]), .other⟩ := by kernel_rfl
@[go_sem] theorem zr138 : zeroRaw Tryd.prog 138 = some (.pointer none) := by kernel_rfl
@[go_sem] theorem td138 : td Tryd.prog 138 = some ⟨1, 8, false, (some [.pointer none]), .other⟩ := by kernel_rfl
@[go_sem] theorem zr139 : zeroRaw Tryd.prog 139 = some (.int .i32 0) := by kernel_rfl
@[go_sem] theorem td139 : td Tryd.prog 139 = some ⟨1, 4, false, (some [.int .i32 0]), .int .i32⟩ := by kernel_rfl
@[go_sem] theorem zr140 : zeroRaw Tryd.prog 140 = some (.int .i32 0) := by kernel_rfl
@[go_sem] theorem td140 : td Tryd.prog 140 = some ⟨1, 4, false, (some [.int .i32 0]), .int .i32⟩ := by kernel_rfl
@[go_sem] theorem zr141 : zeroRaw Tryd.prog 141 = some (.agg #[.int .u64 0, .int .u64 0, .int .u32 0, .int .u8 0, .int .u8 0, .int .u8 0, .int .u8 0, .nilFunc, .pointer none, .int .i32 0, .int .i32 0]) := by kernel_rfl
@[go_sem] theorem td141 : td Tryd.prog 141 = some ⟨11, 48, true, (some [.int .u64 0, .int .u64 0, .int .u32 0, .int .u8 0, .int .u8 0, .int .u8 0, .int .u8 0, .nilFunc, .pointer none, .int .i32 0, .int .i32 0]), .struct [(0, 12), (1, 12), (2, 134), (3, 135), (4, 5), (5, 5), (6, 136), (7, 137), (8, 138), (9, 139), (10, 140)]⟩ := by kernel_rfl
@[go_sem] theorem zr142 : zeroRaw Tryd.prog 142 = some (.agg #[.int .u64 0, .int .u64 0, .int .u32 0, .int .u8 0, .int .u8 0, .int .u8 0, .int .u8 0, .nilFunc, .pointer none, .int .i32 0, .int .i32 0]) := by kernel_rfl
@[go_sem] theorem td142 : td Tryd.prog 142 = some ⟨11, 48, true, (some [.int .u64 0, .int .u64 0, .int .u32 0, .int .u8 0, .int .u8 0, .int .u8 0, .int .u8 0, .nilFunc, .pointer none, .int .i32 0, .int .i32 0]), .struct [(0, 12), (1, 12), (2, 134), (3, 135), (4, 5), (5, 5), (6, 136), (7, 137), (8, 138), (9, 139), (10, 140)]⟩ := by kernel_rfl
@[go_sem] theorem zr143 : zeroRaw Tryd.prog 143 = some (.pointer none) := by kernel_rfl
@[go_sem] theorem td143 : td Tryd.prog 143 = some ⟨1, 8, false, (some [.pointer none]), .other⟩ := by kernel_rfl
@[go_sem] theorem eqf7 : eqFlat Tryd.prog 7 = some [(0, 2), (1, 3), (2, 4), (3, 6)] := by kernel_rfl
@[go_sem] theorem eqf8 : eqFlat Tryd.prog 8 = some [(0, 2), (1, 3), (2, 4), (3, 6)] := by kernel_rfl
@[go_sem] theorem eqf40 : eqFlat Tryd.prog 40 = some [(0, 9), (1, 3), (2, 3), (3, 3), (4, 3)] := by kernel_rfl
@[go_sem] theorem eqf41 : eqFlat Tryd.prog 41 = some [(0, 9), (1, 3), (2, 3), (3, 3), (4, 3)] := by kernel_rfl
@[go_sem] theorem eqf43 : eqFlat Tryd.prog 43 = some [(0, 3), (1, 3)] := by kernel_rfl
@[go_sem] theorem eqf44 : eqFlat Tryd.prog 44 = some [(0, 3), (1, 3)] := by kernel_rfl
@[go_sem] theorem eqf53 : eqFlat Tryd.prog 53 = some [(0, 3), (1, 3), (2, 3)] := by kernel_rfl
@[go_sem] theorem eqf54 : eqFlat Tryd.prog 54 = some [(0, 3), (1, 3), (2, 3)] := by kernel_rfl
@[go_sem] theorem eqf66 : eqFlat Tryd.prog 66 = some [(0, 9), (1, 3), (2, 3)] := by kernel_rfl
@[go_sem] theorem eqf67 : eqFlat Tryd.prog 67 = some [(0, 9), (1, 3), (2, 3)] := by kernel_rfl
@[go_sem] theorem eqf124 : eqFlat Tryd.prog 124 = some [(0, 5), (1, 5), (2, 4)] := by kernel_rfl
end Go.Proofs.YtfkiomkfoabnhaaDoor.Abs
