/- The example of chapter 28. -/
import Derived.Test.YtmfgaefefgnhbaaGreatDoorQL
import Derived.Test.YtmfgaefefgnhbaaGreatDoorGX
namespace Go.Proofs.YtmfgaefefgnhbaaGreatDoor.Abs
set_option linter.unusedSimpArgs false
set_option linter.unusedVariables false
set_option maxRecDepth 100000
open Go Go.RowKit

def wNet : Net := ⟨[⟨⟨#[65]⟩, 0, 0⟩], [⟨⟨#[83]⟩, 5, 0, -1, 1⟩]⟩
theorem wNet_ok : wNet.ok := Net.chk_ok.1 (by decide +kernel)
theorem wNet_sized : wNet.sized := wNet_ok.sized
def wReg : List Pers := [⟨⟨#[72, 97, 108]⟩, 1, 8, 0, 90⟩, ⟨⟨#[73, 100, 97]⟩, 1, 4, 0, 90⟩]
def wOff : Off := ⟨1, 70, 0, [⟨0, 0, 0⟩], [], [], [], [], [], [], [], []⟩
def wDoc : Doc := ⟨5, 1, 1, 0, [0], 2, [], ⟨#[73, 100, 97]⟩, ⟨#[72, 97, 108]⟩, 0, 60, []⟩
theorem wDoc_chk : docChk wNet wDoc = 0 := docChk_of wNet_ok (by decide) (zoneChk_ok wNet_ok (by decide) (by decide)) (by decide) (lockChk_nil wNet_ok) (by decide +kernel) (by decide +kernel)
theorem wReg_chk : regChk wReg = 0 := by decide +kernel
theorem wAll : allChk wNet [] = 0 := by
  unfold allChk
  rw [if_neg (by simp [Net.chk_ok.2 wNet_ok]), if_neg (by simp)]
  exact firstE_none fun j hj => absurd hj (by simp)
theorem wEvid : evidE wNet wOff = 0 := by
  unfold evidE
  rw [if_neg (by decide), if_neg (by decide +kernel), if_neg (by rw [show wOff.locks = [] from rfl, lockChk_nil wNet_ok]; simp), if_neg (by decide), if_neg (by decide)]
theorem wOff_chk : offChk wNet wOff = 0 := by
  unfold offChk
  rw [if_neg (by simp [Net.chk_ok.2 wNet_ok]), if_neg (by decide), if_neg (by simp [wEvid]), if_neg (by decide +kernel), if_neg (by rw [show wOff.docs = [] from rfl, wAll]; simp), if_neg (by decide), if_neg (by decide), if_neg (by decide)]
theorem wEnough : enoughB wNet [0] (gapsOf wNet []) = false := by
  unfold enoughB
  rw [decide_eq_false_iff_not]
  intro h
  exact h 0 _ rfl (.inl rfl) (.base (by simp))
theorem wMiss : missL wNet [0] (countL wNet [] [0]) ≠ [] := by
  have : countL wNet [] [0] = [] := by
    unfold countL
    rw [List.filter_eq_nil_iff]
    intro v _
    have e : earthsOf wNet [] = [] := by decide
    rw [e]
    simp [earthAt]
  rw [this]
  have hp : protB wNet [] (0 : Int).toNat = false := by
    rw [← Bool.not_eq_true, protB, pB_iff]
    rintro ⟨_, u, hu, _⟩
    cases hu
  unfold missL
  simp only [List.filter_cons, List.filter_nil, hp]
  decide
theorem wReas : reasR wNet wReg wOff wDoc = ([3, 6, 7], 0) := by
  rw [reasE_ok wOff_chk wReg_chk wDoc_chk]
  have n1 : noB wNet wReg wOff wDoc 1 = false := by
    show (!canB wReg wDoc.iss 4 wOff.time || foreignB wReg wDoc.iss wOff.comp) = false
    decide +kernel
  have n2 : noB wNet wReg wOff wDoc 2 = false := by
    show (!canB wReg wDoc.hol (skillOf wDoc.kind) wOff.time) = false
    decide +kernel
  have n3 : noB wNet wReg wOff wDoc 3 = true := by
    show decide (wOff.time < wDoc.frm ∨ wDoc.til ≤ wOff.time) = true
    decide
  have n4 : noB wNet wReg wOff wDoc 4 = false := rfl
  have n5 : noB wNet wReg wOff wDoc 5 = false := rfl
  have n6 : noB wNet wReg wOff wDoc 6 = true := by
    show (!enoughB wNet [0] (gapsOf wNet []) && decide (wDoc.kind ≠ 3)) = true
    rw [wEnough]
    decide
  have n7 : noB wNet wReg wOff wDoc 7 = true := by
    show (!(sidesR wNet [] [0]).1 && decide (wDoc.kind = 1)) = true
    have e : lockedE wNet [] [0] = 0 := by
      unfold lockedE
      rw [if_neg (by simp [lockChk_nil wNet_ok])]
      exact zoneChk_ok wNet_ok (by decide) (by decide)
    unfold sidesR
    rw [if_neg (by simp [e]), decide_eq_false wMiss]
    decide
  have n8 : noB wNet wReg wOff wDoc 8 = false := rfl
  have n9 : noB wNet wReg wOff wDoc 9 = false := rfl
  unfold reasL
  rw [show List.range 9 = [0, 1, 2, 3, 4, 5, 6, 7, 8] from rfl]
  simp only [List.filter_cons, List.filter_nil, Nat.zero_add, Nat.reduceAdd, n1, n2, n3, n4, n5, n6, n7, n8, n9]
  rfl
def wOffn : List AV := [.raw (.int .i64 1), .raw (.int .i64 70), .raw (.int .i64 0), .lst 3 [[.raw (.int .i64 0), .raw (.int .i64 0), .raw (.int .i64 0)]], .raw (.slice none 0 0), .raw (.slice none 0 0), .raw (.slice none 0 0), .raw (.slice none 0 0), .raw (.slice none 0 0), .raw (.slice none 0 0), .raw (.slice none 0 0), .raw (.slice none 0 0)]
theorem wOffn_le : VLes wOffn (encOff wOff) := .cons (.refl _) (.cons (.refl _) (.cons (.refl _) (.cons (.refl _) (.cons (.nilLst 3) (.cons (.nilLst 1) (.cons (.nilLst 4) (.cons (.nilLst 4) (.cons (.nilLst 3) (.cons (.nilLst 12) (.cons (.nilLst 5) (.cons (.nilLst 8) .nil)))))))))))
def wDocn : List AV := [.raw (.int .i64 5), .raw (.int .i64 1), .raw (.int .i64 1), .raw (.int .i64 0), .lst 1 [[.raw (.int .i64 0)]], .raw (.int .i64 2), .raw (.slice none 0 0), .raw (.string ⟨#[73, 100, 97]⟩), .raw (.string ⟨#[72, 97, 108]⟩), .raw (.int .i64 0), .raw (.int .i64 60), .raw (.slice none 0 0)]
theorem wDocn_le : VLes wDocn (encDoc wDoc) := .cons (.refl _) (.cons (.refl _) (.cons (.refl _) (.cons (.refl _) (.cons (.refl _) (.cons (.refl _) (.cons (.nilLst 3) (.cons (.refl _) (.cons (.refl _) (.cons (.refl _) (.cons (.refl _) (.cons (.nilLst 1) .nil)))))))))))
theorem wOff_sized : wOff.sized := ⟨by decide, fun b hb => (by rw [List.mem_singleton.1 hb]; decide), by decide, by decide, by decide, by decide, by decide, by decide, by decide, by decide, fun r hr => (by cases hr), fun r hr => (by cases hr), fun r hr => (by cases hr), fun r hr => (by cases hr), fun r hr => (by cases hr)⟩
theorem wDoc_sized : wDoc.sized := ⟨by decide, by decide, by decide, by decide, by decide⟩
theorem wReg_sized : ∀ p, p ∈ wReg → p.sized := fun p hp => by
  rcases List.mem_cons.1 hp with rfl | hp
  · exact ⟨by decide, by decide⟩
  · rw [List.mem_singleton.1 hp]; exact ⟨by decide, by decide⟩
set_option maxHeartbeats 8000000 in
theorem awake28 : Fn1 Tryz.prog GT0 4 [] (.raw (.bool true)) [] := by
  have c1 := Holds.args (condReasons wNet wNet_sized wReg (by decide) wReg_sized wOff wOff_sized wDoc wDoc_sized) (args := [.agg (encNet wNet), .agg (encReg wReg), .agg wOffn, .agg wDocn]) (.cons (.refl _) (.cons (.refl _) (.cons (.agg wOffn_le) (.cons (.agg wDocn_le) .nil))))
  have c2 := Holds.args (condCheck wNet wNet_sized wOff wOff_sized) (args := [.agg (encNet wNet), .agg wOffn]) (.cons (.refl _) (.cons (.agg wOffn_le) .nil))
  rw [wReas] at c1
  rw [wOff_chk] at c2
  simp only [encNet, wNet, encReg, wReg, wOffn, wDocn, List.map_cons, List.map_nil, encN, encNd, encDv, encPers] at c1 c2
  refine holds_of Tryz.func4 rfl rfl ?_
  refine J_run 200 ?_
  delta Tryz.f4
  repeat' (first
    | (simp (maxSteps := 1000000) (disch := omega) only [go_sem])
    | ((with_reducible refine CallA.give [0,1,3,5,7] ?_ ?_ c1 ?_); (· simp (disch := omega) only [go_sem]); (· simp (disch := omega) only [go_sem]); rintro _ _ ⟨rfl, rfl⟩)
    | ((with_reducible refine CallA.pure c2 ?_ ?_); (· simp (disch := omega) only [go_sem]); rintro _ _ ⟨rfl, rfl⟩)
    | ((with_reducible first | refine gDt ?_ ?_ | refine gDf ?_ ?_ | refine gNt ?_ ?_ | refine gNf ?_ ?_ | refine cD ?_ ?_ | refine cN ?_ ?_ | refine cB ?_ ?_ | refine gB ?_ ?_) <;> intro h)
    | with_reducible first | refine And.intro ?_ ?_ | refine J_seq ?_ | refine J_block ?_ | refine J_inBlock ?_ | refine rC ?_ | refine rR ?_ | refine rE ?_ | refine rG ?_ | refine FinQ.now ?_ | refine FinQ.end ?_)
end Go.Proofs.YtmfgaefefgnhbaaGreatDoor.Abs
