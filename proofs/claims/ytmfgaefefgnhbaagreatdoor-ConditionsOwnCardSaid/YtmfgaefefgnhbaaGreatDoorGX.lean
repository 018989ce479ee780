/- The example of chapter 27. -/
import Derived.Test.YtmfgaefefgnhbaaGreatDoorGC
import Derived.Test.YtmfgaefefgnhbaaGreatDoorAbsU
namespace Go.Proofs.YtmfgaefefgnhbaaGreatDoor.Abs
set_option linter.unusedSimpArgs false
set_option linter.unusedVariables false
set_option maxRecDepth 100000
open Go Go.RowKit

theorem VLe.lst {k : Nat} {xs ys : List (List AV)} (hl : xs.length = ys.length) (h : ∀ (i : Nat) (y : List AV), ys[i]? = some y → ∃ x, xs[i]? = some x ∧ VLes x y) : VLe (.lst k xs) (.lst k ys) := fun I w p v hc => by
  cases hc with
  | @lst _ _ _ A c m f hn hcc hm hk hx h1 h2 =>
    refine .lst (f := f) (by rw [hn, hl]) hcc hm (fun y hy => ?_) ?_ (fun i j hi hj => h1 i j (by omega) hj) fun i j y a e e' => ?_
    · obtain ⟨i, hi, rfl⟩ := List.getElem_of_mem hy
      obtain ⟨x, hx', hv⟩ := h i ys[i] (List.getElem?_eq_getElem hi)
      rw [← hv.get.1]
      exact hk x (List.mem_of_getElem? hx')
    · rcases hx with rfl | ⟨b, off, g1, g2, g3⟩
      · left; exact List.length_eq_zero_iff.1 hl.symm
      · exact .inr ⟨b, off, g1, g2, fun i j hi hj => g3 i j (by omega) hj⟩
    · obtain ⟨x, hx', hv⟩ := h i y e
      obtain ⟨b, hb, hba⟩ := hv.get.2 j a e'
      exact hba _ _ _ _ (h2 i j x b hx' hb)
def oNet : Net := ⟨[⟨⟨#[65]⟩, 0, 0⟩], []⟩
theorem oNet_ok : oNet.ok := Net.chk_ok.1 (by decide +kernel)
theorem oNet_sized : oNet.sized := oNet_ok.sized
def oD : Doc := ⟨5, 1, 2, 1, [0], 2, [], ⟨#[73, 100, 97]⟩, ⟨#[72, 97, 108]⟩, 0, 60, []⟩
def oT : Doc := ⟨6, 2, 2, 1, [0], 2, [], ⟨#[73, 100, 97]⟩, ⟨#[72, 97, 108]⟩, 0, 60, []⟩
theorem lockChk_nil {n : Net} (hn : n.ok) : lockChk n [] = 0 := by
  unfold lockChk
  rw [if_neg (by simp [Net.chk_ok.2 hn]), if_neg (by simp)]
  exact firstE_none fun j hj => absurd hj (by simp)
theorem docChk_of {n : Net} {x : Doc} (h1 : n.ok) (h2 : headE x = 0) (h3 : zoneChk n x.zone = 0) (h4 : 1 ≤ x.safe ∧ x.safe ≤ 16) (h5 : lockChk n x.locks = 0) (h6 : peopleE x = 0) (h7 : certChk x.certs = 0) : docChk n x = 0 := by
  unfold docChk
  rw [if_neg (by simp [Net.chk_ok.2 h1]), if_neg (by simp [h2]), if_neg (by simp [h3]), if_neg (by omega), if_neg (by simp [h5]), if_neg (by simp [h6]), h7]
theorem oD_chk : docChk oNet oD = 0 := docChk_of oNet_ok (by decide) (zoneChk_ok oNet_ok (by decide) (by decide)) (by decide) (lockChk_nil oNet_ok) (by decide +kernel) (by decide +kernel)
theorem oT_chk : docChk oNet oT = 0 := docChk_of oNet_ok (by decide) (zoneChk_ok oNet_ok (by decide) (by decide)) (by decide) (lockChk_nil oNet_ok) (by decide +kernel) (by decide +kernel)
theorem o_meet : meetB oNet oD oT = true := by
  have key : ∀ x : Doc, x.zone = [0] → (0 : Int) ∈ regD oNet x := fun x hx => by
    unfold regD
    rw [hx]
    exact (regL_mem oNet_ok (by decide)).2 ⟨by decide, .base (by simp)⟩
  unfold meetB
  exact List.any_eq_true.2 ⟨0, key oD rfl, decide_eq_true (key oT rfl)⟩
theorem oDT : exclR oNet oD oT = (true, 0) := by rw [exclR_ok oD_chk oT_chk, o_meet]; rfl
theorem oDD : exclR oNet oD oD = (false, 0) := by
  rw [exclR_ok oD_chk oD_chk]
  have : testB oD oD = false := by decide
  rw [this, Bool.and_false]
theorem oAll : allChk oNet [oD] = 0 := by
  unfold allChk
  rw [if_neg (by simp [Net.chk_ok.2 oNet_ok]), if_neg (by simp)]
  refine firstE_none fun j hj => ?_
  have hj0 : j = 0 := by simp at hj; omega
  subst hj0
  unfold aErr
  rw [getD_get (by simp), if_neg (by simp [oD_chk]), if_neg (by omega)]
theorem oC : clashR oNet [oD] oT = ([5], 0) := by
  rw [clashE_ok oAll oT_chk]
  have : clashB oNet oT oD = true := by
    unfold clashB
    rw [meetB_comm, o_meet, testB_comm]
    decide
  unfold clashL
  rw [List.filter_cons, this]
  rfl
def oDn : List AV := [.raw (.int .i64 5), .raw (.int .i64 1), .raw (.int .i64 2), .raw (.int .i64 1), .lst 1 [[.raw (.int .i64 0)]], .raw (.int .i64 2), .raw (.slice none 0 0), .raw (.string ⟨#[73, 100, 97]⟩), .raw (.string ⟨#[72, 97, 108]⟩), .raw (.int .i64 0), .raw (.int .i64 60), .raw (.slice none 0 0)]
def oTn : List AV := [.raw (.int .i64 6), .raw (.int .i64 2), .raw (.int .i64 2), .raw (.int .i64 1), .lst 1 [[.raw (.int .i64 0)]], .raw (.int .i64 2), .raw (.slice none 0 0), .raw (.string ⟨#[73, 100, 97]⟩), .raw (.string ⟨#[72, 97, 108]⟩), .raw (.int .i64 0), .raw (.int .i64 60), .raw (.slice none 0 0)]
theorem oDn_le : VLes oDn (encDoc oD) := .cons (.refl _) (.cons (.refl _) (.cons (.refl _) (.cons (.refl _) (.cons (.refl _) (.cons (.refl _) (.cons (.nilLst 3) (.cons (.refl _) (.cons (.refl _) (.cons (.refl _) (.cons (.refl _) (.cons (.nilLst 1) .nil)))))))))))
theorem oTn_le : VLes oTn (encDoc oT) := .cons (.refl _) (.cons (.refl _) (.cons (.refl _) (.cons (.refl _) (.cons (.refl _) (.cons (.refl _) (.cons (.nilLst 3) (.cons (.refl _) (.cons (.refl _) (.cons (.refl _) (.cons (.refl _) (.cons (.nilLst 1) .nil)))))))))))
def oNn : List AV := [.lst 3 [[.raw (.string ⟨#[65]⟩), .raw (.int .i64 0), .raw (.int .i64 0)]], .raw (.slice none 0 0)]
theorem oNn_le : VLes oNn (encNet oNet) := .cons (.refl _) (.cons (.nilLst 5) .nil)
theorem oD_sized : oD.sized := ⟨by decide, by decide, by decide, by decide, by decide⟩
theorem oT_sized : oT.sized := ⟨by decide, by decide, by decide, by decide, by decide⟩
end Go.Proofs.YtmfgaefefgnhbaaGreatDoor.Abs
