/- References: positions of all devices; states that agree with masks. -/
import Derived.Test.YtmfgaefefgnhbaaGreatDoorR1
import Derived.Test.YtmfgaefefgnhbaaGreatDoorZ2
namespace Go.Proofs.YtmfgaefefgnhbaaGreatDoor.Abs
set_option linter.unusedSimpArgs false
set_option linter.unusedVariables false
set_option maxRecDepth 100000
open Go Go.RowKit

def pErr (l : List Int) (most : Int) (i : Nat) : Int := if l.getD i 0 < 1 ∨ most < l.getD i 0 then 10 else 0
def posChk (n : Net) (l : List Int) (most : Int) : Int := if n.chk ≠ 0 then n.chk else if l.length ≠ n.devs.length then 9 else firstE (pErr l most) l.length
theorem posChk_ok {n : Net} (hn : n.ok) {l : List Int} {most : Int} (hl : l.length = n.devs.length) (h : ∀ x, x ∈ l → 1 ≤ x ∧ x ≤ most) : posChk n l most = 0 := by
  unfold posChk
  rw [if_neg (by simp [Net.chk_ok.2 hn]), if_neg (by simp [hl])]
  refine firstE_none fun i hi => ?_
  have := h _ (List.getElem_mem hi)
  unfold pErr
  rw [getD_get hi, if_neg (by omega)]
/-- A state within masks, so far. -/
def WithinTo (m s : List Int) : Prop := ∀ i (hi : i < s.length), (s[i] = 1 ∨ s[i] = 2) ∧ (m.getD i 0 = 1 ∨ m.getD i 0 = 2 → s[i] = m.getD i 0)
theorem WithinTo.push {m s : List Int} (h : WithinTo m s) {x : Int} (hx : x = 1 ∨ x = 2) (hm : m.getD s.length 0 = 1 ∨ m.getD s.length 0 = 2 → x = m.getD s.length 0) : WithinTo m (s ++ [x]) := by
  intro i hi
  rw [List.getElem_append]
  split
  · exact h i (by assumption)
  · have hie : i = s.length := by simp at hi; omega
    subst hie
    simpa using ⟨hx, hm⟩
def DrawnWithin (m : List Int) (r : AV) (os : List Obj) : Prop := ∃ (s : List Int) (d : Dk), d.ok ∧ s.length = m.length ∧ WithinTo m s ∧ r = .own 1 1 0 s.length ∧ os = [.box (encDk d), .arr 1 (s.map encN)]
end Go.Proofs.YtmfgaefefgnhbaaGreatDoor.Abs
