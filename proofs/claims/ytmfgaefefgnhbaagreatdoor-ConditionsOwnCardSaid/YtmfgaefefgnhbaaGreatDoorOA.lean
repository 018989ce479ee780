/- Documents on plain data; regions, meeting, excluding, clashes. No program in sight. -/
import Derived.Test.YtmfgaefefgnhbaaGreatDoorZPA
import Derived.Test.YtmfgaefefgnhbaaGreatDoorR4
namespace Go.Proofs.YtmfgaefefgnhbaaGreatDoor.Abs
set_option linter.unusedSimpArgs false
set_option linter.unusedVariables false
open Go Go.RowKit

structure Doc where
  num : Int
  kind : Int
  state : Int
  round : Int
  zone : List Int
  safe : Int
  locks : List Lk
  iss : ByteArray
  hol : ByteArray
  frm : Int
  til : Int
  certs : List Int
def Doc.zero : Doc := ⟨0, 0, 0, 0, [], 0, [], ⟨#[]⟩, ⟨#[]⟩, 0, 0, []⟩
def encDoc (x : Doc) : List AV := [.raw (.int .i64 x.num), .raw (.int .i64 x.kind), .raw (.int .i64 x.state), .raw (.int .i64 x.round), .lst 1 (x.zone.map encN), .raw (.int .i64 x.safe), .lst 3 (x.locks.map encLk), .raw (.string x.iss), .raw (.string x.hol), .raw (.int .i64 x.frm), .raw (.int .i64 x.til), .lst 1 (x.certs.map encN)]
/-- Sizes that a document has in memory. -/
structure Doc.sized (x : Doc) : Prop where
  zl : x.zone.length ≤ 1000000
  ll : x.locks.length ≤ 1000000
  cl : x.certs.length ≤ 1000000
  il : x.iss.size ≤ 9223372036854775807
  hl : x.hol.size ≤ 9223372036854775807
def cErr (l : List Int) (i : Nat) : Int := if l.getD i 0 < 1 ∨ 65536 < l.getD i 0 ∨ (0 < i ∧ l.getD i 0 ≤ l.getD (i - 1) 0) then 48 else 0
def certChk (l : List Int) : Int := if 16 < l.length then 1 else firstE (cErr l) l.length
def spanB (a b : Int) : Bool := decide (0 ≤ a ∧ a < b ∧ b ≤ 16777216)
def headE (x : Doc) : Int := if x.num < 1 ∨ 65536 < x.num then 5 else if x.kind < 1 ∨ 3 < x.kind then 6 else if x.state < 1 ∨ 5 < x.state then 42 else if x.round < 0 ∨ 65536 < x.round then 5 else 0
def peopleE (x : Doc) : Int := if (isName x.iss && isName x.hol) = false then 3 else if x.iss = x.hol then 4 else if spanB x.frm x.til = false then 11 else 0
noncomputable def docChk (n : Net) (x : Doc) : Int :=
  if n.chk ≠ 0 then n.chk else if headE x ≠ 0 then headE x else if zoneChk n x.zone ≠ 0 then zoneChk n x.zone else if x.safe < 1 ∨ 16 < x.safe then 41 else if lockChk n x.locks ≠ 0 then lockChk n x.locks else if peopleE x ≠ 0 then peopleE x else certChk x.certs
theorem docChk_zero {n : Net} {x : Doc} (h : docChk n x = 0) : n.ok ∧ headE x = 0 ∧ zoneChk n x.zone = 0 ∧ (1 ≤ x.safe ∧ x.safe ≤ 16) ∧ lockChk n x.locks = 0 ∧ peopleE x = 0 ∧ certChk x.certs = 0 := by
  unfold docChk at h
  repeat' (split at h)
  all_goals first
    | (exfalso; omega)
    | (exact ⟨Net.chk_ok.1 (by omega), by omega, by omega, by omega, by omega, by omega, by omega⟩)
def activeB (x : Doc) : Bool := decide (x.state = 2 ∨ x.state = 3)
noncomputable def regD (n : Net) (x : Doc) : List Int := regL n x.zone (gapsOf n x.locks)
noncomputable def regionD (n : Net) (x : Doc) : List Int × Int := if docChk n x ≠ 0 then ([], docChk n x) else (regD n x, 0)
noncomputable def meetB (n : Net) (a b : Doc) : Bool := (regD n a).any fun v => decide (v ∈ regD n b)
noncomputable def meetE (n : Net) (a b : Doc) : Int := if docChk n a ≠ 0 then docChk n a else docChk n b
noncomputable def meetR (n : Net) (a b : Doc) : Bool × Int := if meetE n a b ≠ 0 then (false, meetE n a b) else (meetB n a b, 0)
def testB (a b : Doc) : Bool := decide (a.kind = 2 ∨ b.kind = 2)
noncomputable def exclR (n : Net) (a b : Doc) : Bool × Int := ((meetR n a b).1 && testB a b, (meetR n a b).2)
noncomputable def aErr (n : Net) (l : List Doc) (i : Nat) : Int := if docChk n (l.getD i .zero) ≠ 0 then docChk n (l.getD i .zero) else if 0 < i ∧ (l.getD i .zero).num ≤ (l.getD (i - 1) .zero).num then 14 else 0
noncomputable def allChk (n : Net) (l : List Doc) : Int := if n.chk ≠ 0 then n.chk else if 24 < l.length then 1 else firstE (aErr n l) l.length
noncomputable def clashB (n : Net) (d x : Doc) : Bool := activeB x && decide (x.num ≠ d.num) && (meetB n d x && testB d x)
noncomputable def clashL (n : Net) (l : List Doc) (d : Doc) : List Int := (l.filter (clashB n d)).map Doc.num
noncomputable def clashE (n : Net) (l : List Doc) (d : Doc) : Int := if allChk n l ≠ 0 then allChk n l else docChk n d
noncomputable def clashR (n : Net) (l : List Doc) (d : Doc) : List Int × Int := if clashE n l d ≠ 0 then ([], clashE n l d) else (clashL n l d, 0)
/-- Whether a document clashes with one behind it. -/
noncomputable def clearTo (n : Net) (l : List Doc) (i : Nat) : Bool := (List.range i).all fun k => !(activeB (l.getD k .zero) && decide (clashL n (l.drop (k + 1)) (l.getD k .zero) ≠ []))
noncomputable def clearR (n : Net) (l : List Doc) : Bool × Int := if allChk n l ≠ 0 then (false, allChk n l) else (clearTo n l l.length, 0)

theorem allChk_zero {n : Net} {l : List Doc} (h : allChk n l = 0) : n.ok ∧ l.length ≤ 24 ∧ ∀ i, i < l.length → aErr n l i = 0 := by
  unfold allChk at h
  split at h
  · rename_i h1; exact absurd h h1
  split at h
  · cases h
  · exact ⟨Net.chk_ok.1 (by omega), by omega, firstE_zero.1 h⟩
theorem aErr_zero {n : Net} {l : List Doc} {i : Nat} (hi : i < l.length) (h : aErr n l i = 0) : docChk n l[i] = 0 ∧ (0 < i → (l.getD (i - 1) .zero).num < l[i].num) := by
  unfold aErr at h
  rw [getD_get hi] at h
  split at h
  · rename_i h1; exact absurd h h1
  · rename_i h1
    split at h
    · cases h
    · rename_i h2; exact ⟨by omega, fun h3 => by omega⟩
theorem allChk_mem {n : Net} {l : List Doc} (h : allChk n l = 0) {x : Doc} (hx : x ∈ l) : docChk n x = 0 := by
  obtain ⟨i, hi, rfl⟩ := List.getElem_of_mem hx
  exact (aErr_zero hi ((allChk_zero h).2.2 i hi)).1
theorem allChk_up {n : Net} {l : List Doc} (h : allChk n l = 0) : ∀ (j i : Nat) (hj : i + 1 + j < l.length), l[i].num < l[i + 1 + j].num
  | 0, i, hj => by
    have := (aErr_zero hj ((allChk_zero h).2.2 _ hj)).2 (by omega)
    rw [getD_get (by omega)] at this
    simpa using this
  | j + 1, i, hj => by
    have h1 := allChk_up h j i (by omega)
    have := (aErr_zero hj ((allChk_zero h).2.2 _ hj)).2 (by omega)
    rw [getD_get (by omega)] at this
    have e : i + 1 + (j + 1) - 1 = i + 1 + j := by omega
    simp only [e] at this
    omega
theorem allChk_lt {n : Net} {l : List Doc} (h : allChk n l = 0) {i k : Nat} (hik : i < k) (hk : k < l.length) : l[i].num < l[k].num := by
  have := allChk_up h (k - i - 1) i (by omega)
  have e : i + 1 + (k - i - 1) = k := by omega
  simp only [e] at this
  exact this
theorem allChk_drop {n : Net} {l : List Doc} (h : allChk n l = 0) (k : Nat) : allChk n (l.drop k) = 0 := by
  obtain ⟨h1, h2, h3⟩ := allChk_zero h
  unfold allChk
  rw [if_neg (by simp [Net.chk_ok.2 h1]), if_neg (by simp; omega)]
  refine firstE_none fun i hi => ?_
  have hi' : k + i < l.length := by simp at hi; omega
  unfold aErr
  rw [getD_get hi, List.getElem_drop]
  have h4 := aErr_zero hi' (h3 _ hi')
  rw [if_neg (by simp [h4.1])]
  refine if_neg ?_
  rintro ⟨h5, h6⟩
  rw [getD_get (show i - 1 < (l.drop k).length by omega), List.getElem_drop] at h6
  have := allChk_lt h (show k + (i - 1) < k + i by omega) hi'
  omega
theorem meetB_comm {n : Net} {a b : Doc} : meetB n a b = meetB n b a := by
  unfold meetB
  rw [Bool.eq_iff_iff, List.any_eq_true, List.any_eq_true]
  constructor
  · rintro ⟨v, h1, h2⟩; exact ⟨v, of_decide_eq_true h2, decide_eq_true h1⟩
  · rintro ⟨v, h1, h2⟩; exact ⟨v, of_decide_eq_true h2, decide_eq_true h1⟩
theorem testB_comm {a b : Doc} : testB a b = testB b a := by unfold testB; rw [decide_eq_decide]; exact Or.comm
end Go.Proofs.YtmfgaefefgnhbaaGreatDoor.Abs
