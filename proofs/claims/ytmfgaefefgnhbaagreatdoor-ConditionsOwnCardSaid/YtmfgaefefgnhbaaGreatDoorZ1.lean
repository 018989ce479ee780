/- Networks on plain data: names, checks, what is reached. No program in sight. Zones on plain data: what chapter 15 computes, and its plain laws. No program in sight. Networks that the statements make, on plain data: they are valid. No program in sight. Sets of names as maps. No program in sight. Small functions: what they compute. Lists of numbers, names, decks: what the functions compute. Decks: what the functions compute. Sets of numbers, zones, names that the statements make. -/
import Derived.Test.YtmfgaefefgnhbaaGreatDoorT3
import Derived.Test.YtmfgaefefgnhbaaGreatDoorTP
namespace Go.Proofs.YtmfgaefefgnhbaaGreatDoor.Abs
set_option linter.unusedSimpArgs false
set_option linter.unusedVariables false
open Go Go.RowKit

instance : LawfulBEq ByteArray where
  eq_of_beq := fun h => (MapKept.bytes_beq _ _).1 h
  rfl := (MapKept.bytes_beq _ _).2 rfl

structure Nd where
  name : ByteArray
  cust : Int
  comp : Int
  deriving DecidableEq
structure Dv where
  name : ByteArray
  kind : Int
  a : Int
  b : Int
  comp : Int
  deriving DecidableEq
structure Net where
  nodes : List Nd
  devs : List Dv
  deriving DecidableEq
def encNd (x : Nd) : List AV := [.raw (.string x.name), .raw (.int .i64 x.cust), .raw (.int .i64 x.comp)]
def encDv (x : Dv) : List AV := [.raw (.string x.name), .raw (.int .i64 x.kind), .raw (.int .i64 x.a), .raw (.int .i64 x.b), .raw (.int .i64 x.comp)]
def encNet (n : Net) : List AV := [.lst 3 (n.nodes.map encNd), .lst 5 (n.devs.map encDv)]
def encN (n : Int) : List AV := [.raw (.int .i64 n)]
def encB (b : Bool) : List AV := [.raw (.bool b)]
theorem encNd_len (x : Nd) : (encNd x).length = 3 := rfl
theorem encDv_len (x : Dv) : (encDv x).length = 5 := rfl
theorem encN_len (x : Int) : (encN x).length = 1 := rfl
theorem encB_len (x : Bool) : (encB x).length = 1 := rfl
theorem encNd_imm (x : Nd) : AV.immL (encNd x) = true := rfl
theorem encDv_imm (x : Dv) : AV.immL (encDv x) = true := rfl
theorem encN_imm (x : Int) : AV.immL (encN x) = true := rfl
theorem encB_imm (x : Bool) : AV.immL (encB x) = true := rfl

/-- Numbers that fit. -/
def inI (n : Int) : Prop := -9223372036854775808 ≤ n ∧ n ≤ 9223372036854775807
instance (n : Int) : Decidable (inI n) := inferInstanceAs (Decidable (_ ∧ _))
structure Nd.fit (x : Nd) : Prop where
  cust : inI x.cust
  comp : inI x.comp
structure Dv.fit (x : Dv) : Prop where
  kind : inI x.kind
  a : inI x.a
  b : inI x.b
  comp : inI x.comp
structure Net.fit (n : Net) : Prop where
  nodes : ∀ x, x ∈ n.nodes → x.fit
  devs : ∀ x, x ∈ n.devs → x.fit

/-- Bytes of names. -/
def isLetter (b : Nat) : Bool := decide (65 ≤ b ∧ b ≤ 90) || decide (97 ≤ b ∧ b ≤ 122)
def isDigit (b : Nat) : Bool := decide (48 ≤ b ∧ b ≤ 57)
def byteAt (s : ByteArray) (i : Nat) : Nat := (s.data.getD i 0).toNat
def isName (s : ByteArray) : Bool := decide (1 ≤ s.size ∧ s.size ≤ 12) && isLetter (byteAt s 0) && (List.range s.size).all fun i => isLetter (byteAt s i) || isDigit (byteAt s i) || decide (byteAt s i = 95)

def joinsK (k : Int) : Bool := decide (1 ≤ k ∧ k ≤ 3)
def gapK (k : Int) : Bool := decide (k = 1 ∨ k = 3 ∨ k = 6)

/-- The first error of some things. -/
def firstE (f : Nat → Int) : Nat → Int
  | 0 => 0
  | n + 1 => if firstE f n ≠ 0 then firstE f n else f n
theorem firstE_none {f : Nat → Int} : ∀ {n : Nat}, (∀ j, j < n → f j = 0) → firstE f n = 0
  | 0, _ => rfl
  | n + 1, h => by
    have := firstE_none (n := n) fun j hj => h j (by omega)
    simp [firstE, this, h n (by omega)]
theorem firstE_hit {f : Nat → Int} : ∀ {n i : Nat}, i < n → (∀ j, j < i → f j = 0) → f i ≠ 0 → firstE f n = f i
  | n + 1, i, hi, h, hf => by
    by_cases e : i = n
    · subst e
      simp [firstE, firstE_none h]
    · have := firstE_hit (n := n) (i := i) (by omega) h hf
      simp [firstE, this, hf]
theorem firstE_zero {f : Nat → Int} : ∀ {n : Nat}, firstE f n = 0 ↔ ∀ j, j < n → f j = 0
  | 0 => by simp [firstE]
  | n + 1 => by
    have ih := firstE_zero (f := f) (n := n)
    constructor
    · intro h j hj
      by_cases h1 : firstE f n = 0
      · by_cases e : j = n
        · subst e; simpa [firstE, h1] using h
        · exact ih.1 h1 j (by omega)
      · simp [firstE, h1] at h
    · intro h; exact firstE_none h

/-- The first error of a node, and of a device. -/
def nErr (n : Net) (i : Nat) : Int :=
  let x := n.nodes.getD i ⟨⟨#[]⟩, 0, 0⟩
  if !isName x.name then 3 else if x.name ∈ (n.nodes.take i).map Nd.name then 4 else if x.cust < 0 ∨ 1048576 < x.cust ∨ x.comp < 0 ∨ 7 < x.comp then 5 else 0
def dErr (n : Net) (i : Nat) : Int :=
  let x := n.devs.getD i ⟨⟨#[]⟩, 0, 0, 0, 0⟩
  if !isName x.name then 3 else if x.name ∈ n.nodes.map Nd.name ++ (n.devs.take i).map Dv.name then 4 else if x.kind < 1 ∨ 6 < x.kind then 6
  else if x.a < 0 ∨ (n.nodes.length : Int) ≤ x.a ∨ (joinsK x.kind = true ∧ (x.b < 0 ∨ (n.nodes.length : Int) ≤ x.b ∨ x.b = x.a)) ∨ (joinsK x.kind = false ∧ x.b ≠ -1) then 7
  else if x.comp < 0 ∨ 7 < x.comp then 5 else 0
def Net.chk (n : Net) : Int :=
  if 32 < n.nodes.length ∨ 64 < n.devs.length then 1 else if firstE (nErr n) n.nodes.length ≠ 0 then firstE (nErr n) n.nodes.length else firstE (dErr n) n.devs.length
/-- A valid network. -/
structure Net.ok (n : Net) : Prop where
  nl : n.nodes.length ≤ 32
  dl : n.devs.length ≤ 64
  nd : ∀ i, i < n.nodes.length → nErr n i = 0
  dv : ∀ i, i < n.devs.length → dErr n i = 0
theorem Net.chk_ok {n : Net} : n.chk = 0 ↔ n.ok := by
  unfold Net.chk
  constructor
  · intro h
    split at h
    · cases h
    · split at h
      · rename_i h1; exact absurd h h1
      · rename_i h0 h1
        exact ⟨by omega, by omega, firstE_zero.1 (by simpa using h1), firstE_zero.1 h⟩
  · rintro ⟨h1, h2, h3, h4⟩
    rw [if_neg (by omega), if_neg (by simp [firstE_zero.2 h3]), firstE_zero.2 h4]
/-- What is known of a device of a valid network. -/
structure Dv.ok (x : Dv) (nl : Nat) : Prop where
  k1 : 1 ≤ x.kind
  k6 : x.kind ≤ 6
  a0 : 0 ≤ x.a
  al : x.a < nl
  j : joinsK x.kind = true → 0 ≤ x.b ∧ x.b < nl ∧ x.b ≠ x.a
  nj : joinsK x.kind = false → x.b = -1
theorem Net.ok.dev {n : Net} (h : n.ok) {i : Nat} {x : Dv} (hx : n.devs[i]? = some x) : x.ok n.nodes.length := by
  have hi := (List.getElem?_eq_some_iff.1 hx).1
  have := h.dv i hi
  simp only [dErr, List.getD_eq_getElem?_getD, hx, Option.getD_some] at this
  split at this
  · cases this
  split at this
  · cases this
  split at this
  · cases this
  rename_i h1
  split at this
  · cases this
  rename_i h2
  simp only [not_or, not_and] at h1 h2
  refine ⟨by omega, by omega, by omega, by omega, fun hj => ?_, fun hj => ?_⟩
  · have := h2.2.2.1 hj
    omega
  · have := h2.2.2.2 hj
    omega
theorem Net.ok.dev' {n : Net} (h : n.ok) {i : Nat} (hi : i < n.devs.length) : n.devs[i].ok n.nodes.length := h.dev (List.getElem?_eq_getElem hi)

/-- A device that joins two nodes and may be used. -/
def Edge (n : Net) (use : Nat → Prop) (u v : Nat) : Prop := ∃ (i : Nat) (d : Dv), n.devs[i]? = some d ∧ joinsK d.kind = true ∧ use i ∧ ((d.a = u ∧ d.b = v) ∨ (d.b = u ∧ d.a = v))
/-- What is reached. -/
inductive Rch (n : Net) (use stop S : Nat → Prop) : Nat → Prop
  | base {v : Nat} (h : S v) : Rch n use stop S v
  | step {u v : Nat} (h : Rch n use stop S u) (hs : ¬ stop u) (he : Edge n use u v) : Rch n use stop S v
theorem Edge.symm {n : Net} {use : Nat → Prop} {u v : Nat} (h : Edge n use u v) : Edge n use v u := by
  obtain ⟨i, d, h1, h2, h3, h4⟩ := h
  exact ⟨i, d, h1, h2, h3, h4.elim (fun h => .inr ⟨h.2, h.1⟩) fun h => .inl ⟨h.2, h.1⟩⟩
theorem Edge.mono {n : Net} {use use' : Nat → Prop} (hu : ∀ i, use i → use' i) {u v : Nat} (h : Edge n use u v) : Edge n use' u v := by
  obtain ⟨i, d, h1, h2, h3, h4⟩ := h
  exact ⟨i, d, h1, h2, hu i h3, h4⟩
theorem Edge.lt {n : Net} (hn : n.ok) {use : Nat → Prop} {u v : Nat} (h : Edge n use u v) : u < n.nodes.length ∧ v < n.nodes.length := by
  obtain ⟨i, d, h1, h2, h3, h4⟩ := h
  have hd := hn.dev h1
  have := hd.j h2
  have := hd.a0; have := hd.al
  omega
theorem Rch.mono {n : Net} {use use' stop stop' S S' : Nat → Prop} (hu : ∀ i, use i → use' i) (hs : ∀ i, stop' i → stop i) (hS : ∀ i, S i → S' i) {v : Nat} (h : Rch n use stop S v) : Rch n use' stop' S' v := by
  induction h with
  | base h => exact .base (hS _ h)
  | step _ h1 h2 ih => exact .step ih (fun h => h1 (hs _ h)) (h2.mono hu)
theorem Rch.lt {n : Net} (hn : n.ok) {use stop S : Nat → Prop} (hS : ∀ v, S v → v < n.nodes.length) {v : Nat} (h : Rch n use stop S v) : v < n.nodes.length := by
  cases h with
  | base h => exact hS _ h
  | step _ _ he => exact (he.lt hn).2
theorem Rch.trans {n : Net} {use stop S S' : Nat → Prop} (hS : ∀ v, S' v → Rch n use stop S v) {v : Nat} (h : Rch n use stop S' v) : Rch n use stop S v := by
  induction h with
  | base h => exact hS _ h
  | step _ h1 h2 ih => exact .step ih h1 h2
/-- A set that holds what one begins with, and is closed, holds all that is reached. -/
theorem Rch.closed {n : Net} {use stop S T : Nat → Prop} (h0 : ∀ v, S v → T v) (hc : ∀ u v, T u → ¬ stop u → Edge n use u v → T v) {v : Nat} (h : Rch n use stop S v) : T v := by
  induction h with
  | base h => exact h0 _ h
  | step _ h1 h2 ih => exact hc _ _ ih h1 h2

open Classical in
/-- Which nodes are reached, as a list. -/
noncomputable def flood (n : Net) (use stop S : Nat → Prop) : List Bool := (List.range n.nodes.length).map fun v => decide (Rch n use stop S v)
theorem flood_len {n : Net} {use stop S : Nat → Prop} : (flood n use stop S).length = n.nodes.length := by simp [flood]
theorem flood_at {n : Net} {use stop S : Nat → Prop} {v : Nat} (hv : v < (flood n use stop S).length) : (flood n use stop S)[v] = true ↔ Rch n use stop S v := by
  simp [flood]
/-- The numbers at which a list is true. -/
def trues (l : List Bool) : List Int := ((List.range l.length).filter fun i => l.getD i false).map Int.ofNat
theorem mem_trues {l : List Bool} {x : Int} : x ∈ trues l ↔ 0 ≤ x ∧ l.getD x.toNat false = true := by
  simp only [trues, List.mem_map, List.mem_filter, List.mem_range]
  constructor
  · rintro ⟨i, ⟨h1, h2⟩, rfl⟩
    exact ⟨Int.natCast_nonneg _, by simpa using h2⟩
  · rintro ⟨h1, h2⟩
    refine ⟨x.toNat, ⟨?_, h2⟩, Int.toNat_of_nonneg h1⟩
    rcases Nat.lt_or_ge x.toNat l.length with h | h
    · exact h
    · rw [List.getD_eq_getElem?_getD, List.getElem?_eq_none h] at h2; cases h2

/-- Ascending numbers from 0 to below a number. -/
def risingFrom (until_ : Int) : Int → List Int → Bool
  | _, [] => true
  | last, x :: l => decide (last < x ∧ x < until_) && risingFrom until_ x l
def rising (l : List Int) (until_ : Int) : Bool := risingFrom until_ (-1) l
theorem risingFrom_mem {u : Int} : ∀ {l : List Int} {last : Int}, risingFrom u last l = true → ∀ x, x ∈ l → last < x ∧ x < u
  | [], _, _, x, hx => by cases hx
  | y :: l, last, h, x, hx => by
    simp only [risingFrom, Bool.and_eq_true, decide_eq_true_eq] at h
    rcases List.mem_cons.1 hx with rfl | hx
    · exact h.1
    · have := risingFrom_mem h.2 x hx
      omega
theorem rising_mem {u : Int} {l : List Int} (h : rising l u = true) {x : Int} (hx : x ∈ l) : 0 ≤ x ∧ x < u := by
  have := risingFrom_mem h x hx
  omega
theorem risingFrom_iff {u : Int} : ∀ {l : List Int} {last : Int}, risingFrom u last l = true ↔ ∀ i (hi : i < l.length), (if i = 0 then last else l.getD (i - 1) 0) < l[i] ∧ l[i] < u
  | [], _ => by simp [risingFrom]
  | x :: l, last => by
    simp only [risingFrom, Bool.and_eq_true, decide_eq_true_eq, risingFrom_iff (l := l)]
    constructor
    · rintro ⟨h1, h2⟩ i hi
      rcases i with _ | i
      · simpa using h1
      · have := h2 i (by simpa using hi)
        rcases i with _ | i
        · simpa using this
        · simpa using this
    · intro h
      refine ⟨h 0 (by simp), fun i hi => ?_⟩
      have := h (i + 1) (by simpa using hi)
      rcases i with _ | i
      · simpa using this
      · simpa using this
end Go.Proofs.YtmfgaefefgnhbaaGreatDoor.Abs
namespace Go.Proofs.YtmfgaefefgnhbaaGreatDoor.Abs
set_option linter.unusedSimpArgs false
set_option linter.unusedVariables false
open Go Go.RowKit

def zoneChk (n : Net) (zone : List Int) : Int := if n.chk ≠ 0 then n.chk else if zone = [] then 16 else if rising zone n.nodes.length = false then 7 else 0
/-- The first error of a gap. -/
def gErr (n : Net) (gaps : List Int) (i : Nat) : Int :=
  if gaps.getD i 0 < 0 ∨ (n.devs.length : Int) ≤ gaps.getD i 0 ∨ (0 < i ∧ gaps.getD i 0 ≤ gaps.getD (i - 1) 0) then 8 else if gapK (n.devs.getD (gaps.getD i 0).toNat ⟨⟨#[]⟩, 0, 0, 0, 0⟩).kind = false then 6 else 0
def fault (n : Net) (zone gaps : List Int) : Int := if zoneChk n zone ≠ 0 then zoneChk n zone else firstE (gErr n gaps) gaps.length
/-- What is reached from a zone over devices but some. -/
abbrev RG (n : Net) (zone gaps : List Int) : Nat → Prop := Rch n (fun i => (i : Int) ∉ gaps) (fun _ => False) (fun v => (v : Int) ∈ zone)
noncomputable def regB (n : Net) (zone gaps : List Int) : List Bool := flood n (fun i => (i : Int) ∉ gaps) (fun _ => False) (fun v => (v : Int) ∈ zone)
noncomputable def regL (n : Net) (zone gaps : List Int) : List Int := trues (regB n zone gaps)
open Classical in
noncomputable def enoughB (n : Net) (zone gaps : List Int) : Bool := decide (∀ (i : Nat) (d : Dv), n.devs[i]? = some d → (d.kind = 5 ∨ (d.kind = 6 ∧ (i : Int) ∉ gaps)) → ¬ RG n zone gaps d.a.toNat)
noncomputable def regionR (n : Net) (zone gaps : List Int) : List Int × Int := if fault n zone gaps ≠ 0 then ([], fault n zone gaps) else (regL n zone gaps, 0)
noncomputable def enoughR (n : Net) (zone gaps : List Int) : Bool × Int := if fault n zone gaps ≠ 0 then (false, fault n zone gaps) else (enoughB n zone gaps, 0)
/-- Disconnectors and generators. -/
def cuts (n : Net) : List Int := ((List.range n.devs.length).filter fun i => decide ((n.devs.getD i ⟨⟨#[]⟩, 0, 0, 0, 0⟩).kind = 3 ∨ (n.devs.getD i ⟨⟨#[]⟩, 0, 0, 0, 0⟩).kind = 6)).map Int.ofNat
open Classical in
/-- Whether a device is at a node of a region. -/
noncomputable def atB (n : Net) (zone gaps : List Int) (g : Int) : Bool := decide (∃ d, n.devs[g.toNat]? = some d ∧ (RG n zone gaps d.a.toNat ∨ (joinsK d.kind = true ∧ RG n zone gaps d.b.toNat)))
open Classical in
noncomputable def nearestR (n : Net) (zone : List Int) : List Int × Int := if zoneChk n zone ≠ 0 then ([], zoneChk n zone)
  else if ∃ (i : Nat) (d : Dv), n.devs[i]? = some d ∧ d.kind = 5 ∧ RG n zone (cuts n) d.a.toNat then ([], 15) else ((cuts n).filter (atB n zone (cuts n)), 0)

theorem regB_len {n : Net} {zone gaps : List Int} : (regB n zone gaps).length = n.nodes.length := flood_len
theorem regB_at {n : Net} {zone gaps : List Int} {v : Nat} (hv : v < (regB n zone gaps).length) : (regB n zone gaps)[v] = true ↔ RG n zone gaps v := flood_at hv
theorem zoneChk_ok {n : Net} (hn : n.ok) {zone : List Int} (h1 : zone ≠ []) (h2 : rising zone n.nodes.length = true) : zoneChk n zone = 0 := by
  simp [zoneChk, Net.chk_ok.2 hn, h1, h2]
theorem zoneChk_zero {n : Net} {zone : List Int} (h : zoneChk n zone = 0) : n.ok ∧ zone ≠ [] ∧ rising zone n.nodes.length = true := by
  unfold zoneChk at h
  split at h
  · rename_i h1; exact absurd h h1
  · rename_i h1
    split at h
    · cases h
    · rename_i h2
      split at h
      · cases h
      · rename_i h3
        exact ⟨Net.chk_ok.1 (by simpa using h1), h2, by simpa using h3⟩
/-- Ascending gaps of a valid network have no fault. -/
structure Gaps (n : Net) (gaps : List Int) : Prop where
  up : rising gaps n.devs.length = true
  gap : ∀ g, g ∈ gaps → gapK (n.devs.getD g.toNat ⟨⟨#[]⟩, 0, 0, 0, 0⟩).kind = true
theorem gErr_zero {n : Net} {gaps : List Int} (h : Gaps n gaps) {i : Nat} (hi : i < gaps.length) : gErr n gaps i = 0 := by
  have h1 := risingFrom_iff.1 h.up i hi
  have h2 := rising_mem h.up (List.getElem_mem hi)
  have h3 := h.gap _ (List.getElem_mem hi)
  have e : gaps.getD i 0 = gaps[i] := by simp [List.getD_eq_getElem?_getD, hi]
  unfold gErr
  rw [e, if_neg, if_neg (fun e => by rw [h3] at e; cases e)]
  rintro (h4 | h4 | ⟨h4, h5⟩)
  · omega
  · omega
  · rw [if_neg (by omega)] at h1
    omega
theorem fault_ok {n : Net} {zone gaps : List Int} (h : zoneChk n zone = 0) (hg : Gaps n gaps) : fault n zone gaps = 0 := by
  unfold fault
  rw [if_neg (by simp [h])]
  exact firstE_none fun j hj => gErr_zero hg hj
theorem rising_filter {u : Int} {p : Int → Bool} : ∀ {l : List Int} {last : Int}, risingFrom u last l = true → risingFrom u last (l.filter p) = true
  | [], _, _ => rfl
  | x :: l, last, h => by
    simp only [risingFrom, Bool.and_eq_true, decide_eq_true_eq] at h
    have ih := rising_filter (p := p) h.2
    rw [List.filter_cons]
    split
    · simp [risingFrom, h.1, ih]
    · cases hl : l.filter p with
      | nil => rfl
      | cons y l' =>
        rw [hl] at ih
        simp only [risingFrom, Bool.and_eq_true, decide_eq_true_eq] at ih ⊢
        exact ⟨by omega, ih.2⟩
theorem rising_map {u : Nat} {p : Nat → Bool} : rising (((List.range u).filter p).map Int.ofNat) u = true := by
  have key : ∀ (k s : Nat), s + k = u → risingFrom u ((s : Int) - 1) (((List.range' s k).filter p).map Int.ofNat) = true := by
    intro k
    induction k with
    | zero => intro s _; rfl
    | succ k ih =>
      intro s hs
      rw [List.range'_succ, List.filter_cons]
      have h1 := ih (s + 1) (by omega)
      have e : ((s + 1 : Nat) : Int) - 1 = s := by omega
      rw [e] at h1
      split
      · simp only [List.map_cons, risingFrom, Bool.and_eq_true, decide_eq_true_eq]
        exact ⟨⟨by show (s : Int) - 1 < (s : Int); omega, by show (s : Int) < u; omega⟩, h1⟩
      · cases hl : ((List.range' (s + 1) k).filter p).map Int.ofNat with
        | nil => rfl
        | cons y l' =>
          rw [hl] at h1
          simp only [risingFrom, Bool.and_eq_true, decide_eq_true_eq] at h1 ⊢
          exact ⟨by omega, h1.2⟩
  have := key u 0 (by omega)
  rw [← List.range_eq_range'] at this
  exact this
theorem mem_cuts {n : Net} {g : Int} : g ∈ cuts n ↔ ∃ (i : Nat) (d : Dv), g = i ∧ n.devs[i]? = some d ∧ (d.kind = 3 ∨ d.kind = 6) := by
  simp only [cuts, List.mem_map, List.mem_filter, List.mem_range, decide_eq_true_eq]
  constructor
  · rintro ⟨i, ⟨h1, h2⟩, rfl⟩
    refine ⟨i, n.devs[i], rfl, List.getElem?_eq_getElem h1, ?_⟩
    simpa [List.getD_eq_getElem?_getD, h1] using h2
  · rintro ⟨i, d, rfl, h1, h2⟩
    have hi := (List.getElem?_eq_some_iff.1 h1).1
    refine ⟨i, ⟨hi, ?_⟩, rfl⟩
    simp [List.getD_eq_getElem?_getD, h1, h2]
theorem cuts_gaps (n : Net) : Gaps n (cuts n) := by
  refine ⟨rising_map, fun g hg => ?_⟩
  obtain ⟨i, d, rfl, h1, h2⟩ := mem_cuts.1 hg
  simp only [Int.toNat_natCast, List.getD_eq_getElem?_getD, h1, Option.getD_some]
  simp [gapK]
  omega
theorem Gaps.filter {n : Net} {gaps : List Int} (h : Gaps n gaps) (p : Int → Bool) : Gaps n (gaps.filter p) :=
  ⟨rising_filter h.up, fun g hg => h.gap g ((List.mem_filter.1 hg).1)⟩
theorem RG.lt {n : Net} (hn : n.ok) {zone gaps : List Int} (hz : rising zone n.nodes.length = true) {v : Nat} (h : RG n zone gaps v) : v < n.nodes.length :=
  Rch.lt hn (fun v hv => by have := rising_mem hz hv; omega) h
theorem RG.mono {n : Net} {z z' g g' : List Int} (hz : ∀ v, v ∈ z → v ∈ z') (hg : ∀ v, v ∈ g' → v ∈ g) {v : Nat} (h : RG n z g v) : RG n z' g' v :=
  Rch.mono (fun i hi hi' => hi (hg _ hi')) (fun _ h => h) (fun v hv => hz _ hv) h
theorem regL_mem {n : Net} (hn : n.ok) {zone gaps : List Int} (hz : rising zone n.nodes.length = true) {x : Int} : x ∈ regL n zone gaps ↔ 0 ≤ x ∧ RG n zone gaps x.toNat := by
  rw [regL, mem_trues]
  constructor
  · rintro ⟨h1, h2⟩
    have hl : x.toNat < (regB n zone gaps).length := by
      rcases Nat.lt_or_ge x.toNat (regB n zone gaps).length with h | h
      · exact h
      · rw [List.getD_eq_getElem?_getD, List.getElem?_eq_none h] at h2; cases h2
    rw [List.getD_eq_getElem?_getD, List.getElem?_eq_getElem hl] at h2
    exact ⟨h1, (regB_at hl).1 h2⟩
  · rintro ⟨h1, h2⟩
    have hl : x.toNat < (regB n zone gaps).length := by rw [regB_len]; exact h2.lt hn hz
    refine ⟨h1, ?_⟩
    rw [List.getD_eq_getElem?_getD, List.getElem?_eq_getElem hl]
    exact (regB_at hl).2 h2
theorem regB_congr {n : Net} {z z' g g' : List Int} (h : ∀ v, RG n z g v ↔ RG n z' g' v) : regB n z g = regB n z' g' := by
  unfold regB flood
  apply List.map_congr_left
  intro v _
  exact decide_eq_decide.2 (h v)

/-- ZoneNearest's law. -/
theorem near_region {n : Net} {zone gaps : List Int} {v : Nat} : RG n zone (gaps.filter (atB n zone gaps)) v ↔ RG n zone gaps v := by
  constructor
  · intro h
    refine Rch.closed (T := RG n zone gaps) (fun v hv => .base hv) (fun u v hu hs he => ?_) h
    obtain ⟨i, d, h1, h2, h3, h4⟩ := he
    refine .step hu hs ⟨i, d, h1, h2, fun hc => h3 ?_, h4⟩
    rw [List.mem_filter]
    refine ⟨hc, ?_⟩
    simp only [atB, decide_eq_true_eq, Int.toNat_natCast]
    refine ⟨d, h1, ?_⟩
    rcases h4 with ⟨ha, hb⟩ | ⟨hb, ha⟩
    · left; rw [ha]; simpa using hu
    · right; refine ⟨h2, ?_⟩; rw [hb]; simpa using hu
  · exact RG.mono (fun _ h => h) fun v hv => (List.mem_filter.1 hv).1
/-- The gaps at a region isolate exactly if all do. -/
theorem near_enough {n : Net} {zone gaps : List Int} : enoughB n zone (gaps.filter (atB n zone gaps)) = enoughB n zone gaps := by
  rw [Bool.eq_iff_iff]
  simp only [enoughB, decide_eq_true_eq]
  constructor
  · rintro h i d h1 h2 h3
    refine h i d h1 (h2.imp (fun h => h) fun h => ⟨h.1, fun hg => h.2 ((List.mem_filter.1 hg).1)⟩) (near_region.2 h3)
  · rintro h i d h1 h2 h3
    have h4 := near_region.1 h3
    refine h i d h1 (h2.imp (fun h => h) fun h => ⟨h.1, fun hg => h.2 (List.mem_filter.2 ⟨hg, ?_⟩)⟩) h4
    simp only [atB, decide_eq_true_eq, Int.toNat_natCast]
    exact ⟨d, h1, .inl h4⟩

open Classical in
theorem nearest_enough {n : Net} (hn : n.ok) {zone : List Int} (h : zoneChk n zone = 0) : decide ((nearestR n zone).2 = 0) = (enoughR n zone (cuts n)).1 := by
  have hf := fault_ok h (cuts_gaps n)
  simp only [enoughR, hf, ne_eq, not_true_eq_false, if_false, enoughB, nearestR, h]
  split
  · rename_i hx
    obtain ⟨i, d, h1, h2, h3⟩ := hx
    simp only [decide_eq_false (show ¬ ((15 : Int) = 0) by decide)]
    symm
    rw [decide_eq_false_iff_not]
    intro h4
    exact h4 i d h1 (.inl h2) h3
  · rename_i hx
    simp only [decide_true]
    symm
    rw [decide_eq_true_eq]
    rintro i d h1 (h2 | ⟨h2, h3⟩) h4
    · exact hx ⟨i, d, h1, h2, h4⟩
    · exact h3 (mem_cuts.2 ⟨i, d, rfl, h1, .inr h2⟩)
theorem nearest_none {n : Net} {zone : List Int} (h : zoneChk n zone = 0) (he : (nearestR n zone).2 ≠ 0) : nearestR n zone = ([], 15) := by
  simp only [nearestR, h, ne_eq, not_true_eq_false, if_false] at he ⊢
  split at he
  · rename_i hx; rw [if_pos hx]
  · exact absurd rfl he
theorem nearest_some {n : Net} {zone : List Int} (h : zoneChk n zone = 0) (he : (nearestR n zone).2 = 0) : (nearestR n zone).1 = (cuts n).filter (atB n zone (cuts n)) ∧
    enoughR n zone (nearestR n zone).1 = (true, 0) ∧ regionR n zone (nearestR n zone).1 = (regL n zone (cuts n), 0) := by
  have hg := (cuts_gaps n).filter (atB n zone (cuts n))
  have hf := fault_ok h hg
  simp only [nearestR, h, ne_eq, not_true_eq_false, if_false] at he ⊢
  split at he
  · cases he
  · rename_i hx
    rw [if_neg hx]
    refine ⟨rfl, ?_, ?_⟩
    · simp only [enoughR, hf, ne_eq, not_true_eq_false, if_false, enoughB, Prod.mk.injEq, and_true, decide_eq_true_eq]
      rintro i d h1 (h2 | ⟨h2, h3⟩) h4
      · exact hx ⟨i, d, h1, h2, near_region.1 h4⟩
      · refine h3 (List.mem_filter.2 ⟨mem_cuts.2 ⟨i, d, rfl, h1, .inr h2⟩, ?_⟩)
        simp only [atB, decide_eq_true_eq, Int.toNat_natCast]
        exact ⟨d, h1, .inl (near_region.1 h4)⟩
    · simp only [regionR, hf, ne_eq, not_true_eq_false, if_false, regL, Prod.mk.injEq, and_true]
      rw [regB_congr fun v => near_region]

/-- ZoneMore's law. -/
theorem more_enough {n : Net} {z few more : List Int} (hs : ∀ g, g ∈ few → g ∈ more) (h : enoughB n z few = true) : enoughB n z more = true := by
  simp only [enoughB, decide_eq_true_eq] at h ⊢
  rintro i d h1 h2 h3
  refine h i d h1 (h2.imp (fun h => h) fun h => ⟨h.1, fun hg => h.2 (hs _ hg)⟩) ?_
  exact RG.mono (fun _ h => h) hs h3
theorem each_enough {n : Net} (hn : n.ok) {z g : List Int} (hz : rising z n.nodes.length = true) : enoughB n z g = true ↔ ∀ v, v ∈ z → enoughB n [v] g = true := by
  have key : ∀ u, RG n z g u ↔ ∃ v, v ∈ z ∧ RG n [v] g u := by
    intro u
    constructor
    · intro h
      refine Rch.closed (T := fun u => ∃ v, v ∈ z ∧ RG n [v] g u) (fun v hv => ⟨v, hv, .base (by simp)⟩) (fun u v hu hs he => ?_) h
      obtain ⟨x, hx, hu⟩ := hu
      exact ⟨x, hx, .step hu hs he⟩
    · rintro ⟨v, hv, h⟩
      exact RG.mono (fun x hx => by rw [List.mem_singleton] at hx; subst hx; exact hv) (fun _ h => h) h
  simp only [enoughB, decide_eq_true_eq]
  constructor
  · intro h v hv i d h1 h2 h3
    exact h i d h1 h2 ((key _).2 ⟨v, hv, h3⟩)
  · intro h i d h1 h2 h3
    obtain ⟨v, hv, h4⟩ := (key _).1 h3
    exact h v hv i d h1 h2 h4
/-- ZoneUnion's law. -/
theorem union_region {n : Net} {y z both g : List Int} (h : ∀ v, v ∈ both ↔ v ∈ y ∨ v ∈ z) {v : Nat} : RG n both g v ↔ RG n y g v ∨ RG n z g v := by
  constructor
  · intro hr
    refine Rch.closed (T := fun v => RG n y g v ∨ RG n z g v) (fun v hv => ((h _).1 hv).imp .base .base) (fun u v hu hs he => ?_) hr
    exact hu.imp (fun hu => .step hu hs he) fun hu => .step hu hs he
  · rintro (hr | hr)
    · exact RG.mono (fun v hv => (h v).2 (.inl hv)) (fun _ h => h) hr
    · exact RG.mono (fun v hv => (h v).2 (.inr hv)) (fun _ h => h) hr
theorem union_enough {n : Net} {y z both g : List Int} (h : ∀ v, v ∈ both ↔ v ∈ y ∨ v ∈ z) : enoughB n both g = (enoughB n y g && enoughB n z g) := by
  rw [Bool.eq_iff_iff, Bool.and_eq_true]
  simp only [enoughB, decide_eq_true_eq]
  constructor
  · intro hr
    exact ⟨fun i d h1 h2 h3 => hr i d h1 h2 ((union_region h).2 (.inl h3)), fun i d h1 h2 h3 => hr i d h1 h2 ((union_region h).2 (.inr h3))⟩
  · rintro ⟨h1, h2⟩ i d h3 h4 h5
    exact ((union_region h).1 h5).elim (h1 i d h3 h4) (h2 i d h3 h4)

/- Locks. -/
structure Lk where
  dev : Int
  pos : Int
  key : Int
  deriving DecidableEq
def encLk (x : Lk) : List AV := [.raw (.int .i64 x.dev), .raw (.int .i64 x.pos), .raw (.int .i64 x.key)]
theorem encLk_len (x : Lk) : (encLk x).length = 3 := rfl
theorem encLk_imm (x : Lk) : AV.immL (encLk x) = true := rfl
def Lk.zero : Lk := ⟨0, 0, 0⟩
structure Lk.fit (x : Lk) : Prop where
  dev : inI x.dev
  pos : inI x.pos
  key : inI x.key
def lErr (n : Net) (k : Lk) : Int :=
  if k.dev < 0 ∨ (n.devs.length : Int) ≤ k.dev then 8 else if (n.devs.getD k.dev.toNat ⟨⟨#[]⟩, 0, 0, 0, 0⟩).kind = 5 then 6 else if k.pos ≠ 1 ∧ k.pos ≠ 2 then 10 else if k.key < 0 ∨ 65536 < k.key then 5 else 0
def lkBefore (a b : Lk) : Bool := decide (a.dev < b.dev ∨ (a.dev = b.dev ∧ a.key < b.key))
def kErr (n : Net) (l : List Lk) (i : Nat) : Int :=
  let k := l.getD i .zero
  if lErr n k ≠ 0 then lErr n k else if 0 < i ∧ lkBefore (l.getD (i - 1) .zero) k = false then 14 else if (l.take i).any (fun x => decide (x.dev = k.dev ∧ x.pos ≠ k.pos)) then 18 else if (l.take i).any (fun x => decide (x.key = k.key)) then 4 else 0
def lockChk (n : Net) (l : List Lk) : Int := if n.chk ≠ 0 then n.chk else if 128 < l.length then 1 else firstE (kErr n l) l.length
/-- The position in which a device is locked. -/
def lockedAt : List Lk → Int → Option Int
  | [], _ => none
  | x :: l, i => if x.dev = i then some x.pos else lockedAt l i
def gapsOf (n : Net) (l : List Lk) : List Int := ((List.range n.devs.length).filter fun (i : Nat) => decide (lockedAt l (i : Int) = some 1) && gapK (n.devs.getD i ⟨⟨#[]⟩, 0, 0, 0, 0⟩).kind).map Int.ofNat
def earthsOf (n : Net) (l : List Lk) : List Int := ((List.range n.devs.length).filter fun (i : Nat) => decide (lockedAt l (i : Int) = some 2) && decide ((n.devs.getD i ⟨⟨#[]⟩, 0, 0, 0, 0⟩).kind = 4)).map Int.ofNat
theorem gapsOf_gaps (n : Net) (l : List Lk) : Gaps n (gapsOf n l) := by
  refine ⟨rising_map, fun g hg => ?_⟩
  simp only [gapsOf, List.mem_map, List.mem_filter, List.mem_range, Bool.and_eq_true] at hg
  obtain ⟨i, ⟨_, _, h2⟩, rfl⟩ := hg
  exact h2
end Go.Proofs.YtmfgaefefgnhbaaGreatDoor.Abs
namespace Go.Proofs.YtmfgaefefgnhbaaGreatDoor.Abs
set_option linter.unusedSimpArgs false
set_option linter.unusedVariables false
open Go Go.RowKit

/-- A letter and two digits. -/
def nmS (c k : Nat) : ByteArray := ⟨#[c.toUInt8, (48 + k / 10).toUInt8, (48 + k % 10).toUInt8]⟩
theorem nmS_name {c k : Nat} (hc : c < 256) (hl : isLetter c = true) (hk : k < 100) : isName (nmS c k) = true := by
  have h0 : byteAt (nmS c k) 0 = c := by simp [byteAt, nmS]; omega
  have h1 : byteAt (nmS c k) 1 = 48 + k / 10 := by simp [byteAt, nmS]; omega
  have h2 : byteAt (nmS c k) 2 = 48 + k % 10 := by simp [byteAt, nmS]; omega
  have hs : (nmS c k).size = 3 := rfl
  have d1 : isDigit (48 + k / 10) = true := by simp [isDigit]; omega
  have d2 : isDigit (48 + k % 10) = true := by simp [isDigit]; omega
  simp [isName, hs, List.range_succ, h0, h1, h2, hl, d1, d2]
theorem nmS_inj {c k c' k' : Nat} (hc : c < 256) (hc' : c' < 256) (hk : k < 100) (hk' : k' < 100) (h : nmS c k = nmS c' k') : c = c' ∧ k = k' := by
  have h0 := congrArg (fun s => byteAt s 0) h
  have h1 := congrArg (fun s => byteAt s 1) h
  have h2 := congrArg (fun s => byteAt s 2) h
  simp [byteAt, nmS] at h0 h1 h2
  omega
def letters : List Nat := [76, 81, 68, 69, 83, 71]
theorem letters_ok {c : Nat} (h : c ∈ letters) : c < 256 ∧ isLetter c = true ∧ c ≠ 78 := by
  simp only [letters, List.mem_cons, List.not_mem_nil, or_false] at h
  rcases h with rfl | rfl | rfl | rfl | rfl | rfl <;> decide

/-- A network as the statements make it, so far. -/
structure Made (k : Nat) (n : Net) : Prop where
  nl : n.nodes.length = k
  nd : ∀ i (hi : i < n.nodes.length), n.nodes[i].name = nmS 78 i ∧ 0 ≤ n.nodes[i].cust ∧ n.nodes[i].cust ≤ 1048576 ∧ 0 ≤ n.nodes[i].comp ∧ n.nodes[i].comp ≤ 7
  dv : ∀ i (hi : i < n.devs.length), (∃ c, c ∈ letters ∧ n.devs[i].name = nmS c i) ∧ n.devs[i].ok k ∧ 0 ≤ n.devs[i].comp ∧ n.devs[i].comp ≤ 7
theorem getD_get {α : Type} {l : List α} {i : Nat} {d : α} (h : i < l.length) : l.getD i d = l[i] := by simp [List.getD_eq_getElem?_getD, h]
theorem Made.ok {k : Nat} {n : Net} (h : Made k n) (hk : k ≤ 32) (hd : n.devs.length ≤ 64) : n.ok := by
  have hl := h.nl
  refine ⟨by omega, hd, fun i hi => ?_, fun i hi => ?_⟩
  · obtain ⟨h1, h2, h3, h4, h5⟩ := h.nd i hi
    have hn := nmS_name (c := 78) (k := i) (by decide) (by decide) (by omega)
    have ht : ¬ n.nodes[i].name ∈ (n.nodes.take i).map Nd.name := by
      intro hm
      obtain ⟨x, hx, e⟩ := List.mem_map.1 hm
      obtain ⟨j, hj, rfl⟩ := List.mem_iff_getElem.1 hx
      rw [List.length_take] at hj
      rw [List.getElem_take] at e
      obtain ⟨g1, _⟩ := h.nd j (by omega)
      rw [g1, h1] at e
      have := (nmS_inj (by decide) (by decide) (by omega) (by omega) e).2
      omega
    simp only [nErr, getD_get hi]
    rw [h1] at ht ⊢
    simp only [hn, ht, Bool.not_true, Bool.false_eq_true, if_false]
    rw [if_neg]
    omega
  · obtain ⟨⟨c, hc, h1⟩, h2, h3, h4⟩ := h.dv i hi
    obtain ⟨c1, c2, c3⟩ := letters_ok hc
    have hn := nmS_name (k := i) c1 c2 (by omega)
    have ht : ¬ n.devs[i].name ∈ n.nodes.map Nd.name ++ (n.devs.take i).map Dv.name := by
      intro hm
      rcases List.mem_append.1 hm with hm | hm
      · obtain ⟨x, hx, e⟩ := List.mem_map.1 hm
        obtain ⟨j, hj, rfl⟩ := List.mem_iff_getElem.1 hx
        obtain ⟨g1, _⟩ := h.nd j hj
        rw [g1, h1] at e
        have := (nmS_inj (by decide) c1 (by omega) (by omega) e).1
        omega
      · obtain ⟨x, hx, e⟩ := List.mem_map.1 hm
        obtain ⟨j, hj, rfl⟩ := List.mem_iff_getElem.1 hx
        rw [List.length_take] at hj
        rw [List.getElem_take] at e
        obtain ⟨⟨c', hc', g1⟩, _⟩ := h.dv j (by omega)
        rw [g1, h1] at e
        have := (nmS_inj (letters_ok hc').1 c1 (by omega) (by omega) e).2
        omega
    have k1 := h2.k1; have k6 := h2.k6; have a0 := h2.a0; have al := h2.al; have hj := h2.j; have hnj := h2.nj
    simp only [dErr, getD_get hi]
    rw [h1] at ht ⊢
    simp only [hn, ht, Bool.not_true, Bool.false_eq_true, if_false]
    rw [if_neg, if_neg, if_neg]
    · omega
    · rintro (g | g | ⟨g1, g2⟩ | ⟨g1, g2⟩)
      · omega
      · omega
      · have := hj g1; omega
      · exact g2 (hnj g1)
    · omega

/-- A deck: the numbers that it is made of, how many are gone, and what it stands at. -/
structure Dk where
  l : List Int
  at_ : Int
  s : Int
def encDk (d : Dk) : List AV := [.lst 1 (d.l.map encN), .raw (.int .i64 d.at_), .raw (.int .u64 d.s)]
structure Dk.ok (d : Dk) : Prop where
  len : d.l.length ≤ 9223372036854775807
  a0 : 0 ≤ d.at_
  al : d.at_ ≤ d.l.length
  s0 : 0 ≤ d.s
  s1 : d.s ≤ 18446744073709551615
  ls : ∀ x, x ∈ d.l → inI x
/-- What a draw gives: some number below n. -/
def Drawn (n : Int) (r : AV) (os : List Obj) : Prop := ∃ (x : Int) (d : Dk), d.ok ∧ 0 ≤ x ∧ (x < n ∨ (n < 1 ∧ x = 0)) ∧ r = .raw (.int .i64 x) ∧ os = [.box (encDk d)]
def DrawnB (r : AV) (os : List Obj) : Prop := ∃ (b : Bool) (d : Dk), d.ok ∧ r = .raw (.bool b) ∧ os = [.box (encDk d)]
end Go.Proofs.YtmfgaefefgnhbaaGreatDoor.Abs
namespace Go.Proofs.YtmfgaefefgnhbaaGreatDoor.Abs
set_option linter.unusedSimpArgs false
set_option linter.unusedVariables false
open Go Go.RowKit

/-- A map that says true of some names. -/
def nameMap (l : List ByteArray) : List (MKey × AV) := l.map fun s => (.str s, .raw (.bool true))
theorem nameMap_find : ∀ (l : List ByteArray) (s : ByteArray), (mfind (nameMap l) (.str s)).getD (.raw (.bool false)) = .raw (.bool (decide (s ∈ l)))
  | [], s => rfl
  | x :: l, s => by
    have ih := nameMap_find l s
    by_cases h : x = s
    · subst h; simp [nameMap, mfind]
    · have h' : ¬ MKey.str x = MKey.str s := fun e => h (by injection e)
      have h'' : ¬ s = x := fun e => h e.symm
      show (mfind ((MKey.str x, AV.raw (.bool true)) :: nameMap l) (.str s)).getD _ = _
      simp only [mfind, h', if_false, ih, List.mem_cons, h'', false_or]
theorem nameMap_put {l : List ByteArray} {s : ByteArray} (h : ¬ s ∈ l) : mput (nameMap l) (.str s) (.raw (.bool true)) = nameMap (l ++ [s]) := by
  have hn : midx (nameMap l) (.str s) = none := by
    cases hm : midx (nameMap l) (.str s) with
    | none => rfl
    | some j =>
      obtain ⟨a, h1, _⟩ := midx_some hm
      have := List.mem_of_getElem? h1
      simp only [nameMap, List.mem_map, Prod.mk.injEq, MKey.str.injEq] at this
      obtain ⟨x, hx, rfl, _⟩ := this
      exact absurd hx h
  simp only [mput, hn]
  simp [nameMap]
end Go.Proofs.YtmfgaefefgnhbaaGreatDoor.Abs
namespace Go.Proofs.YtmfgaefefgnhbaaGreatDoor.Abs
set_option linter.unusedSimpArgs false
set_option linter.unusedVariables false
set_option maxRecDepth 100000
open Go Go.RowKit

attribute [go_sem] decide_true decide_false
/-- What is known of package-level variables: which bytes may stand in a name. -/
def classCells : List AV := [.raw (.int .u8 65), .raw (.int .u8 90), .raw (.bool true), .raw (.int .u8 97), .raw (.int .u8 122), .raw (.bool true), .raw (.int .u8 48), .raw (.int .u8 57), .raw (.bool false), .raw (.int .u8 95), .raw (.int .u8 95), .raw (.bool false)]
def GT0 : Globs := [(0, classCells)]
@[go_sem] theorem lookup_classes : lookupG GT0 0 = .cptr [.raw (.int .u8 65), .raw (.int .u8 90), .raw (.bool true), .raw (.int .u8 97), .raw (.int .u8 122), .raw (.bool true), .raw (.int .u8 48), .raw (.int .u8 57), .raw (.bool false), .raw (.int .u8 95), .raw (.int .u8 95), .raw (.bool false)] := rfl

theorem joins (k : Int) : Fn1 Tryz.prog GT0 108 [.raw (.int .i64 k)] (.raw (.bool (joinsK k))) [] := by
  refine holds_of Tryz.func108 rfl rfl ?_
  refine J_run 200 ?_
  delta Tryz.f108
  repeat' (first
    | (simp (maxSteps := 1000000) (disch := omega) only [go_sem])
    | ((with_reducible first | refine gDt ?_ ?_ | refine gDf ?_ ?_ | refine gNt ?_ ?_ | refine gNf ?_ ?_ | refine cD ?_ ?_ | refine cN ?_ ?_ | refine cB ?_ ?_ | refine gB ?_ ?_) <;> intro h)
    | with_reducible first | refine And.intro ?_ ?_ | refine J_seq ?_ | refine J_block ?_ | refine J_inBlock ?_ | refine rC ?_ | refine rR ?_ | refine rE ?_ | refine rG ?_ | refine FinQ.now ?_ | refine FinQ.end ?_)
  all_goals first | (simp_all [joinsK]; done) | (simp_all [joinsK]; omega) | omega
theorem gap (k : Int) : Fn1 Tryz.prog GT0 127 [.raw (.int .i64 k)] (.raw (.bool (gapK k))) [] := by
  refine holds_of Tryz.func127 rfl rfl ?_
  refine J_run 200 ?_
  delta Tryz.f127
  repeat' (first
    | (simp (maxSteps := 1000000) (disch := omega) only [go_sem])
    | ((with_reducible first | refine gDt ?_ ?_ | refine gDf ?_ ?_ | refine gNt ?_ ?_ | refine gNf ?_ ?_ | refine cD ?_ ?_ | refine cN ?_ ?_ | refine cB ?_ ?_ | refine gB ?_ ?_) <;> intro h)
    | with_reducible first | refine And.intro ?_ ?_ | refine J_seq ?_ | refine J_block ?_ | refine J_inBlock ?_ | refine rC ?_ | refine rR ?_ | refine rE ?_ | refine rG ?_ | refine FinQ.now ?_ | refine FinQ.end ?_)
  all_goals first | (simp_all [gapK]; done) | (simp_all [gapK]; omega) | omega
theorem company (k : Int) : Fn1 Tryz.prog GT0 75 [.raw (.int .i64 k)] (.raw (.bool (decide (0 ≤ k ∧ k ≤ 7)))) [] := by
  refine holds_of Tryz.func75 rfl rfl ?_
  refine J_run 200 ?_
  delta Tryz.f75
  repeat' (first
    | (simp (maxSteps := 1000000) (disch := omega) only [go_sem])
    | ((with_reducible first | refine gDt ?_ ?_ | refine gDf ?_ ?_ | refine gNt ?_ ?_ | refine gNf ?_ ?_ | refine cD ?_ ?_ | refine cN ?_ ?_ | refine cB ?_ ?_ | refine gB ?_ ?_) <;> intro h)
    | with_reducible first | refine And.intro ?_ ?_ | refine J_seq ?_ | refine J_block ?_ | refine J_inBlock ?_ | refine rC ?_ | refine rR ?_ | refine rE ?_ | refine rG ?_ | refine FinQ.now ?_ | refine FinQ.end ?_)
  all_goals first | (simp_all []; done) | (simp_all []; omega) | omega
def endsB (x : Dv) (nl : Int) : Bool := if x.a < 0 ∨ nl ≤ x.a then false else if joinsK x.kind = false then decide (x.b = -1) else decide (0 ≤ x.b ∧ x.b < nl ∧ x.b ≠ x.a)
theorem ends (x : Dv) (nl : Int) : Fn1 Tryz.prog GT0 76 [.agg (encDv x), .raw (.int .i64 nl)] (.raw (.bool (endsB x nl))) [] := by
  have cj := joins x.kind
  refine holds_of Tryz.func76 rfl rfl ?_
  refine J_run 200 ?_
  delta Tryz.f76
  simp only [encDv]
  repeat' (first
    | (simp (maxSteps := 1000000) (disch := omega) only [go_sem])
    | ((with_reducible refine CallA.pure cj ?_ ?_); (· simp only [go_sem]); rintro _ _ ⟨rfl, rfl⟩)
    | ((with_reducible first | refine gDt ?_ ?_ | refine gDf ?_ ?_ | refine gNt ?_ ?_ | refine gNf ?_ ?_ | refine cD ?_ ?_ | refine cN ?_ ?_ | refine cB ?_ ?_ | refine gB ?_ ?_) <;> intro h)
    | with_reducible first | refine And.intro ?_ ?_ | refine J_seq ?_ | refine J_block ?_ | refine J_inBlock ?_ | refine rC ?_ | refine rR ?_ | refine rE ?_ | refine rG ?_ | refine FinQ.now ?_ | refine FinQ.end ?_)
  all_goals first | (simp_all [endsB]; done) | (simp_all [endsB]; omega) | omega
/-- The other node of a device. -/
def acrossV (x : Dv) (v : Int) : Int := if joinsK x.kind = false then -1 else if x.a = v then x.b else if x.b = v then x.a else -1
theorem across (x : Dv) (v : Int) : Fn1 Tryz.prog GT0 144 [.agg (encDv x), .raw (.int .i64 v)] (.raw (.int .i64 (acrossV x v))) [] := by
  have cj := joins x.kind
  refine holds_of Tryz.func144 rfl rfl ?_
  refine J_run 200 ?_
  delta Tryz.f144
  simp only [encDv]
  repeat' (first
    | (simp (maxSteps := 1000000) (disch := omega) only [go_sem])
    | ((with_reducible refine CallA.pure cj ?_ ?_); (· simp only [go_sem]); rintro _ _ ⟨rfl, rfl⟩)
    | ((with_reducible first | refine gDt ?_ ?_ | refine gDf ?_ ?_ | refine gNt ?_ ?_ | refine gNf ?_ ?_ | refine cD ?_ ?_ | refine cN ?_ ?_ | refine cB ?_ ?_ | refine gB ?_ ?_) <;> intro h)
    | with_reducible first | refine And.intro ?_ ?_ | refine J_seq ?_ | refine J_block ?_ | refine J_inBlock ?_ | refine rC ?_ | refine rR ?_ | refine rE ?_ | refine rG ?_ | refine FinQ.now ?_ | refine FinQ.end ?_)
  all_goals first | (simp_all [acrossV]; done) | (simp_all [acrossV]; omega) | omega

/-- Whether a byte may stand in a name, or begin it. -/
def fitsB (b : Nat) (first : Bool) : Bool := isLetter b || (!first && (isDigit b || decide (b = 95)))
set_option maxHeartbeats 1000000 in
theorem fits (b : Nat) (hb : b < 256) (first : Bool) : Fn1 Tryz.prog GT0 96 [.raw (.int .u8 b), .raw (.bool first)] (.raw (.bool (fitsB b first))) [] := by
  refine holds_of Tryz.func96 rfl rfl ?_
  refine J_run 200 ?_
  delta Tryz.f96
  repeat' (first
    | (simp (maxSteps := 1000000) (disch := omega) only [go_sem])
    | ((with_reducible first | refine gDt ?_ ?_ | refine gDf ?_ ?_ | refine gNt ?_ ?_ | refine gNf ?_ ?_ | refine cD ?_ ?_ | refine cN ?_ ?_ | refine cB ?_ ?_ | refine gB ?_ ?_) <;> intro h)
    | with_reducible first | refine And.intro ?_ ?_ | refine J_seq ?_ | refine J_block ?_ | refine J_inBlock ?_ | refine rC ?_ | refine rR ?_ | refine rE ?_ | refine rG ?_ | refine FinQ.now ?_ | refine FinQ.end ?_)
  refine J_for ([6] ++ upto 9 27) (fun i : Nat => [(8, .raw (.int .i64 i))]) (fun _ => []) (fun i => i ≤ 4 ∧ (0 < i → ¬ (65 ≤ b ∧ b ≤ 90)) ∧ (1 < i → ¬ (97 ≤ b ∧ b ≤ 122)) ∧ (2 < i → ¬ (48 ≤ b ∧ b ≤ 57)) ∧ (3 < i → b ≠ 95)) (fun i => 4 - i) 0 (by omega) (.le (by simp [go_sem]) (by simp)) ?_
  rintro i ⟨hi, h0, h1, h2, h3⟩
  rcases i with _ | _ | _ | _ | _ | i
  all_goals (try (exfalso; omega))
  all_goals refine J_run 200 ?_
  · repeat' (first
      | (simp (maxSteps := 1000000) (disch := omega) only [go_sem])
      | ((with_reducible first | refine gDt ?_ ?_ | refine gDf ?_ ?_ | refine gNt ?_ ?_ | refine gNf ?_ ?_ | refine cD ?_ ?_ | refine cN ?_ ?_ | refine cB ?_ ?_ | refine gB ?_ ?_) <;> intro h)
      | with_reducible first | refine And.intro ?_ ?_ | refine J_seq ?_ | refine J_block ?_ | refine J_inBlock ?_ | refine rC ?_ | refine rR ?_ | refine rE ?_ | refine rG ?_ | refine FinQ.now ?_ | refine FinQ.end ?_)
    all_goals first | exact .mk 1 (by omega) (by omega) (by simp [go_sem]) (by simp) | (simp_all [fitsB, isLetter]; done) | (simp_all [fitsB, isLetter]; omega) | trace_state
  · repeat' (first
      | (simp (maxSteps := 1000000) (disch := omega) only [go_sem])
      | ((with_reducible first | refine gDt ?_ ?_ | refine gDf ?_ ?_ | refine gNt ?_ ?_ | refine gNf ?_ ?_ | refine cD ?_ ?_ | refine cN ?_ ?_ | refine cB ?_ ?_ | refine gB ?_ ?_) <;> intro h)
      | with_reducible first | refine And.intro ?_ ?_ | refine J_seq ?_ | refine J_block ?_ | refine J_inBlock ?_ | refine rC ?_ | refine rR ?_ | refine rE ?_ | refine rG ?_ | refine FinQ.now ?_ | refine FinQ.end ?_)
    all_goals first | exact .mk 2 (by omega) (by omega) (by simp [go_sem]) (by simp) | (simp_all [fitsB, isLetter]; done) | (simp_all [fitsB, isLetter]; omega) | trace_state
  · repeat' (first
      | (simp (maxSteps := 1000000) (disch := omega) only [go_sem])
      | ((with_reducible first | refine gDt ?_ ?_ | refine gDf ?_ ?_ | refine gNt ?_ ?_ | refine gNf ?_ ?_ | refine cD ?_ ?_ | refine cN ?_ ?_ | refine cB ?_ ?_ | refine gB ?_ ?_) <;> intro h)
      | with_reducible first | refine And.intro ?_ ?_ | refine J_seq ?_ | refine J_block ?_ | refine J_inBlock ?_ | refine rC ?_ | refine rR ?_ | refine rE ?_ | refine rG ?_ | refine FinQ.now ?_ | refine FinQ.end ?_)
    all_goals first | exact .mk 3 (by omega) (by omega) (by simp [go_sem]) (by simp) | (cases first <;> simp [fitsB, isLetter, isDigit] <;> omega) | (simp_all [fitsB, isLetter, isDigit]; done) | (simp_all [fitsB, isLetter, isDigit]; omega) | trace_state
  · repeat' (first
      | (simp (maxSteps := 1000000) (disch := omega) only [go_sem])
      | ((with_reducible first | refine gDt ?_ ?_ | refine gDf ?_ ?_ | refine gNt ?_ ?_ | refine gNf ?_ ?_ | refine cD ?_ ?_ | refine cN ?_ ?_ | refine cB ?_ ?_ | refine gB ?_ ?_) <;> intro h)
      | with_reducible first | refine And.intro ?_ ?_ | refine J_seq ?_ | refine J_block ?_ | refine J_inBlock ?_ | refine rC ?_ | refine rR ?_ | refine rE ?_ | refine rG ?_ | refine FinQ.now ?_ | refine FinQ.end ?_)
    all_goals first | exact .mk 4 (by omega) (by omega) (by simp [go_sem]) (by simp) | (cases first <;> simp [fitsB, isLetter, isDigit] <;> omega) | (simp_all [fitsB, isLetter, isDigit]; done) | (simp_all [fitsB, isLetter, isDigit]; omega) | trace_state
  · repeat' (first
      | (simp (maxSteps := 1000000) (disch := omega) only [go_sem])
      | ((with_reducible first | refine gDt ?_ ?_ | refine gDf ?_ ?_ | refine gNt ?_ ?_ | refine gNf ?_ ?_ | refine cD ?_ ?_ | refine cN ?_ ?_ | refine cB ?_ ?_ | refine gB ?_ ?_) <;> intro h)
      | with_reducible first | refine And.intro ?_ ?_ | refine J_seq ?_ | refine J_block ?_ | refine J_inBlock ?_ | refine rC ?_ | refine rR ?_ | refine rE ?_ | refine rG ?_ | refine FinQ.now ?_ | refine FinQ.end ?_)
    all_goals first | (cases first <;> simp [fitsB, isLetter, isDigit] <;> omega) | (simp_all [fitsB, isLetter, isDigit]; done) | (simp_all [fitsB, isLetter, isDigit]; omega) | trace_state

/-- Where the first element is that fits. -/
def firstAt {α : Type} (p : α → Bool) : List α → Int
  | [] => -1
  | x :: xs => if p x then 0 else (if firstAt p xs < 0 then -1 else firstAt p xs + 1)
theorem firstAt_none {α : Type} {p : α → Bool} : ∀ {l : List α}, (∀ x, x ∈ l → p x = false) → firstAt p l = -1
  | [], _ => rfl
  | x :: l, h => by simp [firstAt, h x List.mem_cons_self, firstAt_none fun y hy => h y (List.mem_cons_of_mem _ hy)]
theorem firstAt_some {α : Type} {p : α → Bool} : ∀ {l : List α} {i : Nat} (hi : i < l.length), p l[i] = true → (∀ j (hj : j < i), p (l[j]'(by omega)) = false) → firstAt p l = i
  | x :: l, 0, _, h, _ => by simp at h; simp [firstAt, h]
  | x :: l, i + 1, hi, h, hpre => by
    have h0 := hpre 0 (by omega)
    simp at h0
    have := firstAt_some (l := l) (i := i) (by simpa using hi) (by simpa using h) (fun j hj => by simpa using hpre (j + 1) (by omega))
    simp only [firstAt, h0, this]
    simp; omega
theorem firstAt_lo {α : Type} {p : α → Bool} : ∀ l : List α, -1 ≤ firstAt p l
  | [] => by simp [firstAt]
  | x :: l => by
    have := firstAt_lo (p := p) l
    simp only [firstAt]
    split
    · omega
    · split <;> omega
theorem firstAt_ge' {α : Type} {p : α → Bool} : ∀ l : List α, 0 ≤ firstAt p l ↔ l.any p = true
  | [] => by simp [firstAt]
  | x :: l => by
    have := firstAt_ge' (p := p) l
    rw [List.any_cons, Bool.or_eq_true, ← this]
    have e : firstAt p (x :: l) = if p x then 0 else (if firstAt p l < 0 then -1 else firstAt p l + 1) := rfl
    rw [e]
    split
    · rename_i h; simp [h]
    · rename_i h
      split
      · simp [h]; omega
      · simp [h]; omega
theorem firstAt_ge {α : Type} {p : α → Bool} (l : List α) : decide (0 ≤ firstAt p l) = l.any p := by
  rw [Bool.eq_iff_iff, decide_eq_true_eq]; exact firstAt_ge' l

theorem getD_N {l : List Int} {i : Nat} (h : i < l.length) : (l.map encN).getD i [] = [.raw (.int .i64 l[i])] := by rw [getD_map h]; rfl
theorem index (l : List Int) (x : Int) (hl : l.length ≤ 9223372036854775807) : Fn1 Tryz.prog GT0 125 [.lst 1 (l.map encN), .raw (.int .i64 x)] (.raw (.int .i64 (firstAt (fun y => decide (y = x)) l))) [] := by
  refine holds_of Tryz.func125 rfl rfl ?_
  refine J_run 200 ?_
  delta Tryz.f125
  repeat' (first
    | (simp (maxSteps := 1000000) (disch := omega) only [go_sem])
    | ((with_reducible first | refine gDt ?_ ?_ | refine gDf ?_ ?_ | refine gNt ?_ ?_ | refine gNf ?_ ?_ | refine cD ?_ ?_ | refine cN ?_ ?_ | refine cB ?_ ?_ | refine gB ?_ ?_) <;> intro h)
    | with_reducible first | refine And.intro ?_ ?_ | refine J_seq ?_ | refine J_block ?_ | refine J_inBlock ?_ | refine rC ?_ | refine rR ?_ | refine rE ?_ | refine rG ?_ | refine FinQ.now ?_ | refine FinQ.end ?_)
  refine J_for ([5] ++ upto 9 18) (fun i : Nat => [(8, .raw (.int .i64 i))]) (fun _ => []) (fun i => i ≤ l.length ∧ ∀ j (hj : j < i) (h : j < l.length), l[j] ≠ x) (fun i => l.length - i) 0 ⟨by omega, by omega⟩ (.le (by simp [go_sem]) (by simp)) ?_
  rintro i ⟨hi, hpre⟩
  by_cases hlt : i < l.length
  · refine J_run 200 ?_
    repeat' (first
      | (simp (maxSteps := 1000000) (disch := omega) only [go_sem, getD_N])
      | ((with_reducible first | refine gDt ?_ ?_ | refine gDf ?_ ?_ | refine gNt ?_ ?_ | refine gNf ?_ ?_ | refine cD ?_ ?_ | refine cN ?_ ?_ | refine cB ?_ ?_ | refine gB ?_ ?_) <;> intro h)
      | with_reducible first | refine And.intro ?_ ?_ | refine J_seq ?_ | refine J_block ?_ | refine J_inBlock ?_ | refine rC ?_ | refine rR ?_ | refine rE ?_ | refine rG ?_ | refine FinQ.now ?_ | refine FinQ.end ?_)
    · rw [firstAt_some hlt (by simp [h]) fun j hj => by simpa using hpre j hj (by omega)]
    · exact .mk (i + 1) ⟨hlt, fun j hj hx => by
        rcases Nat.lt_succ_iff_lt_or_eq.1 hj with h1 | rfl
        · exact hpre j h1 hx
        · exact fun e => h e.symm⟩ (by omega) (by simp [go_sem]) (by simp)
  · refine J_run 200 ?_
    repeat' (first
      | (simp (maxSteps := 1000000) (disch := omega) only [go_sem])
      | ((with_reducible first | refine gDt ?_ ?_ | refine gDf ?_ ?_ | refine gNt ?_ ?_ | refine gNf ?_ ?_ | refine cD ?_ ?_ | refine cN ?_ ?_ | refine cB ?_ ?_ | refine gB ?_ ?_) <;> intro h)
      | with_reducible first | refine And.intro ?_ ?_ | refine J_seq ?_ | refine J_block ?_ | refine J_inBlock ?_ | refine rC ?_ | refine rR ?_ | refine rE ?_ | refine rG ?_ | refine FinQ.now ?_ | refine FinQ.end ?_)
    rw [firstAt_none fun y hy => ?_]
    obtain ⟨j, hj, rfl⟩ := List.mem_iff_getElem.1 hy
    simpa using hpre j (by omega) hj
theorem contains (l : List Int) (x : Int) (hl : l.length ≤ 9223372036854775807) : Fn1 Tryz.prog GT0 101 [.lst 1 (l.map encN), .raw (.int .i64 x)] (.raw (.bool (decide (x ∈ l)))) [] := by
  have c := index l x hl
  refine holds_of Tryz.func101 rfl rfl ?_
  refine J_run 200 ?_
  delta Tryz.f101
  repeat' (first
    | (simp (maxSteps := 1000000) (disch := omega) only [go_sem])
    | ((with_reducible refine CallA.pure c ?_ ?_); (· simp only [go_sem]); rintro _ _ ⟨rfl, rfl⟩)
    | ((with_reducible first | refine gDt ?_ ?_ | refine gDf ?_ ?_ | refine gNt ?_ ?_ | refine gNf ?_ ?_ | refine cD ?_ ?_ | refine cN ?_ ?_ | refine cB ?_ ?_ | refine gB ?_ ?_) <;> intro h)
    | with_reducible first | refine And.intro ?_ ?_ | refine J_seq ?_ | refine J_block ?_ | refine J_inBlock ?_ | refine rC ?_ | refine rR ?_ | refine rE ?_ | refine rG ?_ | refine FinQ.now ?_ | refine FinQ.end ?_)
  rw [firstAt_ge]
  rw [Bool.eq_iff_iff]
  simp
end Go.Proofs.YtmfgaefefgnhbaaGreatDoor.Abs
namespace Go.Proofs.YtmfgaefefgnhbaaGreatDoor.Abs
set_option linter.unusedSimpArgs false
set_option linter.unusedVariables false
set_option maxRecDepth 100000
open Go Go.RowKit

theorem risingFrom_drop {u : Int} {l : List Int} {last : Int} {i : Nat} (hi : i < l.length) : risingFrom u last (l.drop i) = (decide (last < l[i] ∧ l[i] < u) && risingFrom u l[i] (l.drop (i + 1))) := by
  rw [List.drop_eq_getElem_cons hi]
  rfl
set_option maxHeartbeats 1000000 in
theorem risingF (l : List Int) (u : Int) (hl : l.length ≤ 1000000) : Fn1 Tryz.prog GT0 95 [.lst 1 (l.map encN), .raw (.int .i64 u)] (.raw (.bool (rising l u))) [] := by
  refine holds_of Tryz.func95 rfl rfl ?_
  refine J_run 200 ?_
  delta Tryz.f95
  repeat' (first
    | (simp (maxSteps := 1000000) (disch := omega) only [go_sem])
    | ((with_reducible first | refine gDt ?_ ?_ | refine gDf ?_ ?_ | refine gNt ?_ ?_ | refine gNf ?_ ?_ | refine cD ?_ ?_ | refine cN ?_ ?_ | refine cB ?_ ?_ | refine gB ?_ ?_) <;> intro h)
    | with_reducible first | refine And.intro ?_ ?_ | refine J_seq ?_ | refine J_block ?_ | refine J_inBlock ?_ | refine rC ?_ | refine rR ?_ | refine rE ?_ | refine rG ?_ | refine FinQ.now ?_ | refine FinQ.end ?_)
  refine J_for (upto 12 24 ++ [7]) (fun x : Nat × Int => [(11, .raw (.int .i64 x.1)), (5, .raw (.int .i64 x.2))]) (fun _ => []) (fun x => x.1 ≤ l.length ∧ rising l u = risingFrom u x.2 (l.drop x.1)) (fun x => l.length - x.1) (0, -1) ⟨by omega, by simp [rising]⟩ (.le (by simp [go_sem]) (by simp)) ?_
  rintro ⟨i, last⟩ ⟨hi, hpre⟩
  simp only at hi hpre
  by_cases hlt : i < l.length
  · rw [risingFrom_drop hlt] at hpre
    refine J_run 200 ?_
    repeat' (first
      | (simp (maxSteps := 1000000) (disch := omega) only [go_sem, getD_N])
      | ((with_reducible first | refine gDt ?_ ?_ | refine gDf ?_ ?_ | refine gNt ?_ ?_ | refine gNf ?_ ?_ | refine cD ?_ ?_ | refine cN ?_ ?_ | refine cB ?_ ?_ | refine gB ?_ ?_) <;> intro h)
      | with_reducible first | refine And.intro ?_ ?_ | refine J_seq ?_ | refine J_block ?_ | refine J_inBlock ?_ | refine rC ?_ | refine rR ?_ | refine rE ?_ | refine rG ?_ | refine FinQ.now ?_ | refine FinQ.end ?_)
    all_goals first
      | (exact .mk (i + 1, l[i]) ⟨hlt, by rw [hpre]; simp only; rw [decide_eq_true (by omega)]; simp⟩ (by simp only; omega) (by simp [go_sem]) (by simp))
      | (rw [hpre]; symm; rw [Bool.and_eq_false_iff]; left; simp; omega)
      | trace_state
  · have hil : i = l.length := by omega
    subst hil
    refine J_run 200 ?_
    repeat' (first
      | (simp (maxSteps := 1000000) (disch := omega) only [go_sem])
      | ((with_reducible first | refine gDt ?_ ?_ | refine gDf ?_ ?_ | refine gNt ?_ ?_ | refine gNf ?_ ?_ | refine cD ?_ ?_ | refine cN ?_ ?_ | refine cB ?_ ?_ | refine gB ?_ ?_) <;> intro h)
      | with_reducible first | refine And.intro ?_ ?_ | refine J_seq ?_ | refine J_block ?_ | refine J_inBlock ?_ | refine rC ?_ | refine rR ?_ | refine rE ?_ | refine rG ?_ | refine FinQ.now ?_ | refine FinQ.end ?_)
    rw [hpre]
    simp [risingFrom]
theorem cloneN (xs : List (List AV)) (hl : xs.length ≤ 1000000) : Fn1 Tryz.prog GT0 143 [.lst 1 xs] (.own 0 1 0 xs.length) [.arr 1 xs] := by
  refine holds_of Tryz.func143 rfl rfl ?_
  refine J_run 200 ?_
  delta Tryz.f143
  simp (maxSteps := 1000000) (disch := omega) only [go_sem]
  intro b hb
  refine condW_by (fun ht => ?_) (fun ht => ?_)
  · obtain rfl := hb ht
    simp (maxSteps := 1000000) (disch := omega) only [go_sem]
    refine .nilName 2 1 rfl (.now ?_)
    simp only [go_sem]
  · simp (maxSteps := 1000000) (disch := omega) only [go_sem]
    refine .now ?_
    simp only [go_sem]
end Go.Proofs.YtmfgaefefgnhbaaGreatDoor.Abs
namespace Go.Proofs.YtmfgaefefgnhbaaGreatDoor.Abs
set_option linter.unusedSimpArgs false
set_option linter.unusedVariables false
set_option maxRecDepth 100000
open Go Go.RowKit

@[go_sem] theorem encDk_leafs (f : AV → AV) (d : Dk) : AV.leafsL f (encDk d) = encDk d := rfl
@[go_sem] theorem encDk_names (d : Dk) : AV.namesL (encDk d) = [] := rfl
@[go_sem] theorem encDk_imm (d : Dk) : AV.immL (encDk d) = true := rfl
@[go_sem] theorem encDk_keeps (s : St) (d : Dk) : AV.keepsL s (encDk d) = true := rfl
@[go_sem] theorem encDk_length (d : Dk) : (encDk d).length = 3 := rfl
@[go_sem] theorem encNet_leafs (f : AV → AV) (d : Net) : AV.leafsL f (encNet d) = encNet d := rfl
@[go_sem] theorem encNet_names (d : Net) : AV.namesL (encNet d) = [] := rfl
@[go_sem] theorem encNet_imm (d : Net) : AV.immL (encNet d) = true := rfl
@[go_sem] theorem encNet_keeps (s : St) (d : Net) : AV.keepsL s (encNet d) = true := rfl
@[go_sem] theorem encNet_length (d : Net) : (encNet d).length = 2 := rfl
theorem few (l : List Int) (hl : l.length ≤ 9223372036854775807) : Fn1 Tryz.prog GT0 5 [.lst 1 (l.map encN)] (.raw (.bool (decide (l.length ≤ 400)))) [] := by
  refine holds_of Tryz.func5 rfl rfl ?_
  refine J_run 200 ?_
  delta Tryz.f5
  repeat' (first
    | (simp (maxSteps := 1000000) (disch := omega) only [go_sem])
    | ((with_reducible first | refine gDt ?_ ?_ | refine gDf ?_ ?_ | refine gNt ?_ ?_ | refine gNf ?_ ?_ | refine cD ?_ ?_ | refine cN ?_ ?_ | refine cB ?_ ?_ | refine gB ?_ ?_) <;> intro h)
    | with_reducible first | refine And.intro ?_ ?_ | refine J_seq ?_ | refine J_block ?_ | refine J_inBlock ?_ | refine rC ?_ | refine rR ?_ | refine rE ?_ | refine rG ?_ | refine FinQ.now ?_ | refine FinQ.end ?_)
  all_goals (simp; try omega)
theorem newDeck (l : List Int) : Fn1 Tryz.prog GT0 6 [.lst 1 (l.map encN)] (.ref 0 0) [.box (encDk ⟨l, 0, 88172645463325252⟩)] := by
  refine holds_of Tryz.func6 rfl rfl ?_
  refine J_run 200 ?_
  delta Tryz.f6
  repeat' (first
    | (simp (maxSteps := 1000000) (disch := omega) only [go_sem])
    | ((with_reducible first | refine gDt ?_ ?_ | refine gDf ?_ ?_ | refine gNt ?_ ?_ | refine gNf ?_ ?_ | refine cD ?_ ?_ | refine cN ?_ ?_ | refine cB ?_ ?_ | refine gB ?_ ?_) <;> intro h)
    | with_reducible first | refine And.intro ?_ ?_ | refine J_seq ?_ | refine J_block ?_ | refine J_inBlock ?_ | refine rC ?_ | refine rR ?_ | refine rE ?_ | refine rG ?_ | refine FinQ.now ?_ | refine FinQ.end ?_)
  all_goals simp [encDk]
theorem wrap_u64 (y : Int) : IntKind.u64.wrap y = y % 18446744073709551616 := by simp [IntKind.wrap, IntKind.bits, IntKind.signed]
theorem drawn_zero {n : Int} (hn : n < 1) {l : List Int} {k y : Int} (hl : l.length ≤ 9223372036854775807) (hk : 0 ≤ k ∧ k ≤ l.length) (hls : ∀ x, x ∈ l → inI x) :
    Drawn n (.raw (.int .i64 0)) [.box [.lst 1 (l.map encN), .raw (.int .i64 k), .raw (.int .u64 (IntKind.u64.wrap y))]] :=
  ⟨0, ⟨l, k, IntKind.u64.wrap y⟩, ⟨hl, hk.1, hk.2, by simp only [wrap_u64]; omega, by simp only [wrap_u64]; omega, hls⟩, by omega, .inr ⟨hn, rfl⟩, rfl, rfl⟩
theorem drawn_mk {n : Int} (hn : 1 ≤ n) (hi : inI n) {l : List Int} {k y : Int} (hl : l.length ≤ 9223372036854775807) (hk : 0 ≤ k ∧ k ≤ l.length) (hls : ∀ x, x ∈ l → inI x) :
    Drawn n (.raw (.int .i64 (IntKind.i64.wrap (((IntKind.u64.wrap y).fdiv (2 ^ min 33 64)).tmod (IntKind.u64.wrap n))))) [.box [.lst 1 (l.map encN), .raw (.int .i64 k), .raw (.int .u64 (IntKind.u64.wrap y))]] := by
  have hw : IntKind.u64.wrap n = n := by have := hi.2; rw [wrap_u64]; omega
  have h1 : (2 : Int) ^ min 33 64 = 8589934592 := by decide
  have h2 : 0 ≤ (IntKind.u64.wrap y).fdiv 8589934592 ∧ (IntKind.u64.wrap y).fdiv 8589934592 ≤ 4611686018427387904 := by
    rw [Int.fdiv_eq_ediv_of_nonneg _ (by omega), wrap_u64]
    omega
  rw [hw, h1]
  generalize (IntKind.u64.wrap y).fdiv 8589934592 = q at h2
  have h3 : q.tmod n = q % n := Int.tmod_eq_emod_of_nonneg h2.1
  have h4 : 0 ≤ q % n := Int.emod_nonneg _ (by omega)
  have h5 : q % n < n := Int.emod_lt_of_pos _ (by omega)
  have h6 := hi.2
  rw [h3, wrap_in (by omega) (by omega)]
  exact ⟨q % n, ⟨l, k, IntKind.u64.wrap y⟩, ⟨hl, hk.1, hk.2, by simp only [wrap_u64]; omega, by simp only [wrap_u64]; omega, hls⟩, h4, .inl h5, rfl, rfl⟩
theorem wrap_pos {n : Int} (hn : ¬ n < 1) (hi : -9223372036854775808 ≤ n ∧ n ≤ 9223372036854775807) : ¬ IntKind.u64.wrap n = 0 := by
  rw [wrap_u64]; omega
set_option maxHeartbeats 1000000 in
theorem next (d : Dk) (hd : d.ok) (n : Int) (hn : inI n) : Holds Tryz.prog GT0 13 [.ref 0 0, .raw (.int .i64 n)] [.box (encDk d)] (Drawn n) := by
  obtain ⟨l, at_, s⟩ := d
  obtain ⟨h1, h2, h3, h4, h5, h6⟩ := hd
  simp only at h1 h2 h3 h4 h5 h6
  simp only [inI] at hn
  refine holds_of Tryz.func13 rfl rfl ?_
  refine J_run 200 ?_
  delta Tryz.f13
  simp only [encDk]
  obtain ⟨k, rfl⟩ : ∃ k : Nat, at_ = k := ⟨at_.toNat, by omega⟩
  repeat' (first
    | ((with_reducible refine J_draw (id := 2) 200 [] plan13_2 (by kernel_rfl) (by kernel_rfl) ?_); delta plan13_2)
    | ((with_reducible refine J_draw (id := 3) 200 [] plan13_3 (by kernel_rfl) (by kernel_rfl) ?_); delta plan13_3)
    | (simp (maxSteps := 1000000) (disch := omega) only [go_sem, getD_N])
    | ((with_reducible first | refine gDt ?_ ?_ | refine gDf ?_ ?_ | refine gNt ?_ ?_ | refine gNf ?_ ?_ | refine cD ?_ ?_ | refine cN ?_ ?_ | refine cB ?_ ?_ | refine gB ?_ ?_) <;> intro h)
    | with_reducible first | refine And.intro ?_ ?_ | refine J_seq ?_ | refine J_block ?_ | refine J_inBlock ?_ | refine rC ?_ | refine rR ?_ | refine rE ?_ | refine rG ?_ | refine FinQ.now ?_ | refine FinQ.end ?_)
  all_goals first
    | exact drawn_zero (by omega) h1 (by omega) h6
    | exact drawn_mk (by omega) hn h1 (by omega) h6
    | exact wrap_pos (by assumption) hn
theorem one (d : Dk) (hd : d.ok) (n : Int) (hn : inI n) : Holds Tryz.prog GT0 12 [.ref 0 0, .raw (.int .i64 n)] [.box (encDk d)] DrawnB := by
  have c := next d hd n hn
  refine holds_of Tryz.func12 rfl rfl ?_
  refine J_run 200 ?_
  delta Tryz.f12
  repeat' (first
    | (simp (maxSteps := 1000000) (disch := omega) only [go_sem])
    | ((with_reducible refine CallA.mut [0] ?_ ?_ ?_ ?_ c ?_); (· simp only [go_sem]); (· simp only [go_sem]); (· simp only [go_sem]); (· simp only [go_sem]); rintro _ _ ⟨x, d', hd', h0, h1, rfl, rfl⟩)
    | ((with_reducible first | refine gDt ?_ ?_ | refine gDf ?_ ?_ | refine gNt ?_ ?_ | refine gNf ?_ ?_ | refine cD ?_ ?_ | refine cN ?_ ?_ | refine cB ?_ ?_ | refine gB ?_ ?_) <;> intro h)
    | with_reducible first | refine And.intro ?_ ?_ | refine J_seq ?_ | refine J_block ?_ | refine J_inBlock ?_ | refine rC ?_ | refine rR ?_ | refine rE ?_ | refine rG ?_ | refine FinQ.now ?_ | refine FinQ.end ?_)
  exact ⟨_, d', hd', rfl, rfl⟩
end Go.Proofs.YtmfgaefefgnhbaaGreatDoor.Abs
namespace Go.Proofs.YtmfgaefefgnhbaaGreatDoor.Abs
set_option linter.unusedSimpArgs false
set_option linter.unusedVariables false
set_option maxRecDepth 100000
open Go Go.RowKit

theorem risingFrom_pair {u : Int} : ∀ {l : List Int} {last : Int}, risingFrom u last l = true ↔ (last :: l).Pairwise (· < ·) ∧ ∀ x, x ∈ l → x < u
  | [], _ => by simp [risingFrom]
  | y :: l, last => by
    simp only [risingFrom, Bool.and_eq_true, decide_eq_true_eq, risingFrom_pair (l := l)]
    rw [List.pairwise_cons (a := last)]
    constructor
    · rintro ⟨⟨h1, h2⟩, h3, h4⟩
      refine ⟨⟨fun x hx => ?_, h3⟩, fun x hx => ?_⟩
      · rcases List.mem_cons.1 hx with rfl | hx
        · exact h1
        · have := (List.pairwise_cons.1 h3).1 x hx; omega
      · rcases List.mem_cons.1 hx with rfl | hx
        · exact h2
        · exact h4 x hx
    · rintro ⟨⟨h1, h2⟩, h3⟩
      exact ⟨⟨h1 y (List.mem_cons_self ..), h3 y (List.mem_cons_self ..)⟩, h2, fun x hx => h3 x (List.mem_cons_of_mem _ hx)⟩
theorem rising_pair {u : Int} {l : List Int} : rising l u = true ↔ l.Pairwise (· < ·) ∧ ∀ x, x ∈ l → 0 ≤ x ∧ x < u := by
  rw [rising, risingFrom_pair, List.pairwise_cons]
  constructor
  · rintro ⟨⟨h1, h2⟩, h3⟩
    exact ⟨h2, fun x hx => ⟨by have := h1 x hx; omega, h3 x hx⟩⟩
  · rintro ⟨h1, h2⟩
    exact ⟨⟨fun x hx => by have := h2 x hx; omega, h1⟩, fun x hx => (h2 x hx).2⟩
theorem rising_mono {u v : Int} {l : List Int} (h : rising l u = true) (huv : u ≤ v) : rising l v = true := by
  rw [rising_pair] at h ⊢
  exact ⟨h.1, fun x hx => by have := h.2 x hx; omega⟩
theorem rising_snoc {u v : Int} {l : List Int} (h : rising l u = true) (h0 : 0 ≤ u) (huv : u < v) : rising (l ++ [u]) v = true := by
  rw [rising_pair] at h ⊢
  refine ⟨List.pairwise_append.2 ⟨h.1, List.pairwise_singleton _ _, fun x hx y hy => ?_⟩, fun x hx => ?_⟩
  · rw [List.mem_singleton] at hy; subst hy; exact (h.2 x hx).2
  · rcases List.mem_append.1 hx with hx | hx
    · have := h.2 x hx; omega
    · rw [List.mem_singleton] at hx; subst hx; omega
theorem risingFrom_len {u : Int} : ∀ {l : List Int} {last : Int}, last < u → risingFrom u last l = true → (l.length : Int) ≤ u - 1 - last
  | [], _, h0, _ => by simp; omega
  | x :: l, last, _, h => by
    simp only [risingFrom, Bool.and_eq_true, decide_eq_true_eq] at h
    have := risingFrom_len h.1.2 h.2
    simp; omega
theorem rising_len {u : Int} (hu : 0 ≤ u) {l : List Int} (h : rising l u = true) : (l.length : Int) ≤ u := by
  have := risingFrom_len (by omega) h
  omega

/-- A set of numbers below a bound that was drawn. -/
def DrawnSet (below : Int) (r : AV) (os : List Obj) : Prop := ∃ (l : List Int) (d : Dk), d.ok ∧ rising l (if below < 0 then 0 else below) = true ∧ r = .own 1 1 0 l.length ∧ os = [.box (encDk d), .arr 1 (l.map encN)]
/-- A zone that was drawn. -/
def DrawnZone (nl : Nat) (r : AV) (os : List Obj) : Prop := ∃ (z : List Int) (d : Dk), d.ok ∧ z ≠ [] ∧ rising z nl = true ∧ r = .lst 1 (z.map encN) ∧ os = [.box (encDk d)]
end Go.Proofs.YtmfgaefefgnhbaaGreatDoor.Abs
