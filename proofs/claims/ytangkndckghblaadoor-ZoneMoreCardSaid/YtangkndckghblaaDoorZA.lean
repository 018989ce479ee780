/- Networks on plain data: names, checks, what is reached. No program in sight. -/
import Derived.Test.YtangkndckghblaaDoorAbsK
namespace Go.Proofs.YtangkndckghblaaDoor.Abs
set_option linter.unusedSimpArgs false
set_option linter.unusedVariables false
open Go Go.RowKit

instance : LawfulBEq ByteArray where
  eq_of_beq := fun h => (MapKept.bytes_beq _ _).1 h
  rfl := (MapKept.bytes_beq _ _).2 rfl

structure Nd where
  name : ByteArray
  cust : Int
  comp : Int
  deriving DecidableEq
structure Dv where
  name : ByteArray
  kind : Int
  a : Int
  b : Int
  comp : Int
  deriving DecidableEq
structure Net where
  nodes : List Nd
  devs : List Dv
  deriving DecidableEq
def encNd (x : Nd) : List AV := [.raw (.string x.name), .raw (.int .i64 x.cust), .raw (.int .i64 x.comp)]
def encDv (x : Dv) : List AV := [.raw (.string x.name), .raw (.int .i64 x.kind), .raw (.int .i64 x.a), .raw (.int .i64 x.b), .raw (.int .i64 x.comp)]
def encNet (n : Net) : List AV := [.lst 3 (n.nodes.map encNd), .lst 5 (n.devs.map encDv)]
def encN (n : Int) : List AV := [.raw (.int .i64 n)]
def encB (b : Bool) : List AV := [.raw (.bool b)]
theorem encNd_len (x : Nd) : (encNd x).length = 3 := rfl
theorem encDv_len (x : Dv) : (encDv x).length = 5 := rfl
theorem encN_len (x : Int) : (encN x).length = 1 := rfl
theorem encB_len (x : Bool) : (encB x).length = 1 := rfl
theorem encNd_imm (x : Nd) : AV.immL (encNd x) = true := rfl
theorem encDv_imm (x : Dv) : AV.immL (encDv x) = true := rfl
theorem encN_imm (x : Int) : AV.immL (encN x) = true := rfl
theorem encB_imm (x : Bool) : AV.immL (encB x) = true := rfl

/-- Numbers that fit. -/
def inI (n : Int) : Prop := -9223372036854775808 ≤ n ∧ n ≤ 9223372036854775807
instance (n : Int) : Decidable (inI n) := inferInstanceAs (Decidable (_ ∧ _))
structure Nd.fit (x : Nd) : Prop where
  cust : inI x.cust
  comp : inI x.comp
structure Dv.fit (x : Dv) : Prop where
  kind : inI x.kind
  a : inI x.a
  b : inI x.b
  comp : inI x.comp
structure Net.fit (n : Net) : Prop where
  nodes : ∀ x, x ∈ n.nodes → x.fit
  devs : ∀ x, x ∈ n.devs → x.fit

/-- Bytes of names. -/
def isLetter (b : Nat) : Bool := decide (65 ≤ b ∧ b ≤ 90) || decide (97 ≤ b ∧ b ≤ 122)
def isDigit (b : Nat) : Bool := decide (48 ≤ b ∧ b ≤ 57)
def byteAt (s : ByteArray) (i : Nat) : Nat := (s.data.getD i 0).toNat
def isName (s : ByteArray) : Bool := decide (1 ≤ s.size ∧ s.size ≤ 12) && isLetter (byteAt s 0) && (List.range s.size).all fun i => isLetter (byteAt s i) || isDigit (byteAt s i) || decide (byteAt s i = 95)

def joinsK (k : Int) : Bool := decide (1 ≤ k ∧ k ≤ 3)
def gapK (k : Int) : Bool := decide (k = 1 ∨ k = 3 ∨ k = 6)

/-- The first error of some things. -/
def firstE (f : Nat → Int) : Nat → Int
  | 0 => 0
  | n + 1 => if firstE f n ≠ 0 then firstE f n else f n
theorem firstE_none {f : Nat → Int} : ∀ {n : Nat}, (∀ j, j < n → f j = 0) → firstE f n = 0
  | 0, _ => rfl
  | n + 1, h => by
    have := firstE_none (n := n) fun j hj => h j (by omega)
    simp [firstE, this, h n (by omega)]
theorem firstE_hit {f : Nat → Int} : ∀ {n i : Nat}, i < n → (∀ j, j < i → f j = 0) → f i ≠ 0 → firstE f n = f i
  | n + 1, i, hi, h, hf => by
    by_cases e : i = n
    · subst e
      simp [firstE, firstE_none h]
    · have := firstE_hit (n := n) (i := i) (by omega) h hf
      simp [firstE, this, hf]
theorem firstE_zero {f : Nat → Int} : ∀ {n : Nat}, firstE f n = 0 ↔ ∀ j, j < n → f j = 0
  | 0 => by simp [firstE]
  | n + 1 => by
    have ih := firstE_zero (f := f) (n := n)
    constructor
    · intro h j hj
      by_cases h1 : firstE f n = 0
      · by_cases e : j = n
        · subst e; simpa [firstE, h1] using h
        · exact ih.1 h1 j (by omega)
      · simp [firstE, h1] at h
    · intro h; exact firstE_none h

/-- The first error of a node, and of a device. -/
def nErr (n : Net) (i : Nat) : Int :=
  let x := n.nodes.getD i ⟨⟨#[]⟩, 0, 0⟩
  if !isName x.name then 3 else if x.name ∈ (n.nodes.take i).map Nd.name then 4 else if x.cust < 0 ∨ 1048576 < x.cust ∨ x.comp < 0 ∨ 7 < x.comp then 5 else 0
def dErr (n : Net) (i : Nat) : Int :=
  let x := n.devs.getD i ⟨⟨#[]⟩, 0, 0, 0, 0⟩
  if !isName x.name then 3 else if x.name ∈ n.nodes.map Nd.name ++ (n.devs.take i).map Dv.name then 4 else if x.kind < 1 ∨ 6 < x.kind then 6
  else if x.a < 0 ∨ (n.nodes.length : Int) ≤ x.a ∨ (joinsK x.kind = true ∧ (x.b < 0 ∨ (n.nodes.length : Int) ≤ x.b ∨ x.b = x.a)) ∨ (joinsK x.kind = false ∧ x.b ≠ -1) then 7
  else if x.comp < 0 ∨ 7 < x.comp then 5 else 0
def Net.chk (n : Net) : Int :=
  if 32 < n.nodes.length ∨ 64 < n.devs.length then 1 else if firstE (nErr n) n.nodes.length ≠ 0 then firstE (nErr n) n.nodes.length else firstE (dErr n) n.devs.length
/-- A valid network. -/
structure Net.ok (n : Net) : Prop where
  nl : n.nodes.length ≤ 32
  dl : n.devs.length ≤ 64
  nd : ∀ i, i < n.nodes.length → nErr n i = 0
  dv : ∀ i, i < n.devs.length → dErr n i = 0
theorem Net.chk_ok {n : Net} : n.chk = 0 ↔ n.ok := by
  unfold Net.chk
  constructor
  · intro h
    split at h
    · cases h
    · split at h
      · rename_i h1; exact absurd h h1
      · rename_i h0 h1
        exact ⟨by omega, by omega, firstE_zero.1 (by simpa using h1), firstE_zero.1 h⟩
  · rintro ⟨h1, h2, h3, h4⟩
    rw [if_neg (by omega), if_neg (by simp [firstE_zero.2 h3]), firstE_zero.2 h4]
/-- What is known of a device of a valid network. -/
structure Dv.ok (x : Dv) (nl : Nat) : Prop where
  k1 : 1 ≤ x.kind
  k6 : x.kind ≤ 6
  a0 : 0 ≤ x.a
  al : x.a < nl
  j : joinsK x.kind = true → 0 ≤ x.b ∧ x.b < nl ∧ x.b ≠ x.a
  nj : joinsK x.kind = false → x.b = -1
theorem Net.ok.dev {n : Net} (h : n.ok) {i : Nat} {x : Dv} (hx : n.devs[i]? = some x) : x.ok n.nodes.length := by
  have hi := (List.getElem?_eq_some_iff.1 hx).1
  have := h.dv i hi
  simp only [dErr, List.getD_eq_getElem?_getD, hx, Option.getD_some] at this
  split at this
  · cases this
  split at this
  · cases this
  split at this
  · cases this
  rename_i h1
  split at this
  · cases this
  rename_i h2
  simp only [not_or, not_and] at h1 h2
  refine ⟨by omega, by omega, by omega, by omega, fun hj => ?_, fun hj => ?_⟩
  · have := h2.2.2.1 hj
    omega
  · have := h2.2.2.2 hj
    omega
theorem Net.ok.dev' {n : Net} (h : n.ok) {i : Nat} (hi : i < n.devs.length) : n.devs[i].ok n.nodes.length := h.dev (List.getElem?_eq_getElem hi)

/-- A device that joins two nodes and may be used. -/
def Edge (n : Net) (use : Nat → Prop) (u v : Nat) : Prop := ∃ (i : Nat) (d : Dv), n.devs[i]? = some d ∧ joinsK d.kind = true ∧ use i ∧ ((d.a = u ∧ d.b = v) ∨ (d.b = u ∧ d.a = v))
/-- What is reached. -/
inductive Rch (n : Net) (use stop S : Nat → Prop) : Nat → Prop
  | base {v : Nat} (h : S v) : Rch n use stop S v
  | step {u v : Nat} (h : Rch n use stop S u) (hs : ¬ stop u) (he : Edge n use u v) : Rch n use stop S v
theorem Edge.symm {n : Net} {use : Nat → Prop} {u v : Nat} (h : Edge n use u v) : Edge n use v u := by
  obtain ⟨i, d, h1, h2, h3, h4⟩ := h
  exact ⟨i, d, h1, h2, h3, h4.elim (fun h => .inr ⟨h.2, h.1⟩) fun h => .inl ⟨h.2, h.1⟩⟩
theorem Edge.mono {n : Net} {use use' : Nat → Prop} (hu : ∀ i, use i → use' i) {u v : Nat} (h : Edge n use u v) : Edge n use' u v := by
  obtain ⟨i, d, h1, h2, h3, h4⟩ := h
  exact ⟨i, d, h1, h2, hu i h3, h4⟩
theorem Edge.lt {n : Net} (hn : n.ok) {use : Nat → Prop} {u v : Nat} (h : Edge n use u v) : u < n.nodes.length ∧ v < n.nodes.length := by
  obtain ⟨i, d, h1, h2, h3, h4⟩ := h
  have hd := hn.dev h1
  have := hd.j h2
  have := hd.a0; have := hd.al
  omega
theorem Rch.mono {n : Net} {use use' stop stop' S S' : Nat → Prop} (hu : ∀ i, use i → use' i) (hs : ∀ i, stop' i → stop i) (hS : ∀ i, S i → S' i) {v : Nat} (h : Rch n use stop S v) : Rch n use' stop' S' v := by
  induction h with
  | base h => exact .base (hS _ h)
  | step _ h1 h2 ih => exact .step ih (fun h => h1 (hs _ h)) (h2.mono hu)
theorem Rch.lt {n : Net} (hn : n.ok) {use stop S : Nat → Prop} (hS : ∀ v, S v → v < n.nodes.length) {v : Nat} (h : Rch n use stop S v) : v < n.nodes.length := by
  cases h with
  | base h => exact hS _ h
  | step _ _ he => exact (he.lt hn).2
theorem Rch.trans {n : Net} {use stop S S' : Nat → Prop} (hS : ∀ v, S' v → Rch n use stop S v) {v : Nat} (h : Rch n use stop S' v) : Rch n use stop S v := by
  induction h with
  | base h => exact hS _ h
  | step _ h1 h2 ih => exact .step ih h1 h2
/-- A set that holds what one begins with, and is closed, holds all that is reached. -/
theorem Rch.closed {n : Net} {use stop S T : Nat → Prop} (h0 : ∀ v, S v → T v) (hc : ∀ u v, T u → ¬ stop u → Edge n use u v → T v) {v : Nat} (h : Rch n use stop S v) : T v := by
  induction h with
  | base h => exact h0 _ h
  | step _ h1 h2 ih => exact hc _ _ ih h1 h2

open Classical in
/-- Which nodes are reached, as a list. -/
noncomputable def flood (n : Net) (use stop S : Nat → Prop) : List Bool := (List.range n.nodes.length).map fun v => decide (Rch n use stop S v)
theorem flood_len {n : Net} {use stop S : Nat → Prop} : (flood n use stop S).length = n.nodes.length := by simp [flood]
theorem flood_at {n : Net} {use stop S : Nat → Prop} {v : Nat} (hv : v < (flood n use stop S).length) : (flood n use stop S)[v] = true ↔ Rch n use stop S v := by
  simp [flood]
/-- The numbers at which a list is true. -/
def trues (l : List Bool) : List Int := ((List.range l.length).filter fun i => l.getD i false).map Int.ofNat
theorem mem_trues {l : List Bool} {x : Int} : x ∈ trues l ↔ 0 ≤ x ∧ l.getD x.toNat false = true := by
  simp only [trues, List.mem_map, List.mem_filter, List.mem_range]
  constructor
  · rintro ⟨i, ⟨h1, h2⟩, rfl⟩
    exact ⟨Int.natCast_nonneg _, by simpa using h2⟩
  · rintro ⟨h1, h2⟩
    refine ⟨x.toNat, ⟨?_, h2⟩, Int.toNat_of_nonneg h1⟩
    rcases Nat.lt_or_ge x.toNat l.length with h | h
    · exact h
    · rw [List.getD_eq_getElem?_getD, List.getElem?_eq_none h] at h2; cases h2

/-- Ascending numbers from 0 to below a number. -/
def risingFrom (until_ : Int) : Int → List Int → Bool
  | _, [] => true
  | last, x :: l => decide (last < x ∧ x < until_) && risingFrom until_ x l
def rising (l : List Int) (until_ : Int) : Bool := risingFrom until_ (-1) l
theorem risingFrom_mem {u : Int} : ∀ {l : List Int} {last : Int}, risingFrom u last l = true → ∀ x, x ∈ l → last < x ∧ x < u
  | [], _, _, x, hx => by cases hx
  | y :: l, last, h, x, hx => by
    simp only [risingFrom, Bool.and_eq_true, decide_eq_true_eq] at h
    rcases List.mem_cons.1 hx with rfl | hx
    · exact h.1
    · have := risingFrom_mem h.2 x hx
      omega
theorem rising_mem {u : Int} {l : List Int} (h : rising l u = true) {x : Int} (hx : x ∈ l) : 0 ≤ x ∧ x < u := by
  have := risingFrom_mem h x hx
  omega
theorem risingFrom_iff {u : Int} : ∀ {l : List Int} {last : Int}, risingFrom u last l = true ↔ ∀ i (hi : i < l.length), (if i = 0 then last else l.getD (i - 1) 0) < l[i] ∧ l[i] < u
  | [], _ => by simp [risingFrom]
  | x :: l, last => by
    simp only [risingFrom, Bool.and_eq_true, decide_eq_true_eq, risingFrom_iff (l := l)]
    constructor
    · rintro ⟨h1, h2⟩ i hi
      rcases i with _ | i
      · simpa using h1
      · have := h2 i (by simpa using hi)
        rcases i with _ | i
        · simpa using this
        · simpa using this
    · intro h
      refine ⟨h 0 (by simp), fun i hi => ?_⟩
      have := h (i + 1) (by simpa using hi)
      rcases i with _ | i
      · simpa using this
      · simpa using this
end Go.Proofs.YtangkndckghblaaDoor.Abs
