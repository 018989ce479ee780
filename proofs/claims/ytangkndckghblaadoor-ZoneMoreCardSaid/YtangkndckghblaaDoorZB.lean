/- Zones on plain data: what chapter 15 computes, and its plain laws. No program in sight. -/
import Derived.Test.YtangkndckghblaaDoorZA
namespace Go.Proofs.YtangkndckghblaaDoor.Abs
set_option linter.unusedSimpArgs false
set_option linter.unusedVariables false
open Go Go.RowKit

def zoneChk (n : Net) (zone : List Int) : Int := if n.chk ≠ 0 then n.chk else if zone = [] then 16 else if rising zone n.nodes.length = false then 7 else 0
/-- The first error of a gap. -/
def gErr (n : Net) (gaps : List Int) (i : Nat) : Int :=
  if gaps.getD i 0 < 0 ∨ (n.devs.length : Int) ≤ gaps.getD i 0 ∨ (0 < i ∧ gaps.getD i 0 ≤ gaps.getD (i - 1) 0) then 8 else if gapK (n.devs.getD (gaps.getD i 0).toNat ⟨⟨#[]⟩, 0, 0, 0, 0⟩).kind = false then 6 else 0
def fault (n : Net) (zone gaps : List Int) : Int := if zoneChk n zone ≠ 0 then zoneChk n zone else firstE (gErr n gaps) gaps.length
/-- What is reached from a zone over devices but some. -/
abbrev RG (n : Net) (zone gaps : List Int) : Nat → Prop := Rch n (fun i => (i : Int) ∉ gaps) (fun _ => False) (fun v => (v : Int) ∈ zone)
noncomputable def regB (n : Net) (zone gaps : List Int) : List Bool := flood n (fun i => (i : Int) ∉ gaps) (fun _ => False) (fun v => (v : Int) ∈ zone)
noncomputable def regL (n : Net) (zone gaps : List Int) : List Int := trues (regB n zone gaps)
open Classical in
noncomputable def enoughB (n : Net) (zone gaps : List Int) : Bool := decide (∀ (i : Nat) (d : Dv), n.devs[i]? = some d → (d.kind = 5 ∨ (d.kind = 6 ∧ (i : Int) ∉ gaps)) → ¬ RG n zone gaps d.a.toNat)
noncomputable def regionR (n : Net) (zone gaps : List Int) : List Int × Int := if fault n zone gaps ≠ 0 then ([], fault n zone gaps) else (regL n zone gaps, 0)
noncomputable def enoughR (n : Net) (zone gaps : List Int) : Bool × Int := if fault n zone gaps ≠ 0 then (false, fault n zone gaps) else (enoughB n zone gaps, 0)
/-- Disconnectors and generators. -/
def cuts (n : Net) : List Int := ((List.range n.devs.length).filter fun i => decide ((n.devs.getD i ⟨⟨#[]⟩, 0, 0, 0, 0⟩).kind = 3 ∨ (n.devs.getD i ⟨⟨#[]⟩, 0, 0, 0, 0⟩).kind = 6)).map Int.ofNat
open Classical in
/-- Whether a device is at a node of a region. -/
noncomputable def atB (n : Net) (zone gaps : List Int) (g : Int) : Bool := decide (∃ d, n.devs[g.toNat]? = some d ∧ (RG n zone gaps d.a.toNat ∨ (joinsK d.kind = true ∧ RG n zone gaps d.b.toNat)))
open Classical in
noncomputable def nearestR (n : Net) (zone : List Int) : List Int × Int := if zoneChk n zone ≠ 0 then ([], zoneChk n zone)
  else if ∃ (i : Nat) (d : Dv), n.devs[i]? = some d ∧ d.kind = 5 ∧ RG n zone (cuts n) d.a.toNat then ([], 15) else ((cuts n).filter (atB n zone (cuts n)), 0)

theorem regB_len {n : Net} {zone gaps : List Int} : (regB n zone gaps).length = n.nodes.length := flood_len
theorem regB_at {n : Net} {zone gaps : List Int} {v : Nat} (hv : v < (regB n zone gaps).length) : (regB n zone gaps)[v] = true ↔ RG n zone gaps v := flood_at hv
theorem zoneChk_ok {n : Net} (hn : n.ok) {zone : List Int} (h1 : zone ≠ []) (h2 : rising zone n.nodes.length = true) : zoneChk n zone = 0 := by
  simp [zoneChk, Net.chk_ok.2 hn, h1, h2]
theorem zoneChk_zero {n : Net} {zone : List Int} (h : zoneChk n zone = 0) : n.ok ∧ zone ≠ [] ∧ rising zone n.nodes.length = true := by
  unfold zoneChk at h
  split at h
  · rename_i h1; exact absurd h h1
  · rename_i h1
    split at h
    · cases h
    · rename_i h2
      split at h
      · cases h
      · rename_i h3
        exact ⟨Net.chk_ok.1 (by simpa using h1), h2, by simpa using h3⟩
/-- Ascending gaps of a valid network have no fault. -/
structure Gaps (n : Net) (gaps : List Int) : Prop where
  up : rising gaps n.devs.length = true
  gap : ∀ g, g ∈ gaps → gapK (n.devs.getD g.toNat ⟨⟨#[]⟩, 0, 0, 0, 0⟩).kind = true
theorem gErr_zero {n : Net} {gaps : List Int} (h : Gaps n gaps) {i : Nat} (hi : i < gaps.length) : gErr n gaps i = 0 := by
  have h1 := risingFrom_iff.1 h.up i hi
  have h2 := rising_mem h.up (List.getElem_mem hi)
  have h3 := h.gap _ (List.getElem_mem hi)
  have e : gaps.getD i 0 = gaps[i] := by simp [List.getD_eq_getElem?_getD, hi]
  unfold gErr
  rw [e, if_neg, if_neg (fun e => by rw [h3] at e; cases e)]
  rintro (h4 | h4 | ⟨h4, h5⟩)
  · omega
  · omega
  · rw [if_neg (by omega)] at h1
    omega
theorem fault_ok {n : Net} {zone gaps : List Int} (h : zoneChk n zone = 0) (hg : Gaps n gaps) : fault n zone gaps = 0 := by
  unfold fault
  rw [if_neg (by simp [h])]
  exact firstE_none fun j hj => gErr_zero hg hj
theorem rising_filter {u : Int} {p : Int → Bool} : ∀ {l : List Int} {last : Int}, risingFrom u last l = true → risingFrom u last (l.filter p) = true
  | [], _, _ => rfl
  | x :: l, last, h => by
    simp only [risingFrom, Bool.and_eq_true, decide_eq_true_eq] at h
    have ih := rising_filter (p := p) h.2
    rw [List.filter_cons]
    split
    · simp [risingFrom, h.1, ih]
    · cases hl : l.filter p with
      | nil => rfl
      | cons y l' =>
        rw [hl] at ih
        simp only [risingFrom, Bool.and_eq_true, decide_eq_true_eq] at ih ⊢
        exact ⟨by omega, ih.2⟩
theorem rising_map {u : Nat} {p : Nat → Bool} : rising (((List.range u).filter p).map Int.ofNat) u = true := by
  have key : ∀ (k s : Nat), s + k = u → risingFrom u ((s : Int) - 1) (((List.range' s k).filter p).map Int.ofNat) = true := by
    intro k
    induction k with
    | zero => intro s _; rfl
    | succ k ih =>
      intro s hs
      rw [List.range'_succ, List.filter_cons]
      have h1 := ih (s + 1) (by omega)
      have e : ((s + 1 : Nat) : Int) - 1 = s := by omega
      rw [e] at h1
      split
      · simp only [List.map_cons, risingFrom, Bool.and_eq_true, decide_eq_true_eq]
        exact ⟨⟨by show (s : Int) - 1 < (s : Int); omega, by show (s : Int) < u; omega⟩, h1⟩
      · cases hl : ((List.range' (s + 1) k).filter p).map Int.ofNat with
        | nil => rfl
        | cons y l' =>
          rw [hl] at h1
          simp only [risingFrom, Bool.and_eq_true, decide_eq_true_eq] at h1 ⊢
          exact ⟨by omega, h1.2⟩
  have := key u 0 (by omega)
  rw [← List.range_eq_range'] at this
  exact this
theorem mem_cuts {n : Net} {g : Int} : g ∈ cuts n ↔ ∃ (i : Nat) (d : Dv), g = i ∧ n.devs[i]? = some d ∧ (d.kind = 3 ∨ d.kind = 6) := by
  simp only [cuts, List.mem_map, List.mem_filter, List.mem_range, decide_eq_true_eq]
  constructor
  · rintro ⟨i, ⟨h1, h2⟩, rfl⟩
    refine ⟨i, n.devs[i], rfl, List.getElem?_eq_getElem h1, ?_⟩
    simpa [List.getD_eq_getElem?_getD, h1] using h2
  · rintro ⟨i, d, rfl, h1, h2⟩
    have hi := (List.getElem?_eq_some_iff.1 h1).1
    refine ⟨i, ⟨hi, ?_⟩, rfl⟩
    simp [List.getD_eq_getElem?_getD, h1, h2]
theorem cuts_gaps (n : Net) : Gaps n (cuts n) := by
  refine ⟨rising_map, fun g hg => ?_⟩
  obtain ⟨i, d, rfl, h1, h2⟩ := mem_cuts.1 hg
  simp only [Int.toNat_natCast, List.getD_eq_getElem?_getD, h1, Option.getD_some]
  simp [gapK]
  omega
theorem Gaps.filter {n : Net} {gaps : List Int} (h : Gaps n gaps) (p : Int → Bool) : Gaps n (gaps.filter p) :=
  ⟨rising_filter h.up, fun g hg => h.gap g ((List.mem_filter.1 hg).1)⟩
theorem RG.lt {n : Net} (hn : n.ok) {zone gaps : List Int} (hz : rising zone n.nodes.length = true) {v : Nat} (h : RG n zone gaps v) : v < n.nodes.length :=
  Rch.lt hn (fun v hv => by have := rising_mem hz hv; omega) h
theorem RG.mono {n : Net} {z z' g g' : List Int} (hz : ∀ v, v ∈ z → v ∈ z') (hg : ∀ v, v ∈ g' → v ∈ g) {v : Nat} (h : RG n z g v) : RG n z' g' v :=
  Rch.mono (fun i hi hi' => hi (hg _ hi')) (fun _ h => h) (fun v hv => hz _ hv) h
theorem regL_mem {n : Net} (hn : n.ok) {zone gaps : List Int} (hz : rising zone n.nodes.length = true) {x : Int} : x ∈ regL n zone gaps ↔ 0 ≤ x ∧ RG n zone gaps x.toNat := by
  rw [regL, mem_trues]
  constructor
  · rintro ⟨h1, h2⟩
    have hl : x.toNat < (regB n zone gaps).length := by
      rcases Nat.lt_or_ge x.toNat (regB n zone gaps).length with h | h
      · exact h
      · rw [List.getD_eq_getElem?_getD, List.getElem?_eq_none h] at h2; cases h2
    rw [List.getD_eq_getElem?_getD, List.getElem?_eq_getElem hl] at h2
    exact ⟨h1, (regB_at hl).1 h2⟩
  · rintro ⟨h1, h2⟩
    have hl : x.toNat < (regB n zone gaps).length := by rw [regB_len]; exact h2.lt hn hz
    refine ⟨h1, ?_⟩
    rw [List.getD_eq_getElem?_getD, List.getElem?_eq_getElem hl]
    exact (regB_at hl).2 h2
theorem regB_congr {n : Net} {z z' g g' : List Int} (h : ∀ v, RG n z g v ↔ RG n z' g' v) : regB n z g = regB n z' g' := by
  unfold regB flood
  apply List.map_congr_left
  intro v _
  exact decide_eq_decide.2 (h v)

/-- ZoneNearest's law. -/
theorem near_region {n : Net} {zone gaps : List Int} {v : Nat} : RG n zone (gaps.filter (atB n zone gaps)) v ↔ RG n zone gaps v := by
  constructor
  · intro h
    refine Rch.closed (T := RG n zone gaps) (fun v hv => .base hv) (fun u v hu hs he => ?_) h
    obtain ⟨i, d, h1, h2, h3, h4⟩ := he
    refine .step hu hs ⟨i, d, h1, h2, fun hc => h3 ?_, h4⟩
    rw [List.mem_filter]
    refine ⟨hc, ?_⟩
    simp only [atB, decide_eq_true_eq, Int.toNat_natCast]
    refine ⟨d, h1, ?_⟩
    rcases h4 with ⟨ha, hb⟩ | ⟨hb, ha⟩
    · left; rw [ha]; simpa using hu
    · right; refine ⟨h2, ?_⟩; rw [hb]; simpa using hu
  · exact RG.mono (fun _ h => h) fun v hv => (List.mem_filter.1 hv).1
/-- The gaps at a region isolate exactly if all do. -/
theorem near_enough {n : Net} {zone gaps : List Int} : enoughB n zone (gaps.filter (atB n zone gaps)) = enoughB n zone gaps := by
  rw [Bool.eq_iff_iff]
  simp only [enoughB, decide_eq_true_eq]
  constructor
  · rintro h i d h1 h2 h3
    refine h i d h1 (h2.imp (fun h => h) fun h => ⟨h.1, fun hg => h.2 ((List.mem_filter.1 hg).1)⟩) (near_region.2 h3)
  · rintro h i d h1 h2 h3
    have h4 := near_region.1 h3
    refine h i d h1 (h2.imp (fun h => h) fun h => ⟨h.1, fun hg => h.2 (List.mem_filter.2 ⟨hg, ?_⟩)⟩) h4
    simp only [atB, decide_eq_true_eq, Int.toNat_natCast]
    exact ⟨d, h1, .inl h4⟩

open Classical in
theorem nearest_enough {n : Net} (hn : n.ok) {zone : List Int} (h : zoneChk n zone = 0) : decide ((nearestR n zone).2 = 0) = (enoughR n zone (cuts n)).1 := by
  have hf := fault_ok h (cuts_gaps n)
  simp only [enoughR, hf, ne_eq, not_true_eq_false, if_false, enoughB, nearestR, h]
  split
  · rename_i hx
    obtain ⟨i, d, h1, h2, h3⟩ := hx
    simp only [decide_eq_false (show ¬ ((15 : Int) = 0) by decide)]
    symm
    rw [decide_eq_false_iff_not]
    intro h4
    exact h4 i d h1 (.inl h2) h3
  · rename_i hx
    simp only [decide_true]
    symm
    rw [decide_eq_true_eq]
    rintro i d h1 (h2 | ⟨h2, h3⟩) h4
    · exact hx ⟨i, d, h1, h2, h4⟩
    · exact h3 (mem_cuts.2 ⟨i, d, rfl, h1, .inr h2⟩)
theorem nearest_none {n : Net} {zone : List Int} (h : zoneChk n zone = 0) (he : (nearestR n zone).2 ≠ 0) : nearestR n zone = ([], 15) := by
  simp only [nearestR, h, ne_eq, not_true_eq_false, if_false] at he ⊢
  split at he
  · rename_i hx; rw [if_pos hx]
  · exact absurd rfl he
theorem nearest_some {n : Net} {zone : List Int} (h : zoneChk n zone = 0) (he : (nearestR n zone).2 = 0) : (nearestR n zone).1 = (cuts n).filter (atB n zone (cuts n)) ∧
    enoughR n zone (nearestR n zone).1 = (true, 0) ∧ regionR n zone (nearestR n zone).1 = (regL n zone (cuts n), 0) := by
  have hg := (cuts_gaps n).filter (atB n zone (cuts n))
  have hf := fault_ok h hg
  simp only [nearestR, h, ne_eq, not_true_eq_false, if_false] at he ⊢
  split at he
  · cases he
  · rename_i hx
    rw [if_neg hx]
    refine ⟨rfl, ?_, ?_⟩
    · simp only [enoughR, hf, ne_eq, not_true_eq_false, if_false, enoughB, Prod.mk.injEq, and_true, decide_eq_true_eq]
      rintro i d h1 (h2 | ⟨h2, h3⟩) h4
      · exact hx ⟨i, d, h1, h2, near_region.1 h4⟩
      · refine h3 (List.mem_filter.2 ⟨mem_cuts.2 ⟨i, d, rfl, h1, .inr h2⟩, ?_⟩)
        simp only [atB, decide_eq_true_eq, Int.toNat_natCast]
        exact ⟨d, h1, .inl (near_region.1 h4)⟩
    · simp only [regionR, hf, ne_eq, not_true_eq_false, if_false, regL, Prod.mk.injEq, and_true]
      rw [regB_congr fun v => near_region]

/-- ZoneMore's law. -/
theorem more_enough {n : Net} {z few more : List Int} (hs : ∀ g, g ∈ few → g ∈ more) (h : enoughB n z few = true) : enoughB n z more = true := by
  simp only [enoughB, decide_eq_true_eq] at h ⊢
  rintro i d h1 h2 h3
  refine h i d h1 (h2.imp (fun h => h) fun h => ⟨h.1, fun hg => h.2 (hs _ hg)⟩) ?_
  exact RG.mono (fun _ h => h) hs h3
theorem each_enough {n : Net} (hn : n.ok) {z g : List Int} (hz : rising z n.nodes.length = true) : enoughB n z g = true ↔ ∀ v, v ∈ z → enoughB n [v] g = true := by
  have key : ∀ u, RG n z g u ↔ ∃ v, v ∈ z ∧ RG n [v] g u := by
    intro u
    constructor
    · intro h
      refine Rch.closed (T := fun u => ∃ v, v ∈ z ∧ RG n [v] g u) (fun v hv => ⟨v, hv, .base (by simp)⟩) (fun u v hu hs he => ?_) h
      obtain ⟨x, hx, hu⟩ := hu
      exact ⟨x, hx, .step hu hs he⟩
    · rintro ⟨v, hv, h⟩
      exact RG.mono (fun x hx => by rw [List.mem_singleton] at hx; subst hx; exact hv) (fun _ h => h) h
  simp only [enoughB, decide_eq_true_eq]
  constructor
  · intro h v hv i d h1 h2 h3
    exact h i d h1 h2 ((key _).2 ⟨v, hv, h3⟩)
  · intro h i d h1 h2 h3
    obtain ⟨v, hv, h4⟩ := (key _).1 h3
    exact h v hv i d h1 h2 h4
/-- ZoneUnion's law. -/
theorem union_region {n : Net} {y z both g : List Int} (h : ∀ v, v ∈ both ↔ v ∈ y ∨ v ∈ z) {v : Nat} : RG n both g v ↔ RG n y g v ∨ RG n z g v := by
  constructor
  · intro hr
    refine Rch.closed (T := fun v => RG n y g v ∨ RG n z g v) (fun v hv => ((h _).1 hv).imp .base .base) (fun u v hu hs he => ?_) hr
    exact hu.imp (fun hu => .step hu hs he) fun hu => .step hu hs he
  · rintro (hr | hr)
    · exact RG.mono (fun v hv => (h v).2 (.inl hv)) (fun _ h => h) hr
    · exact RG.mono (fun v hv => (h v).2 (.inr hv)) (fun _ h => h) hr
theorem union_enough {n : Net} {y z both g : List Int} (h : ∀ v, v ∈ both ↔ v ∈ y ∨ v ∈ z) : enoughB n both g = (enoughB n y g && enoughB n z g) := by
  rw [Bool.eq_iff_iff, Bool.and_eq_true]
  simp only [enoughB, decide_eq_true_eq]
  constructor
  · intro hr
    exact ⟨fun i d h1 h2 h3 => hr i d h1 h2 ((union_region h).2 (.inl h3)), fun i d h1 h2 h3 => hr i d h1 h2 ((union_region h).2 (.inr h3))⟩
  · rintro ⟨h1, h2⟩ i d h3 h4 h5
    exact ((union_region h).1 h5).elim (h1 i d h3 h4) (h2 i d h3 h4)

/- Locks. -/
structure Lk where
  dev : Int
  pos : Int
  key : Int
  deriving DecidableEq
def encLk (x : Lk) : List AV := [.raw (.int .i64 x.dev), .raw (.int .i64 x.pos), .raw (.int .i64 x.key)]
theorem encLk_len (x : Lk) : (encLk x).length = 3 := rfl
theorem encLk_imm (x : Lk) : AV.immL (encLk x) = true := rfl
def Lk.zero : Lk := ⟨0, 0, 0⟩
structure Lk.fit (x : Lk) : Prop where
  dev : inI x.dev
  pos : inI x.pos
  key : inI x.key
def lErr (n : Net) (k : Lk) : Int :=
  if k.dev < 0 ∨ (n.devs.length : Int) ≤ k.dev then 8 else if (n.devs.getD k.dev.toNat ⟨⟨#[]⟩, 0, 0, 0, 0⟩).kind = 5 then 6 else if k.pos ≠ 1 ∧ k.pos ≠ 2 then 10 else if k.key < 0 ∨ 65536 < k.key then 5 else 0
def lkBefore (a b : Lk) : Bool := decide (a.dev < b.dev ∨ (a.dev = b.dev ∧ a.key < b.key))
def kErr (n : Net) (l : List Lk) (i : Nat) : Int :=
  let k := l.getD i .zero
  if lErr n k ≠ 0 then lErr n k else if 0 < i ∧ lkBefore (l.getD (i - 1) .zero) k = false then 14 else if (l.take i).any (fun x => decide (x.dev = k.dev ∧ x.pos ≠ k.pos)) then 18 else if (l.take i).any (fun x => decide (x.key = k.key)) then 4 else 0
def lockChk (n : Net) (l : List Lk) : Int := if n.chk ≠ 0 then n.chk else if 128 < l.length then 1 else firstE (kErr n l) l.length
/-- The position in which a device is locked. -/
def lockedAt : List Lk → Int → Option Int
  | [], _ => none
  | x :: l, i => if x.dev = i then some x.pos else lockedAt l i
def gapsOf (n : Net) (l : List Lk) : List Int := ((List.range n.devs.length).filter fun (i : Nat) => decide (lockedAt l (i : Int) = some 1) && gapK (n.devs.getD i ⟨⟨#[]⟩, 0, 0, 0, 0⟩).kind).map Int.ofNat
def earthsOf (n : Net) (l : List Lk) : List Int := ((List.range n.devs.length).filter fun (i : Nat) => decide (lockedAt l (i : Int) = some 2) && decide ((n.devs.getD i ⟨⟨#[]⟩, 0, 0, 0, 0⟩).kind = 4)).map Int.ofNat
theorem gapsOf_gaps (n : Net) (l : List Lk) : Gaps n (gapsOf n l) := by
  refine ⟨rising_map, fun g hg => ?_⟩
  simp only [gapsOf, List.mem_map, List.mem_filter, List.mem_range, Bool.and_eq_true] at hg
  obtain ⟨i, ⟨_, _, h2⟩, rfl⟩ := hg
  exact h2
end Go.Proofs.YtangkndckghblaaDoor.Abs
