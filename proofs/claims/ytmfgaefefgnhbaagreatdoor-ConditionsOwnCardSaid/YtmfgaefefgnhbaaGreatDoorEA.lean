/- Earthing on plain data: what chapter 16 computes, and its plain laws. No program in sight. -/
import Derived.Test.YtmfgaefefgnhbaaGreatDoorRUA
import Derived.Test.YtmfgaefefgnhbaaGreatDoorR4
namespace Go.Proofs.YtmfgaefefgnhbaaGreatDoor.Abs
set_option linter.unusedSimpArgs false
set_option linter.unusedVariables false
open Go Go.RowKit

/-- What is reached from a node, without going on from earthed nodes. -/
abbrev RE (n : Net) (E : List Int) (v : Nat) : Nat → Prop := Rch n (fun _ => True) (fun u => (u : Int) ∈ E) (fun u => u = v)
structure Prot (n : Net) (E : List Int) (v : Nat) : Prop where
  src : ∀ (i : Nat) (d : Dv), n.devs[i]? = some d → (d.kind = 5 ∨ d.kind = 6) → RE n E v d.a.toNat → d.a ∈ E
  met : ∃ u : Nat, (u : Int) ∈ E ∧ RE n E v u
noncomputable def protB (n : Net) (E : List Int) (v : Nat) : Bool := pB (Prot n E v)
noncomputable def missL (n : Net) (z E : List Int) : List Int := z.filter fun v => !protB n E v.toNat
noncomputable def earthE (n : Net) (z E : List Int) : Bool × Int := if zoneChk n z ≠ 0 then (false, zoneChk n z) else if rising E n.nodes.length = false then (false, 7) else (decide (missL n z E = []), 0)
def earthAt (n : Net) (l : List Int) (v : Int) : Bool := l.any fun i => decide ((n.devs.getD i.toNat ⟨⟨#[]⟩, 0, 0, 0, 0⟩).a = v)
noncomputable def countL (n : Net) (l : List Lk) (z : List Int) : List Int := (regL n z (gapsOf n l)).filter (earthAt n (earthsOf n l))
noncomputable def countedR (n : Net) (l : List Lk) (z : List Int) : List Int × Int := if lockedE n l z ≠ 0 then ([], lockedE n l z) else (countL n l z, 0)
noncomputable def missingR (n : Net) (l : List Lk) (z : List Int) : List Int × Int := if lockedE n l z ≠ 0 then ([], lockedE n l z) else (missL n z (countL n l z), 0)
noncomputable def sidesR (n : Net) (l : List Lk) (z : List Int) : Bool × Int := if lockedE n l z ≠ 0 then (false, lockedE n l z) else (decide (missL n z (countL n l z) = []), 0)
noncomputable def secureR (n : Net) (l : List Lk) (z : List Int) : Bool × Int := if lockedE n l z ≠ 0 then (false, lockedE n l z) else (enoughB n z (gapsOf n l) && decide (missL n z (countL n l z) = []), 0)

theorem RE.self {n : Net} {E : List Int} {v : Nat} : RE n E v v := .base rfl
/-- An earthed node is protected. -/
theorem Prot.own {n : Net} {E : List Int} {v : Nat} (hv : (v : Int) ∈ E) (ha : ∀ (i : Nat) (d : Dv), n.devs[i]? = some d → 0 ≤ d.a) : Prot n E v := by
  have key : ∀ u, RE n E v u → u = v := fun u hu => Rch.closed (T := fun u => u = v) (fun _ h => h) (fun a b h hs _ => absurd hv (by rw [h] at hs; exact hs)) hu
  refine ⟨fun i d hd _ hr => ?_, v, hv, .self⟩
  have e := key _ hr
  have h0 := ha i d hd
  have : d.a = (v : Int) := by omega
  rw [this]; exact hv
theorem missL_nil {n : Net} {z E : List Int} : missL n z E = [] ↔ ∀ v, v ∈ z → Prot n E v.toNat := by
  unfold missL
  rw [List.filter_eq_nil_iff]
  constructor
  · intro h v hv
    have := h v hv
    simp only [protB, Bool.not_eq_true', Bool.not_eq_false] at this
    exact pB_iff.1 this
  · intro h v hv
    simp only [protB, Bool.not_eq_true', Bool.not_eq_false]
    exact pB_true (h v hv)
theorem missL_sub {n : Net} {z E : List Int} {v : Int} (h : v ∈ missL n z E) : v ∈ z := (List.mem_filter.1 h).1
theorem missL_each {n : Net} {z E : List Int} : missL n z E = [] ↔ ∀ v, v ∈ z → missL n [v] E = [] := by
  rw [missL_nil]
  constructor
  · intro h v hv
    rw [missL_nil]
    intro u hu
    rw [List.mem_singleton.1 hu]; exact h v hv
  · intro h v hv
    exact (missL_nil.1 (h v hv)) v (by simp)
/-- More earths never protect less. -/
theorem Prot.mono {n : Net} {E E' : List Int} (hE : ∀ x, x ∈ E → x ∈ E') {v : Nat} (h : Prot n E v) : Prot n E' v := by
  have sub : ∀ {u}, RE n E' v u → RE n E v u := fun h => Rch.mono (fun _ h => h) (fun i hi => hE _ hi) (fun _ h => h) h
  have key : ∀ u, RE n E v u → RE n E' v u ∨ ∃ u : Nat, (u : Int) ∈ E' ∧ RE n E' v u := fun u hu => by
    refine Rch.closed (T := fun u => RE n E' v u ∨ ∃ u : Nat, (u : Int) ∈ E' ∧ RE n E' v u) (fun w hw => .inl (.base hw)) (fun a b ha hs he => ?_) hu
    rcases ha with ha | ha
    · by_cases hb : (a : Int) ∈ E'
      · exact .inr ⟨a, hb, ha⟩
      · exact .inl (.step ha hb he)
    · exact .inr ha
  refine ⟨fun i d hd hk hr => hE _ (h.src i d hd hk (sub hr)), ?_⟩
  obtain ⟨u, hu, hr⟩ := h.met
  rcases key u hr with h1 | h1
  · exact ⟨u, hE _ hu, h1⟩
  · exact h1
theorem missL_more {n : Net} {z E E' : List Int} (hE : ∀ x, x ∈ E → x ∈ E') (h : missL n z E = []) : missL n z E' = [] :=
  missL_nil.2 fun v hv => (missL_nil.1 h v hv).mono hE
theorem missL_all {n : Net} (hn : n.ok) {z : List Int} (hz : rising z n.nodes.length = true) : missL n z z = [] :=
  missL_nil.2 fun v hv => .own (by rw [Int.toNat_of_nonneg (rising_mem hz hv).1]; exact hv) fun i d hd => (hn.dev hd).a0
theorem missL_none {n : Net} {z : List Int} (hz : z ≠ []) : missL n z [] ≠ [] := by
  intro h
  obtain ⟨v, hv⟩ := List.exists_mem_of_ne_nil z hz
  obtain ⟨u, hu, _⟩ := (missL_nil.1 h v hv).met
  cases hu
/-- If a protected node becomes live, then it is in one part with a node whose earth counts. -/
theorem Prot.near {n : Net} {E st : List Int} {v : Nat} (h : Prot n E v) (hl : LiveTo n st n.devs.length v) (ha : ∀ (i : Nat) (d : Dv), n.devs[i]? = some d → 0 ≤ d.a) : ∃ u : Nat, (u : Int) ∈ E ∧ Conn n st v u := by
  obtain ⟨i, d, hi, hd, h2, hk, hc⟩ := hl
  have key : ∀ w, Conn n st v w → (RE n E v w ∧ Conn n st v w) ∨ ∃ u : Nat, (u : Int) ∈ E ∧ Conn n st v u := fun w hw => by
    refine Rch.closed (T := fun w => (RE n E v w ∧ Conn n st v w) ∨ ∃ u : Nat, (u : Int) ∈ E ∧ Conn n st v u) (fun w hw => .inl ⟨.base hw, .base hw⟩) (fun a b ha hs he => ?_) hw
    rcases ha with ⟨h1, h2⟩ | h1
    · by_cases hb : (a : Int) ∈ E
      · exact .inr ⟨a, hb, h2⟩
      · exact .inl ⟨.step h1 hb (he.mono fun _ _ => trivial), Rch.step h2 (fun h => h) he⟩
    · exact .inr h1
  rcases key _ hc with ⟨h1, h3⟩ | h1
  · have h4 := h.src i d hd hk h1
    have h0 := ha i d hd
    exact ⟨d.a.toNat, by rw [Int.toNat_of_nonneg h0]; exact h4, h3⟩
  · exact h1

/-- The node itself, without passing earthed nodes: what the reference marks. -/
abbrev RF (n : Net) (E : List Int) (v : Nat) : Nat → Prop := fun u => RE n E v u ∧ (u : Int) ∉ E
end Go.Proofs.YtmfgaefefgnhbaaGreatDoor.Abs
