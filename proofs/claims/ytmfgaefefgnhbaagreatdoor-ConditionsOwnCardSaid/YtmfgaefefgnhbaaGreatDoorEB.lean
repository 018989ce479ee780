/- What the reference marks around a node, on plain data. No program in sight. -/
import Derived.Test.YtmfgaefefgnhbaaGreatDoorEA
import Derived.Test.YtmfgaefefgnhbaaGreatDoorRVA
namespace Go.Proofs.YtmfgaefefgnhbaaGreatDoor.Abs
set_option linter.unusedSimpArgs false
set_option linter.unusedVariables false
open Go Go.RowKit

/-- Marks: the node, and nothing that is not reached without passing earthed nodes; whether an earthed node was met. -/
structure Pin (n : Net) (E : List Int) (v : Nat) (T : List Bool) (met : Bool) : Prop where
  len : T.length = n.nodes.length
  base : T.getD v false = true
  sound : ∀ u, T.getD u false = true → RF n E v u
  metS : met = true → ∃ u : Nat, (u : Int) ∈ E ∧ RE n E v u
def HClo (E : List Int) (T : List Bool) (met : Bool) (a b : Nat) : Prop := T.getD a false = true → ((b : Int) ∈ E → met = true) ∧ ((b : Int) ∉ E → T.getD b false = true)
def Clo (n : Net) (E : List Int) (T : List Bool) (met : Bool) (i : Nat) : Prop := ∀ d, n.devs[i]? = some d → joinsK d.kind = true → HClo E T met d.a.toNat d.b.toNat ∧ HClo E T met d.b.toNat d.a.toNat
theorem HClo.met {E : List Int} {T : List Bool} {met met' : Bool} {a b : Nat} (h : HClo E T met a b) (hm : met = true → met' = true) : HClo E T met' a b := fun ha => ⟨fun hb => hm ((h ha).1 hb), (h ha).2⟩
theorem Clo.met {n : Net} {E : List Int} {T : List Bool} {met met' : Bool} {i : Nat} (h : Clo n E T met i) (hm : met = true → met' = true) : Clo n E T met' i := fun d hd hj => ⟨(h d hd hj).1.met hm, (h d hd hj).2.met hm⟩
theorem Pin.zero {n : Net} {E : List Int} {v : Nat} (hv : v < n.nodes.length) (hE : (v : Int) ∉ E) : Pin n E v ((List.replicate n.nodes.length false).set v true) false := by
  refine ⟨by simp, by rw [getD_set, if_pos ⟨rfl, by simpa using hv⟩], fun u hu => ?_, fun h => by cases h⟩
  rw [getD_set] at hu
  split at hu
  · rename_i e; obtain ⟨rfl, _⟩ := e; exact ⟨.self, hE⟩
  · rw [List.getD_eq_getElem?_getD, List.getElem?_replicate] at hu
    split at hu <;> cases hu
theorem Pin.meet {n : Net} {E : List Int} {v : Nat} {T : List Bool} {met : Bool} (h : Pin n E v T met) {a b : Nat} (he : Edge n (fun _ => True) a b) (ha : T.getD a false = true) (hb : (b : Int) ∈ E) : Pin n E v T true :=
  ⟨h.len, h.base, h.sound, fun _ => ⟨b, hb, .step (h.sound a ha).1 (h.sound a ha).2 he⟩⟩
theorem Pin.mark {n : Net} {E : List Int} {v : Nat} {T : List Bool} {met : Bool} (h : Pin n E v T met) {a b : Nat} (he : Edge n (fun _ => True) a b) (ha : T.getD a false = true) (hb : (b : Int) ∉ E) : Pin n E v (T.set b true) met :=
  ⟨by simp [h.len], getD_set_mono h.base, fun u hu => by
    rw [getD_set] at hu
    split at hu
    · rename_i e; obtain ⟨rfl, _⟩ := e; exact ⟨.step (h.sound a ha).1 (h.sound a ha).2 he, hb⟩
    · exact h.sound u hu, h.metS⟩
/-- Once nothing changes any more, all is marked, and met tells whether an earthed node is reached. -/
theorem Pin.all {n : Net} {E : List Int} {v : Nat} {T : List Bool} {met : Bool} (h : Pin n E v T met) (hv : (v : Int) ∉ E) (hc : ∀ i, i < n.devs.length → Clo n E T met i) : (∀ u, T.getD u false = true ↔ RF n E v u) ∧ (met = true ↔ ∃ u : Nat, (u : Int) ∈ E ∧ RE n E v u) := by
  have half : ∀ {a b : Nat}, Edge n (fun _ => True) a b → HClo E T met a b := fun {a b} he => by
    obtain ⟨i, d, h1, h2, _, h4⟩ := he
    have hh := hc i (List.getElem?_eq_some_iff.1 h1).1 d h1 h2
    rcases h4 with ⟨e1, e2⟩ | ⟨e1, e2⟩
    · have := hh.1; rw [e1, e2] at this; simpa using this
    · have := hh.2; rw [e1, e2] at this; simpa using this
  have key : ∀ u, RE n E v u → ((u : Int) ∉ E ∧ T.getD u false = true) ∨ ((u : Int) ∈ E ∧ met = true) := fun u hu => by
    refine Rch.closed (T := fun u => ((u : Int) ∉ E ∧ T.getD u false = true) ∨ ((u : Int) ∈ E ∧ met = true)) (fun w hw => .inl (by rw [hw]; exact ⟨hv, h.base⟩)) (fun a b ha hs he => ?_) hu
    have ha2 : T.getD a false = true := by
      rcases ha with ⟨_, h1⟩ | ⟨h1, _⟩
      · exact h1
      · exact absurd h1 hs
    have hh := half he ha2
    by_cases hb : (b : Int) ∈ E
    · exact .inr ⟨hb, hh.1 hb⟩
    · exact .inl ⟨hb, hh.2 hb⟩
  refine ⟨fun u => ⟨h.sound u, fun hr => ?_⟩, h.metS, fun ⟨u, hu, hr⟩ => ?_⟩
  · rcases key u hr.1 with ⟨_, h1⟩ | ⟨h1, _⟩
    · exact h1
    · exact absurd h1 hr.2
  · rcases key u hr with ⟨h1, _⟩ | ⟨_, h1⟩
    · exact absurd hu h1
    · exact h1
/-- No source among the first k devices is marked. -/
def NoSrc (n : Net) (T : List Bool) (k : Nat) : Prop := ∀ (i : Nat) (d : Dv), i < k → n.devs[i]? = some d → (d.kind = 5 ∨ d.kind = 6) → T.getD d.a.toNat false = false
theorem prot_marks {n : Net} (hn : n.ok) {E : List Int} {v : Nat} {T : List Bool} {met : Bool} (hT : ∀ u, T.getD u false = true ↔ RF n E v u) (hm : met = true ↔ ∃ u : Nat, (u : Int) ∈ E ∧ RE n E v u) : Prot n E v ↔ NoSrc n T n.devs.length ∧ met = true := by
  constructor
  · intro h
    refine ⟨fun i d _ hd hk => ?_, hm.2 h.met⟩
    cases e : T.getD d.a.toNat false
    · rfl
    · have h1 := (hT _).1 e
      have h2 := h.src i d hd hk h1.1
      have h0 := (hn.dev hd).a0
      have h3 := h1.2
      rw [Int.toNat_of_nonneg h0] at h3
      exact absurd h2 h3
  · rintro ⟨h1, h2⟩
    refine ⟨fun i d hd hk hr => Classical.byContradiction fun hE => ?_, hm.1 h2⟩
    have h0 := (hn.dev hd).a0
    have h3 := h1 i d (List.getElem?_eq_some_iff.1 hd).1 hd hk
    have h4 := (hT d.a.toNat).2 ⟨hr, by rw [Int.toNat_of_nonneg h0]; exact hE⟩
    rw [h4] at h3
    cases h3
theorem protB_own {n : Net} (hn : n.ok) {E : List Int} {v : Nat} (hv : (v : Int) ∈ E) : protB n E v = true := pB_true (.own hv fun i d hd => (hn.dev hd).a0)
theorem protB_src {n : Net} (hn : n.ok) {E : List Int} {v : Nat} {T : List Bool} {met : Bool} (hT : ∀ u, T.getD u false = true ↔ RF n E v u) (hm : met = true ↔ ∃ u : Nat, (u : Int) ∈ E ∧ RE n E v u) {i : Nat} {d : Dv} (hd : n.devs[i]? = some d) (hk : d.kind = 5 ∨ d.kind = 6) (h : T.getD d.a.toNat false = true) : protB n E v = false := by
  refine pB_false fun hp => ?_
  have := ((prot_marks hn hT hm).1 hp).1 i d (List.getElem?_eq_some_iff.1 hd).1 hd hk
  rw [h] at this; cases this
theorem protB_met {n : Net} (hn : n.ok) {E : List Int} {v : Nat} {T : List Bool} {met : Bool} (hT : ∀ u, T.getD u false = true ↔ RF n E v u) (hm : met = true ↔ ∃ u : Nat, (u : Int) ∈ E ∧ RE n E v u) (h : NoSrc n T n.devs.length) : protB n E v = met := by
  cases met
  · exact pB_false fun hp => by have := ((prot_marks hn hT hm).1 hp).2; cases this
  · exact pB_true ((prot_marks hn hT hm).2 ⟨h, rfl⟩)
end Go.Proofs.YtmfgaefefgnhbaaGreatDoor.Abs
