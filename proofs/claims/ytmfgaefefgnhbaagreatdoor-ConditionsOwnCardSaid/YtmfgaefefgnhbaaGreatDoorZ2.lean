/- A device is added to the network that is made. The networks that the statements make. -/
import Derived.Test.YtmfgaefefgnhbaaGreatDoorZ1
namespace Go.Proofs.YtmfgaefefgnhbaaGreatDoor.Abs
set_option linter.unusedSimpArgs false
set_option linter.unusedVariables false
set_option maxRecDepth 100000
open Go Go.RowKit

/-- The letter of a kind. -/
def letterOf (k : Int) : Nat := if k = 1 then 76 else if k = 2 then 81 else if k = 3 then 68 else if k = 4 then 69 else if k = 5 then 83 else 71
theorem letterOf_mem (k : Int) : letterOf k ∈ letters := by
  unfold letterOf letters
  repeat' split
  all_goals simp
/-- What is left behind 'add'. -/
def AddR (ns : List Nd) (ds : List Dv) (kind a b most : Int) (r : AV) (os : List Obj) : Prop := r = .tup [] ∧ ∃ d : Dk, d.ok ∧
  ((most ≤ ds.length ∧ os = [.box [.own 1 3 0 ns.length, .own 2 5 0 ds.length], .arr 3 (ns.map encNd), .arr 5 (ds.map encDv), .box [.raw (.int .i64 most)], .box [.ref 5 0], .box (encDk d)]) ∨
   ((ds.length : Int) < most ∧ ∃ comp, 0 ≤ comp ∧ comp ≤ 7 ∧ os = [.box [.own 1 3 0 ns.length, .own 6 5 0 (ds.length + 1)], .arr 3 (ns.map encNd), .dead, .box [.raw (.int .i64 most)], .box [.ref 5 0], .box (encDk d), .arr 5 ((ds ++ [(⟨nmS (letterOf kind) ds.length, kind, a, b, comp⟩ : Dv)]).map encDv)]))
end Go.Proofs.YtmfgaefefgnhbaaGreatDoor.Abs
namespace Go.Proofs.YtmfgaefefgnhbaaGreatDoor.Abs
set_option linter.unusedSimpArgs false
set_option linter.unusedVariables false
set_option maxRecDepth 100000
open Go Go.RowKit

/-- A network that was drawn. -/
def DrawnNet (nodes most : Int) (r : AV) (os : List Obj) : Prop := ∃ (n : Net) (k : Nat) (d : Dk), d.ok ∧ Made k n ∧ 2 ≤ k ∧ (k : Int) ≤ max 2 nodes ∧ (n.devs.length : Int) ≤ most ∧ 1 ≤ n.devs.length ∧ r = .agg (encNet n) ∧ os = [.box (encDk d)]
theorem made_node {k : Nat} {ns : List Nd} (h : ∀ i (hi : i < ns.length), ns[i].name = nmS 78 i ∧ 0 ≤ ns[i].cust ∧ ns[i].cust ≤ 1048576 ∧ 0 ≤ ns[i].comp ∧ ns[i].comp ≤ 7) {c p : Int} (hc : 0 ≤ c ∧ c ≤ 1048576) (hp : 0 ≤ p ∧ p ≤ 7) :
    ∀ i (hi : i < (ns ++ [(⟨nmS 78 ns.length, c, p⟩ : Nd)]).length), (ns ++ [(⟨nmS 78 ns.length, c, p⟩ : Nd)])[i].name = nmS 78 i ∧ 0 ≤ (ns ++ [(⟨nmS 78 ns.length, c, p⟩ : Nd)])[i].cust ∧ (ns ++ [(⟨nmS 78 ns.length, c, p⟩ : Nd)])[i].cust ≤ 1048576 ∧ 0 ≤ (ns ++ [(⟨nmS 78 ns.length, c, p⟩ : Nd)])[i].comp ∧ (ns ++ [(⟨nmS 78 ns.length, c, p⟩ : Nd)])[i].comp ≤ 7 := by
  intro i hi
  rw [List.getElem_append]
  split
  · exact h i (by assumption)
  · have : i = ns.length := by simp at hi; omega
    subst this
    simp only [Nat.sub_self, List.getElem_cons_zero]
    exact ⟨trivial, hc.1, hc.2, hp.1, hp.2⟩
theorem Made.add {k : Nat} {ns : List Nd} {ds : List Dv} (h : Made k ⟨ns, ds⟩) {kind a b comp : Int} (hd : (⟨nmS (letterOf kind) ds.length, kind, a, b, comp⟩ : Dv).ok k) (hc : 0 ≤ comp ∧ comp ≤ 7) : Made k ⟨ns, ds ++ [(⟨nmS (letterOf kind) ds.length, kind, a, b, comp⟩ : Dv)]⟩ := by
  refine ⟨h.nl, h.nd, fun i hi => ?_⟩
  simp only [List.getElem_append]
  split
  · exact h.dv i (by assumption)
  · have : i = ds.length := by simp at hi; omega
    subst this
    simp only [Nat.sub_self, List.getElem_cons_zero]
    exact ⟨⟨_, letterOf_mem kind, rfl⟩, hd, hc.1, hc.2⟩
theorem dv_ok1 {nm : ByteArray} {k : Nat} {kind a comp : Int} (h1 : 4 ≤ kind) (h2 : kind ≤ 6) (ha : 0 ≤ a) (hk : a < k) : (⟨nm, kind, a, -1, comp⟩ : Dv).ok k :=
  ⟨by simp only; omega, h2, ha, hk, fun h => by simp [joinsK] at h; omega, fun _ => rfl⟩
theorem dv_ok2 {nm : ByteArray} {k : Nat} {kind a b comp : Int} (h1 : 1 ≤ kind) (h2 : kind ≤ 3) (ha : 0 ≤ a) (hk : a < k) (hb : 0 ≤ b) (hbk : b < k) (hne : b ≠ a) : (⟨nm, kind, a, b, comp⟩ : Dv).ok k :=
  ⟨h1, by simp only; omega, ha, hk, fun _ => ⟨hb, hbk, hne⟩, fun h => by simp [joinsK] at h; omega⟩

/-- What is drawn of a node. -/
def NodeOk (ns : List Nd) : Prop := ∀ i (hi : i < ns.length), ns[i].name = nmS 78 i ∧ 0 ≤ ns[i].cust ∧ ns[i].cust ≤ 1048576 ∧ 0 ≤ ns[i].comp ∧ ns[i].comp ≤ 7
theorem NodeOk.push {ns : List Nd} (h : NodeOk ns) {c p : Int} (hc : 0 ≤ c ∧ c ≤ 1048576) (hp : 0 ≤ p ∧ p ≤ 7) : NodeOk (ns ++ [⟨nmS 78 ns.length, c, p⟩]) := made_node (k := 0) h hc hp
theorem rem_ne {a c : Int} {k : Nat} (ha : 0 ≤ a) (hk : a < k) (hc : 0 ≤ c) (hck : c < (k : Int) - 1) : 0 ≤ (a + 1 + c).tmod k ∧ (a + 1 + c).tmod k < k ∧ (a + 1 + c).tmod k ≠ a := by
  rw [Int.tmod_eq_emod_of_nonneg (by omega)]
  by_cases h : a + 1 + c < k
  · rw [Int.emod_eq_of_lt (by omega) h]; omega
  · have : (a + 1 + c) % (k : Int) = a + 1 + c - k := by
      rw [← Int.sub_emod_right]
      exact Int.emod_eq_of_lt (by omega) (by omega)
    rw [this]; omega
end Go.Proofs.YtmfgaefefgnhbaaGreatDoor.Abs
