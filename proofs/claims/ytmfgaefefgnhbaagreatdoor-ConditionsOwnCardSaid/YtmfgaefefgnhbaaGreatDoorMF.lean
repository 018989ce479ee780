/- The bays that the statements make. -/
import Derived.Test.YtmfgaefefgnhbaaGreatDoorZ2
import Derived.Test.YtmfgaefefgnhbaaGreatDoorZ3
namespace Go.Proofs.YtmfgaefefgnhbaaGreatDoor.Abs
set_option linter.unusedSimpArgs false
set_option linter.unusedVariables false
set_option maxRecDepth 100000
open Go Go.RowKit

/-- Devices of a bay. -/
def bay6 : List Dv := [⟨⟨#[83, 48]⟩, 5, 0, -1, 0⟩, ⟨nmS 88 0, 2, 0, 1, 0⟩, ⟨nmS 88 1, 3, 1, 2, 0⟩, ⟨nmS 88 2, 1, 2, 3, 0⟩, ⟨nmS 88 3, 3, 3, 4, 0⟩, ⟨nmS 88 4, 2, 4, 5, 0⟩]
def kindOf (k : Nat) : Int := if k = 0 ∨ k = 4 then 2 else if k = 2 then 1 else 3
def bayDevs (t : List Dv) : List Dv := bay6 ++ [⟨⟨#[69, 50]⟩, 4, 2, -1, 0⟩, ⟨⟨#[69, 51]⟩, 4, 3, -1, 0⟩] ++ t
def bayTail : Nat → List Dv
  | 0 => [⟨⟨#[83, 53]⟩, 5, 5, -1, 0⟩]
  | 1 => [⟨⟨#[71, 51]⟩, 6, 3, -1, 0⟩]
  | 2 => [⟨⟨#[68, 49]⟩, 3, 1, 4, 0⟩]
  | _ => []
def bayBase (j : Nat) : Net := ⟨(List.range 6).map fun i => ⟨nmS 78 i, 0, 0⟩, bayDevs (bayTail j)⟩
theorem bayBase_ok (j : Nat) : (bayBase j).ok := by
  match j with
  | 0 => exact Net.chk_ok.1 (by decide +kernel)
  | 1 => exact Net.chk_ok.1 (by decide +kernel)
  | 2 => exact Net.chk_ok.1 (by decide +kernel)
  | k + 3 => exact Net.chk_ok.1 (show (bayBase 3).chk = 0 by decide +kernel)
/-- A valid network stays valid with other numbers of customers. -/
theorem ok_cust {n m : Net} (hn : n.ok) (hd : m.devs = n.devs) (hl : m.nodes.length = n.nodes.length) (h : ∀ i (hi : i < m.nodes.length), m.nodes[i].name = (n.nodes[i]'(by omega)).name ∧ m.nodes[i].comp = (n.nodes[i]'(by omega)).comp ∧ 0 ≤ m.nodes[i].cust ∧ m.nodes[i].cust ≤ 1048576) : m.ok := by
  have hnames : m.nodes.map Nd.name = n.nodes.map Nd.name := by
    apply List.ext_getElem (by simp [hl])
    intro i h1 h2
    simp only [List.getElem_map]
    exact (h i (by simpa using h1)).1
  refine ⟨by rw [hl]; exact hn.nl, by rw [hd]; exact hn.dl, fun i hi => ?_, fun i hi => ?_⟩
  · have h1 := hn.nd i (by omega)
    have hh := h i hi
    unfold nErr at h1 ⊢
    rw [getD_get hi]
    rw [getD_get (show i < n.nodes.length by omega)] at h1
    have ht : (m.nodes.take i).map Nd.name = (n.nodes.take i).map Nd.name := by rw [List.map_take, List.map_take, hnames]
    simp only [hh.1, ht, hh.2.1]
    simp only at h1
    split at h1
    · cases h1
    rename_i g1
    rw [if_neg g1]
    split at h1
    · cases h1
    rename_i g2
    rw [if_neg g2]
    split at h1
    · cases h1
    rename_i g3
    rw [if_neg (by omega)]
  · have h1 := hn.dv i (by rw [← hd]; exact hi)
    unfold dErr at h1 ⊢
    rw [hd, hnames, hl]
    exact h1
/-- Nodes of a bay. -/
def BayNodes (ns : List Nd) : Prop := ∀ i (hi : i < ns.length), ns[i].name = nmS 78 i ∧ ns[i].comp = 0 ∧ 0 ≤ ns[i].cust ∧ ns[i].cust ≤ 1048576
theorem BayNodes.push {ns : List Nd} (h : BayNodes ns) {c : Int} (h0 : 0 ≤ c) (h1 : c ≤ 1048576) : BayNodes (ns ++ [⟨nmS 78 ns.length, c, 0⟩]) := by
  intro i hi
  rw [List.getElem_append]
  split
  · exact h i (by assumption)
  · have hie : i = ns.length := by simp at hi; omega
    subst hie
    simp only [Nat.sub_self, List.getElem_cons_zero]
    exact ⟨trivial, trivial, h0, h1⟩
theorem bay_ok {ns : List Nd} (h : BayNodes ns) (hl : ns.length = 6) (j : Nat) : (⟨ns, bayDevs (bayTail j)⟩ : Net).ok := by
  refine ok_cust (n := bayBase j) (bayBase_ok j) rfl (by simp [bayBase, hl]) fun i hi => ?_
  have := h i hi
  simp only [bayBase, List.getElem_map, List.getElem_range]
  exact ⟨this.1, this.2.1, this.2.2⟩
/-- A bay that was drawn, with its state. -/
def DrawnBay (r : AV) (os : List Obj) : Prop := ∃ (n : Net) (st : List Int) (d : Dk), d.ok ∧ n.ok ∧ n.nodes.length = 6 ∧ 1 ≤ n.devs.length ∧ n.devs.length ≤ 9 ∧ st.length = n.devs.length ∧ (∀ x, x ∈ st → x = 1 ∨ x = 2) ∧ r = .tup [.agg (encNet n), .lst 1 (st.map encN)] ∧ os = [.box (encDk d)]
def unN : List AV → Int
  | [.raw (.int .i64 v)] => v
  | _ => 0
theorem bayEnd {ns : List Nd} (h : BayNodes ns) (hl : ns.length = 6) (j : Nat) {d : Dk} (hd : d.ok) {xs ys : List (List AV)} (hxs : xs = (bayDevs (bayTail j)).map encDv) (hys : ys = (ys.map unN).map encN) (hs : (ys.map unN).length = (bayDevs (bayTail j)).length) (hx : ((ys.map unN).all fun x => decide (x = 1 ∨ x = 2)) = true) :
    DrawnBay (.tup [.agg [.lst 3 ((ns.map encNd).take 6), .lst 5 xs], .lst 1 ys]) [.box (encDk d)] := by
  refine ⟨⟨ns, bayDevs (bayTail j)⟩, ys.map unN, d, hd, bay_ok h hl j, hl, ?_, ?_, hs, fun x hx' => ?_, ?_, rfl⟩
  · simp [bayDevs, bay6]
  · match j with
    | 0 => simp [bayDevs, bay6, bayTail]
    | 1 => simp [bayDevs, bay6, bayTail]
    | 2 => simp [bayDevs, bay6, bayTail]
    | k + 3 => simp [bayDevs, bay6, bayTail]
  · have := List.all_eq_true.1 hx x hx'
    simpa using this
  · rw [← hys, hxs, List.take_of_length_le (by simp [hl])]; rfl
end Go.Proofs.YtmfgaefefgnhbaaGreatDoor.Abs
