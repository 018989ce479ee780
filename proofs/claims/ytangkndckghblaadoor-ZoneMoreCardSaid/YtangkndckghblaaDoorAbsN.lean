/- From a contract to a call in a world: what a law's row asks. -/
import Derived.Test.YtangkndckghblaaDoorAbsK
import Derived.Below
import Derived.Carry
namespace Go.Proofs.YtangkndckghblaaDoor.Abs
set_option linter.unusedSimpArgs false
set_option linter.unusedVariables false
open Go Go.RowKit

section
variable {P : Program}

theorem conc_raw_eq {I : Nat → Prop} {w : World} {q : Place} {v u : Value} (h : Conc I w q v (.raw u)) : v = u := by cases h; rfl

/-- A function that returns one value and writes nothing that was there. -/
theorem below_of {f : FuncId} {args : List AV} {u : Value} (h : Fn1 P [] f args (.raw u) []) {vs : Array Value} {w : World} (hsz : vs.size = args.length)
    (hargs : ∀ (i : Nat) (v : Value) (a : AV), vs[i]? = some v → args[i]? = some a → Conc (fun b => b < w.heap.size) w noPlace v a) :
    Calls P f vs w fun e w' => e = .returned u ∧ Below w.heap.size w w' := by
  refine (h.2 w (fun b => b < w.heap.size) vs noPlace hsz hargs ?_ (fun _ h => h) (fun _ _ h => (by cases h))).mono ?_
  · refine ⟨fun id => ?_, fun i j r r' e => ?_, fun i r e => ?_⟩
    · simp [ObjConc, noPlace]
    · cases e
    · cases e
  · rintro e w' ⟨v, q, I', r, os, ⟨rfl, rfl⟩, rfl, hf, _, _, _, hc, _, _⟩
    refine ⟨by rw [conc_raw_eq hc], hf.os, hf.tape, hf.output, hf.size, fun k hk => hf.block k hk ?_⟩
    rintro ⟨i, r, e, _⟩
    cases e

/-- What is known of a slice of integers that came in. -/
def IsRow (k : IntKind) (w : World) (a : Option Addr) (len cap : Nat) (zs : List Int) : Prop :=
  (a = none ∧ len = 0 ∧ cap = 0 ∧ zs = []) ∨
  ∃ x, a = some x ∧ len ≤ cap ∧ cap ≤ maxLen ∧ zs.length = cap ∧ (∀ i, i < zs.length → w.cell? (x.add i) = some (.int k (zs.getD i 0))) ∧ ∀ n ∈ zs, (Lit.int k n).wf = true

def encI (k : IntKind) (n : Int) : List AV := [.raw (.int k n)]
theorem conc_row {k : IntKind} {w : World} {q : Place} {a : Option Addr} {len cap : Nat} {zs : List Int} (h : IsRow k w a len cap zs) :
    Conc (fun b => b < w.heap.size) w q (.slice a len cap) (.lst 1 ((zs.take len).map (encI k))) := by
  rcases h with ⟨rfl, rfl, rfl, rfl⟩ | ⟨x, rfl, hl, hm, hz, hcell, _⟩
  · refine .lst (f := fun _ _ => .bool false) rfl (Nat.le_refl _) (Nat.zero_le _) (by simp) (.inl rfl) (by simp) (by simp)
  · have hlen : ((zs.take len).map (encI k)).length = len := by simp; omega
    by_cases h0 : len = 0
    · subst h0
      exact .lst (f := fun _ _ => .bool false) (by simp) hl hm (by simp) (.inl (by simp)) (by simp) (by simp)
    · obtain ⟨b, off, spot⟩ := x
      have hc := hcell 0 (by omega)
      have hspot : spot = none := by simpa [Addr.add] using World.cell?_spot hc
      subst hspot
      refine .lst (f := fun i _ => .int k (zs.getD i 0)) hlen.symm hl hm (fun y hy => by obtain ⟨z, _, rfl⟩ := List.mem_map.1 hy; rfl) (.inr ⟨b, off, rfl, ?_, fun i j hi hj => ?_⟩) (fun i j _ _ => rfl) fun i j x a e e' => ?_
      · rcases Nat.lt_or_ge b w.heap.size with h | h
        · exact h
        · simp [Addr.add, World.cell?, Array.getElem?_eq_none h] at hc
      · have hj0 : j = 0 := by omega
        subst hj0
        have := hcell i (by omega)
        have e : (⟨b, off, none⟩ : Addr).add i = ⟨b, off + i * 1 + 0, none⟩ := by
          by_cases hi0 : i = 0 <;> simp [Addr.add, hi0]
        rwa [e] at this
      · have hi : i < len := by
          rcases Nat.lt_or_ge i len with h | h
          · exact h
          · rw [List.getElem?_eq_none (by omega)] at e; cases e
        rw [List.getElem?_map, List.getElem?_take, if_pos hi, List.getElem?_eq_getElem (by omega)] at e
        simp only [Option.map_some, Option.some.injEq] at e
        subst e
        rcases j with _ | j
        · simp only [encI, List.getElem?_cons_zero, Option.some.injEq] at e'
          subst e'
          simp only [List.getD_eq_getElem?_getD, List.getElem?_eq_getElem (show i < zs.length by omega), Option.getD_some]
          exact .raw
        · simp [encI] at e'
end
end Go.Proofs.YtangkndckghblaaDoor.Abs
