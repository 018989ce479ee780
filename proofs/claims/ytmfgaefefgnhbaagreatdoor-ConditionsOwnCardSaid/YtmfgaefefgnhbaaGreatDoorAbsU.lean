/- Loops by goto: from a label back to the label. -/
import Derived.Test.YtmfgaefefgnhbaaGreatDoorT3
import Derived.Test.YtmfgaefefgnhbaaGreatDoorT4
namespace Go.Proofs.YtmfgaefefgnhbaaGreatDoor.Abs
set_option linter.unusedSimpArgs false
set_option linter.unusedVariables false
open Go Go.RowKit

section
variable {P : Program} {GT : Ctx} {s : St} {k : List Item} {Q : Exit → St → Prop}
/-- What is done again and again, from one point of the code: while a measure falls. -/
theorem J_again {ι : Type} {sl : List AV} {os : List Obj} (forget : List Nat) (vars : ι → List (Nat × AV)) (objs : ι → List Obj) (ok : ι → Prop) (μ : ι → Nat) (x0 : ι) (hok : ok x0) (h0 : SemLe GT ⟨sl, os⟩ ⟨headS forget (vars x0) sl, objs x0⟩)
    (body : ∀ x, ok x → (∀ y s', ok y → μ y < μ x → SemLe GT s' ⟨headS forget (vars y) sl, objs y⟩ → J P GT k s' Q) → J P GT k ⟨headS forget (vars x) sl, objs x⟩ Q) : J P GT k ⟨sl, os⟩ Q := by
  have key : ∀ m x, ok x → μ x ≤ m → J P GT k ⟨headS forget (vars x) sl, objs x⟩ Q := by
    intro m
    induction m with
    | zero => exact fun x hx hm => body x hx fun y s' _ hlt _ => absurd hlt (by omega)
    | succ m ih => exact fun x hx hm => body x hx fun y s' hy hlt hle => J_sem hle (ih y hy (by omega))
  exact J_sem h0 (key (μ x0) x0 hok (Nat.le_refl _))
end
theorem W_zero {P : Program} {GT : Ctx} {s : St} {k : List Item} {Q : Exit → St → Prop} : W P GT Q 0 (.code k) s = J P GT k s Q := by simp only [W, Job.sem]
/-- Less said of the arguments. -/
theorem Holds.args {P : Program} {T : Globs} {f : FuncId} {args args' : List AV} {objs : List Obj} {R : AV → List Obj → Prop} (h : Holds P T f args' objs R) (hl : VLes args args') : Holds P T f args objs R := by
  refine ⟨h.1, fun w I vs q0 h1 h2 h3 h4 h5 => h.2 w I vs q0 (by rw [h1, hl.get.1]) (fun i v a hv ha => ?_) h3 h4 h5⟩
  obtain ⟨x, hx, hxa⟩ := hl.get.2 i a ha
  exact hxa _ _ _ _ (h2 i v x hv hx)
end Go.Proofs.YtmfgaefefgnhbaaGreatDoor.Abs
