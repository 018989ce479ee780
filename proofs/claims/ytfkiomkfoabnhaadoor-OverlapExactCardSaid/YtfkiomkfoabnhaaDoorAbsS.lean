/- A call that writes some objects and gets others for good. -/
import Derived.Test.YtfkiomkfoabnhaaDoorT4
namespace Go.Proofs.YtfkiomkfoabnhaaDoor.Abs
set_option linter.unusedSimpArgs false
set_option linter.unusedVariables false
open Go Go.RowKit

section
variable {P : Program} {GT : Ctx} {s : St}
/-- The objects of T may be written; those of G are given for good. -/
theorem CallA.mutGive {f : FuncId} {args args' : List AV} {objs' : List Obj} {d : Option Tmp} {K : St → Prop} {R : AV → List Obj → Prop} (T G : List Nat) (hnd : nodupB T = true) (hl : (T.all fun i => !((s.frz G).obj i).isDead) = true)
    (ha : AV.leafsL (AV.ren (idxIn T)) (AV.leafsL (frzF s G) args) = args') (ho : (T.map fun i => ((s.frz G).obj i).leafs (AV.ren (idxIn T))) = objs') (h : Holds P GT.tab f args' objs' R)
    (hk : ∀ r os, R r os → K (((s.frz G).back T os).put d (r.leafs (AV.ren (backName T (s.frz G).objs.length))))) : CallA P GT true s f args d K := by
  refine ⟨G, T, [], R, .inl rfl, hnd, by simpa using hl, ?_, fun r os hR => ⟨.inl rfl, _, .refl _ _, hk r os hR⟩⟩
  have h3 : ((args.map (AV.leafs (frzF s G))).map fun x => (x.leafs (frzF (s.frz G) [])).leafs (AV.ren (idxIn T))) = args' := by
    have : (fun x : AV => (x.leafs (frzF (s.frz G) [])).leafs (AV.ren (idxIn T))) = (AV.leafs (AV.ren (idxIn T))) ∘ (AV.leafs (frzF (s.frz G) [])) := rfl
    rw [this, ← List.map_map, ← AV.leafsL_eq, ← AV.leafsL_eq, ← AV.leafsL_eq, AV.leafsL_self _ (frzF_nil _), ha]
  have h4 : (T.map fun i => ((((s.frz G).obj i).leafs (frzF (s.frz G) [])).leafs (AV.ren (idxIn T)))) = objs' := by
    rw [← ho]
    apply List.map_congr_left
    intro i _
    rw [Obj.leafs_self _ (frzF_nil _)]
  rw [h3, h4]
  exact h
end
end Go.Proofs.YtfkiomkfoabnhaaDoor.Abs
