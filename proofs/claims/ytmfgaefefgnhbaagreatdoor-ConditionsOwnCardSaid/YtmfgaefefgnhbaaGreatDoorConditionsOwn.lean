/- THE STATEMENT 'Rows.ConditionsOwnSaid': ConditionsOwn returns true at every input, and each argument reads as it read. -/
import Derived.Test.YtmfgaefefgnhbaaGreatDoorRows
import Derived.Test.YtmfgaefefgnhbaaGreatDoorCards
import Derived.Test.YtmfgaefefgnhbaaGreatDoorTie
import Derived.LaidMore
import Derived.Stop.Joined
import Derived.SevenTiedAt
import Derived.WalkKit
import Derived.ProofKit
import Derived.OpenShut
import Derived.ShutString
import Derived.ChangeOld
import Derived.Below
import Derived.Test.YtmfgaefefgnhbaaGreatDoorT3
import Derived.Test.YtmfgaefefgnhbaaGreatDoorQZ
namespace Go.Proofs.YtmfgaefefgnhbaaGreatDoor.conditionsOwn
set_option linter.unusedSimpArgs false
set_option linter.unusedVariables false
open Go.ChangeShapes Go.WideShapes Go.ChangeAt Go.RowKit

theorem own : ownKnob Tryz.prog.godebug = none := by kernel_rfl
theorem laidOut : laidOutB Tryz.prog = true := by kernel_rfl
def sh0 : Abs.Sh := .slice (.int .i64)

noncomputable def laidL : List (String × DataW Unit) := [("permitoffice/lexeme.classes", Rows.laid_permitoffice_lexeme_classes)]
set_option maxRecDepth 100000
/-- The door's own heap meets the condition. -/
theorem door_met (os : Os) (args : Array Value) : laidMetH Tryz.prog laidL ((World.doorLaid Tryz.prog 18 os).forCall (fun _ _ => 0) ⟨#[], args, []⟩).memory :=
  laidMetH_of_parts3 (fuel := 8) (laidMet_of_run' 8 (by kernel_rfl) (by kernel_rfl)) (by kernel_rfl) (by kernel_rfl)
theorem globs {w : World} (h : laidMetH Tryz.prog laidL w) : ∀ g cs, (g, cs) ∈ Abs.GT0 → Abs.Conc (fun b => b < w.heap.size) w Abs.noPlace (.pointer (some ⟨g, 0, none⟩)) (.cptr cs) := by
  refine Abs.globs_of laidL Abs.GT0 (by kernel_rfl) h fun g cs hm => ?_
  rw [Abs.GT0, List.mem_singleton] at hm
  obtain ⟨rfl, rfl⟩ := Prod.mk.inj hm
  exact ⟨_, _, ((Tryz.prog.globals[0]?).map (·.type)).getD 0, 20, [.int .u8 65, .int .u8 90, .bool true, .int .u8 97, .int .u8 122, .bool true, .int .u8 48, .int .u8 57, .bool false, .int .u8 95, .int .u8 95, .bool false], List.mem_singleton.2 rfl, (by kernel_rfl), (by kernel_rfl), (by kernel_rfl), (by simp), rfl⟩
theorem lifted (os : Os) (started : os.Started) (H : Type) (enc : TypeId × Value → H) :
    ReturnsInHanded {} Tryz.checked os 3 .any (fun w args => (Rows.conditionsOwnSpec.pre enc Tryz.prog Tryz.f3 [] false w args ∧ laidMetH Tryz.prog laidL w) ∧ sizedMet enc Tryz.prog Tryz.f3 (OpenSpec.ofChange Rows.conditionsOwnSpec) false w args) (Rows.conditionsOwnSpec.post enc Tryz.prog Tryz.f3 false true false false) := by
  refine returnsInHanded_of_change_and (C := Tryz.checked) (X := fun w _ => laidMetH Tryz.prog laidL w) (fun _ _ _ hh h => h.of_heap hh) own started (by kernel_rfl) Tryz.func3
    (ChangeSpec.witness_shaped (enc := enc) (C := Tryz.checked) (os := os) (X := fun w _ => laidMetH Tryz.prog laidL w) false (World.doorLaid Tryz.prog 18 os) #[.slice none 0 0] 8 rfl (World.shaped_of_RefB (by kernel_rfl) (by kernel_rfl)) (by kernel_rfl) (by kernel_rfl) (by kernel_rfl) (door_met os _)) ?_
  intro W base args ds gs before hval0 hW _ _ hL _
  have hval : ∀ (j : Nat) t v, Tryz.f3.params[j]? = some t → args[j]? = some v → Value.okWide Tryz.prog W .any base t v := hval0
  have hW' := hW
  obtain ⟨p, q, hA0, hV, rfl, hfz, hnd⟩ := hW
  have hA : DataW.TrodAll enc Tryz.prog W 0 (fun _ => true) true Tryz.f3.params.toList args.toList ds p := hA0
  rw [Tryz.params3] at hA hval
  obtain ⟨v0, vs0, d0, ds0, p0, q0, hargs0, rfl, rfl, h0, r0⟩ := trodAll_cons hA
  obtain ⟨rfl, rfl, rfl⟩ := trodAll_nil r0
  obtain rfl : args = #[v0] := by cases args; simp_all
  obtain ⟨rfl, rfl⟩ := trodVars_none hV
  have k0 := h0
  have lt0 : ∀ x ∈ p0, x.block < W.heap.size := by obtain ⟨m, hm⟩ := k0; exact DataW.trod_lt m _ _ _ hm
  obtain ⟨x0, o0, c0⟩ := Abs.open_arg sh0 (by kernel_rfl) (hval 0 22 v0 rfl rfl) h0
  clear hA0 hval0
  have call := Abs.below_ofG (vs := #[v0]) (w := W) (Abs.condOwnLaw_av x0 o0) rfl (fun i v a e e' => by
    rcases i with _ | i
    · simp at e e'; subst e; subst e'; exact c0
    · simp at e) (globs hL)
  refine call.mono fun e W' ⟨he, bel⟩ => ?_
  subst he
  exact ⟨_, rfl, _, _, _, [], _, [], hW', trodAll_mk1 (shut_bool Tryz.underlying4 _), (trodAll_cons_mk (Below.trod laidOut (by kernel_rfl) (of_decide_eq_true (by kernel_rfl)) k0 bel lt0) trodAll_mk0), rfl, bel.frame _, fun h => by cases h⟩

theorem over : Rows.conditionsOwnRow.holds Tryz.pinned (OpenSpec.ofChange Rows.conditionsOwnSpec) :=
  OpenClaim.holds_of_wide 3 Tryz.f3 rfl rfl rfl rfl rfl rfl rfl ⟨rfl, rfl, rfl, rfl, rfl⟩ rfl rfl rfl rfl rfl (by kernel_rfl) Tryz.func3 (by kernel_rfl)
    (of_decide_eq_true (by kernel_rfl)) (by unfold Func.isWrapper; first | (rw [if_pos (by decide +kernel)]; kernel_rfl) | (rw [if_neg (by decide +kernel)]; exact ⟨rfl, rfl⟩))
    (fun os started H enc _ => lifted os started H enc)

theorem proved : Rows.ConditionsOwnCardSaid :=
  Claim7.holds_tied_plain_at .later [] [.data] true (true, "fb1c502bc82ca3d9c2949221f59f50da88024e3f2d540f48e049619013deed1e") false
    over (fun _ h => by cases h) (by kernel_rfl) (fun _ h => by cases h) conditionsOwn_row_tie rfl ⟨rfl, rfl⟩ (by kernel_rfl) rfl
    (fun f fn hf hfn => by
      obtain rfl : f = 3 := Option.some.inj ((show Tryz.prog.funcNamed "permitoffice/permitofficelaw28.ConditionsOwn" = some 3 by kernel_rfl).symm.trans hf) |>.symm
      obtain rfl : fn = Tryz.f3 := (Option.some.inj (Tryz.func3.symm.trans hfn)).symm
      exact ⟨by kernel_rfl, fun j t ht => by
        rw [Tryz.params3] at ht
        have hm : t ∈ [22] := by simpa using Array.mem_of_getElem? ht
        have hall : ([22].all fun u => !Tryz.prog.wantsStandIn u) = true := by kernel_rfl
        exact (show Tryz.prog.wantsStandIn t = false by simpa using List.all_eq_true.1 hall t hm)⟩)
    (by kernel_rfl)
#print axioms proved
end Go.Proofs.YtmfgaefefgnhbaaGreatDoor.conditionsOwn
