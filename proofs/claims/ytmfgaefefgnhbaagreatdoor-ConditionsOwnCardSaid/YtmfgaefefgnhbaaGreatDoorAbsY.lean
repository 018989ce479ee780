/- Regions that draw their order, by one state for each set of steps: the steps as a list, the states closed under what comes before. -/
import Derived.Test.YtmfgaefefgnhbaaGreatDoorAbsV
import Derived.Test.YtmfgaefefgnhbaaGreatDoorT3
namespace Go.Proofs.YtmfgaefefgnhbaaGreatDoor.Abs
set_option linter.unusedSimpArgs false
set_option linter.unusedVariables false
open Go Go.RowKit

/-- Whether step i waits for step j. -/
def depB (ops : Array Oper) (i j : Nat) : Bool := match ops[i]? with
  | some o => o.after.any fun e => Region.binds .any e && e.on == j
  | none => false
def ClosedO (ops : Array Oper) (L : Nat → Bool) : Prop := ∀ i j, depB ops i j = true → L i = true → L j = true
theorem ClosedO.no {ops : Array Oper} {L : Nat → Bool} (h : ClosedO ops L) {i j : Nat} (hd : depB ops i j = true) (hj : L j = false) : L i = false := by
  cases hi : L i with
  | false => rfl
  | true => rw [h i j hd hi] at hj; cases hj
def backB (ops : Array Oper) : Bool := (List.range ops.size).all fun i => match ops[i]? with
  | some o => o.after.all fun e => decide (e.on < i)
  | none => true
theorem backB_ok {ops : Array Oper} (h : backB ops = true) : ∀ (i : Nat) (o : Oper), ops[i]? = some o → ∀ e ∈ o.after, e.on < i := by
  intro i o ho e he
  unfold backB at h
  rw [List.all_eq_true] at h
  have h1 := h i (List.mem_range.2 (Array.getElem?_eq_some_iff.1 ho).1)
  rw [ho] at h1
  exact of_decide_eq_true (Array.all_eq_true'.1 h1 e he)
section
variable {P : Program} {GT : Ctx} {k : List Item} {Q : Exit → St → Prop} {M : List Nat}
/-- Every step keeps to the states. -/
def InvSteps (P : Program) (GT : Ctx) (ops : Array Oper) (M : List Nat) {ι : Type} (S : (Nat → Bool) → ι → St) (ok : ι → Prop) : Nat → List Oper → Prop
  | _, [] => True
  | i, o :: r => (∀ (L : Nat → Bool) (x : ι), L i = false → (∀ j, depB ops i j = true → L j = true) → ClosedO ops L → ok x →
      ∀ K : St → Prop, (∀ x' s', ok x' → SemLe GT s' (S (upd L i) x') → K s') → StepAt P GT ops (M.contains i) (S L x) K (some o)) ∧ InvSteps P GT ops M S ok (i + 1) r
theorem invSteps_cons {ops : Array Oper} {ι : Type} {S : (Nat → Bool) → ι → St} {ok : ι → Prop} (i : Nat) {o : Oper} {r : List Oper}
    (h : ∀ (L : Nat → Bool) (x : ι), L i = false → (∀ j, depB ops i j = true → L j = true) → ClosedO ops L → ok x →
      ∀ K : St → Prop, (∀ x' s', ok x' → SemLe GT s' (S (upd L i) x') → K s') → StepAt P GT ops (M.contains i) (S L x) K (some o)) (hr : InvSteps P GT ops M S ok (i + 1) r) : InvSteps P GT ops M S ok i (o :: r) := ⟨h, hr⟩
theorem InvSteps.at {ops : Array Oper} {ι : Type} {S : (Nat → Bool) → ι → St} {ok : ι → Prop} : ∀ {l : List Oper} {n : Nat}, InvSteps P GT ops M S ok n l → ∀ (i : Nat) (o : Oper), l[i]? = some o → ∀ (L : Nat → Bool) (x : ι), L (n + i) = false → (∀ j, depB ops (n + i) j = true → L j = true) → ClosedO ops L → ok x →
      ∀ K : St → Prop, (∀ x' s', ok x' → SemLe GT s' (S (upd L (n + i)) x') → K s') → StepAt P GT ops (M.contains (n + i)) (S L x) K (some o)
  | [], n, _, i, o, ho => by simp at ho
  | a :: l, n, h, 0, o, ho => by
    simp only [List.getElem?_cons_zero, Option.some.injEq] at ho
    subst ho
    exact h.1
  | a :: l, n, h, i + 1, o, ho => by
    have := InvSteps.at h.2 i o (by simpa using ho)
    rw [show n + 1 + i = n + (i + 1) by omega] at this
    exact this
theorem J_inv2 {l : List Oper} {ι : Type} {id : Nat} {s : St} (hm : P.follows .mixedOrders = true) (M : List Nat) (S : (Nat → Bool) → ι → St) (ok : ι → Prop) (x0 : ι) (N : Nat) (hN : l.length = N)
    (hback : backB l.toArray = true) (h0 : ok x0) (hle : SemLe GT s (S (fun _ => false) x0))
    (hstep : InvSteps P GT l.toArray M S ok 0 l)
    (hend : ∀ x, ok x → J P GT k (S (fun i => decide (i < N)) x) Q) : J P GT (.code (.region id l.toArray true) :: k) s Q := by
  refine J_inv hm M S (fun L x => ok x ∧ ClosedO l.toArray L ∧ ∀ i, N ≤ i → L i = false) x0 (backB_ok hback) ⟨h0, fun i j _ hi => (by cases hi), fun _ _ => rfl⟩ hle ?_ ?_
  · rintro L x i o ho hL hd ⟨h1, h2, h3⟩
    have hlt : i < N := by
      have := (Array.getElem?_eq_some_iff.1 ho).1
      simpa [hN] using this
    have hdep : ∀ j, depB l.toArray i j = true → L j = true := fun j hj => by
      unfold depB at hj
      rw [ho] at hj
      simp only [Array.any_eq_true'] at hj
      obtain ⟨e, he, hb⟩ := hj
      simp only [Bool.and_eq_true, beq_iff_eq] at hb
      rw [← hb.2]
      exact hd e he hb.1
    have hs := hstep.at i o (by simpa using ho) L x (by simpa using hL) (by simpa using hdep) h2 h1
    simp only [Nat.zero_add] at hs
    refine hs _ ?_
    intro x' s' h4 h5
    refine ⟨x', ⟨h4, fun a b hab ha => ?_, fun j hj => ?_⟩, h5⟩
    · by_cases hb : b = i
      · subst hb; exact upd_self
      · rw [upd_ne hb]
        by_cases hai : a = i
        · subst hai; exact hdep b hab
        · rw [upd_ne hai] at ha; exact h2 a b hab ha
    · rw [upd_ne (by omega)]; exact h3 j hj
  · rintro L x hall ⟨h1, h2, h3⟩
    have e : L = fun i => decide (i < N) := by
      funext i
      by_cases hi : i < N
      · rw [hall i (by simpa [hN] using hi), decide_eq_true hi]
      · rw [h3 i (by omega), decide_eq_false hi]
    rw [e]
    exact hend x h1
end
@[simp] theorem keeps_opt {s : St} {b : Bool} {v : AV} : (opt b v).keeps s = (!b || v.keeps s) := by cases b <;> simp [opt, AV.keeps]
@[simp] theorem dead_optO {b : Bool} {o : Obj} : (optO b o).isDead = (!b || o.isDead) := by cases b <;> simp [optO, Obj.isDead]
theorem opt_le {s' : St} {b : Bool} {v : AV} : opt b v = .top ∨ (opt b v = opt b v ∧ (opt b v).keeps s' = true) ↔ (b = true → v = .top ∨ v.keeps s' = true) := by
  cases b <;> simp [opt]
@[simp] theorem le_optO {s' : St} {b : Bool} {o : Obj} : (optO b o).le s' (optO b o) ↔ (b = true → o.le s' o) := by
  cases b <;> simp [optO, Obj.le]
theorem opt_leafs {f : AV → AV} {b : Bool} {v : AV} : (opt b v).leafs f = opt b (v.leafs f) := by cases b <;> simp [opt, AV.leafs]
theorem optO_leafs {f : AV → AV} {b : Bool} {o : Obj} : (optO b o).leafs f = optO b (o.leafs f) := by cases b <;> simp [optO, Obj.leafs]
theorem leafsL_cond {f : AV → AV} {b : Bool} {l m : List AV} : AV.leafsL f (cond b l m) = cond b (AV.leafsL f l) (AV.leafsL f m) := by cases b <;> rfl
@[simp] theorem keepsL_cond {s : St} {b : Bool} {l m : List AV} : AV.keepsL s (cond b l m) = cond b (AV.keepsL s l) (AV.keepsL s m) := by cases b <;> rfl
/-- Places for objects that are to come. -/
theorem SemLe.pad {GT : Ctx} {sl : List AV} {os : List Obj} (n : Nat) : SemLe GT ⟨sl, os⟩ ⟨sl, os ++ List.replicate n .dead⟩ := fun B a w hs => by
  obtain ⟨p, I, h, h1, h2, h3⟩ := hs
  have e : ∀ i, (⟨sl, os ++ List.replicate n .dead⟩ : St).obj i = (⟨sl, os⟩ : St).obj i := fun i => by
    simp only [St.obj, List.getD_eq_getElem?_getD, List.getElem?_append, List.getElem?_replicate]
    split
    · rfl
    · rename_i hi
      rw [List.getElem?_eq_none (by omega)]
      split <;> rfl
  exact ⟨p, I, { h with obj := fun i => by rw [e]; exact h.obj i, given := by have := h.given; simp at this ⊢; omega }, h1, h2, h3⟩
theorem SemLe.top {GT : Ctx} {os : List Obj} : ∀ (ds : List Nat) (sl : List AV), SemLe GT ⟨sl, os⟩ ⟨topL ds sl, os⟩
  | [], sl => fun _ _ _ h => h
  | d :: ds, sl => SemLe.trans (SemLe.slot d (y := .top) fun _ _ _ _ _ => .top) (SemLe.top ds _)
/-- Slots of which nothing more is said. -/
theorem J_top {P : Program} {GT : Ctx} {k : List Item} {Q : Exit → St → Prop} {sl : List AV} {os : List Obj} (ds : List Nat) (h : J P GT k ⟨topL ds sl, os⟩ Q) : J P GT k ⟨sl, os⟩ Q := J_sem (SemLe.top ds sl) h
attribute [go_sem] opt_leafs optO_leafs leafsL_cond
end Go.Proofs.YtmfgaefefgnhbaaGreatDoor.Abs
