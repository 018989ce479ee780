/- Regions that draw their order, by one state for each set of steps that have been taken: where the orders are too many to be listed. -/
import Derived.Test.YtmfgaefefgnhbaaGreatDoorT2
import Derived.Test.YtmfgaefefgnhbaaGreatDoorT3
namespace Go.Proofs.YtmfgaefefgnhbaaGreatDoor.Abs
set_option linter.unusedSimpArgs false
set_option linter.unusedVariables false
open Go Go.RowKit

def upd (L : Nat → Bool) (i : Nat) : Nat → Bool := fun j => if j = i then true else L j
theorem upd_self {L : Nat → Bool} {i : Nat} : upd L i i = true := by simp [upd]
theorem upd_ne {L : Nat → Bool} {i j : Nat} (h : j ≠ i) : upd L i j = L j := by simp [upd, h]
/-- A value that is known once a step was taken; an object that is there then. -/
def opt (b : Bool) (v : AV) : AV := if b then v else .top
def optO (b : Bool) (o : Obj) : Obj := if b then o else .dead
@[simp] theorem opt_true {v : AV} : opt true v = v := rfl
@[simp] theorem opt_false {v : AV} : opt false v = .top := rfl
@[simp] theorem optO_true {o : Obj} : optO true o = o := rfl
@[simp] theorem optO_false {o : Obj} : optO false o = .dead := rfl
theorem count_setT : ∀ {l : List Bool} {i : Nat} (hi : i < l.length), l[i] = false → (l.set i true).count false + 1 = l.count false
  | b :: l, 0, _, h => by simp at h; subst h; simp
  | b :: l, i + 1, hi, h => by
    have := count_setT (l := l) (i := i) (by simpa using hi) (by simpa using h)
    simp only [List.set_cons_succ, List.count_cons]
    omega

section
variable {P : Program} {GT : Ctx} {k : List Item} {Q : Exit → St → Prop} {ops : Array Oper} {M : List Nat}

theorem DO_sem {m : Nat} {listed : Array Bool} {s s2 : St} (hle : SemLe GT s s2) (h : DO P GT M ops m listed k s2 Q) : DO P GT M ops m listed k s Q := fun B a w hs => h B a w (hle B a w hs)
theorem ready_all (hback : ∀ (i : Nat) (o : Oper), ops[i]? = some o → ∀ e ∈ o.after, e.on < i) {listed : Array Bool} (hsz : listed.size = ops.size) (hr : Region.ready .any ops listed = []) : ∀ i, i < ops.size → listed.getD i false = true := by
  intro i
  induction i using Nat.strongRecOn with
  | _ i ih =>
    intro hi
    cases hb : listed.getD i false with
    | true => rfl
    | false =>
      exfalso
      have hm : i ∈ Region.ready .any ops listed := mem_ready.2 ⟨by
        simp only [Array.getD_eq_getD_getElem?] at hb ⊢
        rw [Array.getElem?_eq_getElem (by omega)] at hb ⊢
        simpa using hb, ops[i], Array.getElem?_eq_getElem hi, fun e he _ => ih e.on (hback i _ (Array.getElem?_eq_getElem hi) e he) (by have := hback i _ (Array.getElem?_eq_getElem hi) e he; omega)⟩
      rw [hr] at hm
      cases hm
theorem DO_inv {ι : Type} (S : (Nat → Bool) → ι → St) (ok : (Nat → Bool) → ι → Prop)
    (hback : ∀ (i : Nat) (o : Oper), ops[i]? = some o → ∀ e ∈ o.after, e.on < i)
    (hstep : ∀ (L : Nat → Bool) (x : ι) (i : Nat) (o : Oper), ops[i]? = some o → L i = false → (∀ e ∈ o.after, Region.binds .any e = true → L e.on = true) → ok L x →
      StepAt P GT ops (M.contains i) (S L x) (fun s' => ∃ x', ok (upd L i) x' ∧ SemLe GT s' (S (upd L i) x')) (some o))
    (hend : ∀ (L : Nat → Bool) (x : ι), (∀ i, i < ops.size → L i = true) → ok L x → J P GT k (S L x) Q) :
    ∀ (m : Nat) (listed : Array Bool) (x : ι), listed.size = ops.size → listed.toList.count false = m → ok (fun i => listed.getD i false) x → DO P GT M ops m listed k (S (fun i => listed.getD i false) x) Q := by
  intro m
  induction m with
  | zero =>
    intro listed x hsz hc hok
    have hall : ∀ i, i < ops.size → listed.getD i false = true := fun i hi => by
      have h1 : listed[i]'(by omega) ∈ listed.toList := by simp
      have h2 : listed[i]'(by omega) ≠ false := fun h => by
        rw [h] at h1
        exact List.count_eq_zero.1 hc h1
      simp only [Array.getD_eq_getD_getElem?]
      rw [Array.getElem?_eq_getElem (by omega)]
      simpa using h2
    refine DO_done ?_ (hend _ _ hall hok)
    refine List.eq_nil_iff_forall_not_mem.2 fun i hi => ?_
    obtain ⟨h1, o, h2, _⟩ := mem_ready.1 hi
    have h3 := hall i (Array.getElem?_eq_some_iff.1 h2).1
    have h4 : i < listed.size := by have := (Array.getElem?_eq_some_iff.1 h2).1; omega
    simp only [Array.getD_eq_getD_getElem?, Array.getElem?_eq_getElem h4, Option.getD_some] at h1 h3
    rw [h1] at h3; cases h3
  | succ m ih =>
    intro listed x hsz hc hok
    by_cases hr : Region.ready .any ops listed = []
    · exact DO_done hr (hend _ _ (ready_all hback hsz hr) hok)
    · refine DO_fork hr fun i hi => ?_
      obtain ⟨h1, o, h2, h3⟩ := mem_ready.1 hi
      have hlt : i < listed.size := by have := (Array.getElem?_eq_some_iff.1 h2).1; omega
      have h4 : listed[i] = false := by simpa [Array.getD_eq_getD_getElem?, Array.getElem?_eq_getElem hlt] using h1
      have hL : (fun j => (listed.setIfInBounds i true).getD j false) = upd (fun j => listed.getD j false) i := by
        funext j
        by_cases hj : j = i
        · subst hj; simp [upd, hlt]
        · rw [upd_ne hj, getD_set_ne false (Ne.symm hj)]
      refine DS_of (K := fun s' => ∃ x', ok (upd (fun j => listed.getD j false) i) x' ∧ SemLe GT s' (S (upd (fun j => listed.getD j false) i) x')) ?_ ?_
      · rw [h2]
        exact hstep _ x i o h2 (by simp [hlt, h4]) (fun e he hb => h3 e he hb) hok
      · rintro s' ⟨x', hok', hle⟩
        refine DO_sem hle ?_
        rw [← hL] at hok' ⊢
        refine ih _ x' (by simp [hsz]) ?_ hok'
        have h5 := count_setT (l := listed.toList) (i := i) (by simpa using hlt) (by simpa using h4)
        rw [Array.toList_setIfInBounds]
        omega
/-- A region that draws its order, by one state for each set of steps. -/
theorem J_inv {ι : Type} {id : Nat} {s : St} (hm : P.follows .mixedOrders = true) (M : List Nat) (S : (Nat → Bool) → ι → St) (ok : (Nat → Bool) → ι → Prop) (x0 : ι)
    (hback : ∀ (i : Nat) (o : Oper), ops[i]? = some o → ∀ e ∈ o.after, e.on < i)
    (h0 : ok (fun _ => false) x0) (hle : SemLe GT s (S (fun _ => false) x0))
    (hstep : ∀ (L : Nat → Bool) (x : ι) (i : Nat) (o : Oper), ops[i]? = some o → L i = false → (∀ e ∈ o.after, Region.binds .any e = true → L e.on = true) → ok L x →
      StepAt P GT ops (M.contains i) (S L x) (fun s' => ∃ x', ok (upd L i) x' ∧ SemLe GT s' (S (upd L i) x')) (some o))
    (hend : ∀ (L : Nat → Bool) (x : ι), (∀ i, i < ops.size → L i = true) → ok L x → J P GT k (S L x) Q) : J P GT (.code (.region id ops true) :: k) s Q := by
  refine J_drawn (M := M) hm (DO_sem hle ?_)
  have e : (fun i => (Array.replicate ops.size false).getD i false) = fun _ : Nat => false := by
    funext i
    simp only [Array.getD_eq_getD_getElem?, Array.getElem?_replicate]
    split <;> rfl
  rw [← e]
  exact DO_inv S ok hback hstep hend _ _ x0 (by simp) (by simp) (by rw [e]; exact h0)
end
end Go.Proofs.YtmfgaefefgnhbaaGreatDoor.Abs
