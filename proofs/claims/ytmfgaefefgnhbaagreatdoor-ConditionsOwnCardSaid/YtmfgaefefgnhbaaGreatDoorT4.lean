/- The runner of the abstract machine, and the contract of a function out of its body. The runner's equations, for simp. -/
import Derived.Test.YtmfgaefefgnhbaaGreatDoorT2
namespace Go.Proofs.YtmfgaefefgnhbaaGreatDoor.Abs
set_option linter.unusedSimpArgs false
set_option linter.unusedVariables false
open Go Go.RowKit

/-- What the runner stands at. -/
inductive Job where
  | code (k : List Item)
  | ops (all : Array Oper) (i : Nat) (rest : List Oper) (k : List Item)
  | plan (all : Array Oper) (M : List Nat) (pl : Plan) (k : List Item)

def Job.sem (P : Program) (GT : Ctx) (s : St) (Q : Exit → St → Prop) : Job → Prop
  | .code k => J P GT k s Q
  | .ops all i rest k => all.toList.drop i = rest → RO P GT all (List.range' i (all.size - i)) k s Q
  | .plan all M pl k => Region.noSelect all = true → ∀ (top : Bool) (m : Nat) (listed : Array Bool), Plan.ok M all top m listed pl = true → if top then DO P GT M all m listed k s Q else ∀ i ∈ pl.heads, DS P GT M all (m - 1) listed k s Q i

/-- Whether an operation has a guard. -/
def hasGuard : List Oper → Bool
  | [] => false
  | o :: l => o.guard.isSome || hasGuard l
/-- The runner. -/
def W (P : Program) (GT : Ctx) (Q : Exit → St → Prop) : Nat → Job → St → Prop
  | 0, j, s => j.sem P GT s Q
  | n + 1, .code k, s => match k with
    | [] => Q .normal s
    | .inBlock _ :: k => W P GT Q n (.code k) s
    | .code c :: k => match c with
      | .skip => W P GT Q n (.code k) s
      | .label _ => W P GT Q n (.code k) s
      | .seq a b => W P GT Q n (.code (.code a :: .code b :: k)) s
      | .block id c => W P GT Q n (.code (.code c :: .inBlock id :: k)) s
      | .cond c a b => match ev GT s c with
        | .raw (.bool t) => (t = true → W P GT Q n (.code (.code a :: k)) (s.know c true)) ∧ (t = false → W P GT Q n (.code (.code b :: k)) (s.know c false))
        | _ => False
      | .region id ops false => if hasGuard ops.toList then J P GT (.code (.region id ops false) :: k) s Q else W P GT Q n (.ops ops 0 ops.toList k) s
      | .ret => Q .ret s
      | .exit id => match exitTo id k with
        | some k' => W P GT Q n (.code k') s
        | none => Q (.exit id) s
      | c => J P GT (.code c :: k) s Q
    | k => J P GT k s Q
  | n + 1, .ops all i rest k, s => match rest with
    | [] => W P GT Q n (.code k) s
    | o :: rest => match o.guard with
      | none => Exec P GT true s o (W P GT Q n (.ops all (i + 1) rest k))
      | some (j, want) => match guardSlot all j with
        | some t => match s.slots.getD t .top with
          | .raw (.bool b) => (b = want → Exec P GT true (s.know (.tmp t) want) o (W P GT Q n (.ops all (i + 1) rest k))) ∧ (b = (!want) → W P GT Q n (.ops all (i + 1) rest k) ((s.know (.tmp t) (!want)).put o.dst (.raw undef)))
          | .raw (.tuple _) => W P GT Q n (.ops all (i + 1) rest k) (s.put o.dst (.raw undef))
          | _ => False
        | none => False
  | n + 1, .plan all M pl k, s => match pl with
    | .done => W P GT Q n (.code k) s
    | .take i p => StepAt P GT all (M.contains i) s (W P GT Q n (.plan all M p k)) all[i]?
    | .fork i p r => StepAt P GT all (M.contains i) s (W P GT Q n (.plan all M p k)) all[i]? ∧ W P GT Q n (.plan all M r k) s
    | .none => True

section
variable {P : Program} {GT : Ctx} {s : St} {k : List Item} {Q : Exit → St → Prop}

theorem Exec_RO {all : Array Oper} {i : Nat} {l : List Nat} {o : Oper} {K : St → Prop} (ho : all[i]? = some o) (hg : o.guard = none) (h : Exec P GT true s o K) (hk : ∀ s', K s' → RO P GT all l k s' Q) : RO P GT all (i :: l) k s Q := by
  intro B a w hs
  refine wpOps_cons ho ?_
  rw [if_pos (by simp [Region.wanted, hg])]
  exact Exec_wp h hs fun s' a' w' hK _ hs' => hk s' hK B a' w' hs'

theorem Exec_take {all : Array Oper} {i j t : Nat} {l : List Nat} {o : Oper} {want : Bool} {K : St → Prop} (ho : all[i]? = some o) (hg : o.guard = some (j, want)) (hj : guardSlot all j = some t) (hb : s.slots[t]? = some (.raw (.bool want)))
    (h : Exec P GT true s o K) (hk : ∀ s', K s' → RO P GT all l k s' Q) : RO P GT all (i :: l) k s Q := by
  intro B a w hs
  refine wpOps_cons ho ?_
  have hy := yielded_of hs hj hb
  rw [if_pos (by simp [Region.wanted, hg, hy])]
  exact Exec_wp h hs fun s' a' w' hK _ hs' => hk s' hK B a' w' hs'

theorem drop_cons {all : Array Oper} {i : Nat} {o : Oper} {rest : List Oper} (h : all.toList.drop i = o :: rest) : all[i]? = some o ∧ all.toList.drop (i + 1) = rest ∧ List.range' i (all.size - i) = i :: List.range' (i + 1) (all.size - (i + 1)) := by
  have h1 : all.toList[i]? = some o := by
    have := congrArg (·[0]?) h
    simpa [List.getElem?_drop] using this
  have hlt : i < all.size := by have := (List.getElem?_eq_some_iff.1 h1).1; simpa using this
  refine ⟨by rw [← Array.getElem?_toList]; exact h1, ?_, ?_⟩
  · have := congrArg List.tail h
    rw [List.tail_drop] at this
    exact this
  · rw [show all.size - i = (all.size - (i + 1)) + 1 by omega, List.range'_succ]

theorem W_sound : ∀ (n : Nat) (j : Job) (s : St), W P GT Q n j s → j.sem P GT s Q
  | 0, j, s, h => by simpa [W] using h
  | n + 1, .code k, s, h => by
    have ih := W_sound n
    show J P GT k s Q
    unfold W at h
    split at h
    · exact J_nil h
    · exact J_inBlock (ih (.code _) s h)
    · rename_i c k
      split at h
      · exact J_skip (ih (.code _) s h)
      · exact J_label (ih (.code _) s h)
      · exact J_seq (ih (.code _) s h)
      · exact J_block (ih (.code _) s h)
      · rename_i c a b
        split at h
        · rename_i t hc
          cases t
          · exact J_cond hc (ih (.code _) _ (h.2 rfl))
          · exact J_cond hc (ih (.code _) _ (h.1 rfl))
        · exact h.elim
      · rename_i id ops
        split at h
        · exact h
        · have := ih (.ops ops 0 ops.toList k) s h
          refine J_region ?_
          have h2 := this (by simp)
          simpa [List.range_eq_range'] using h2
      · exact J_ret h
      · rename_i id
        split at h
        · rename_i k' hk
          exact J_exit hk (ih (.code _) s h)
        · rename_i hk
          exact J_exitOut hk h
      · exact h
    · exact h
  | n + 1, .ops all i rest k, s, h => by
    have ih := W_sound n
    have ihk : ∀ (i : Nat) (rest : List Oper) (s' : St), all.toList.drop i = rest → W P GT Q n (.ops all i rest k) s' → RO P GT all (List.range' i (all.size - i)) k s' Q := by
      intro i rest s' hd hw
      exact ih (.ops all i rest k) s' hw hd
    intro hd
    unfold W at h
    split at h
    · have hi : all.size ≤ i := by
        have := congrArg List.length hd
        simp at this
        omega
      rw [show all.size - i = 0 by omega]
      exact RO_nil (ih (.code _) s h)
    · rename_i o rest
      obtain ⟨ho, hd', hr⟩ := drop_cons hd
      rw [hr]
      split at h
      · rename_i hg
        exact Exec_RO ho hg h fun s' hk => ihk _ _ s' hd' hk
      · rename_i j want hg
        split at h
        · rename_i t hj
          split at h
          · rename_i b hb
            have hlt : t < s.slots.length := by
              rcases Nat.lt_or_ge t s.slots.length with h | h
              · exact h
              · rw [List.getD_eq_getElem?_getD, List.getElem?_eq_none h] at hb; cases hb
            have hb' : s.slots[t]? = some (.raw (.bool b)) := by
              rw [List.getD_eq_getElem?_getD, List.getElem?_eq_getElem hlt] at hb
              rw [List.getElem?_eq_getElem hlt]
              exact congrArg some hb
            refine RO_know hb' ?_
            have hk' : (s.know (.tmp t) b).slots[t]? = some (.raw (.bool b)) := by simp [St.know, hlt]
            by_cases hbw : b = want
            · subst hbw
              exact Exec_take ho hg hj hk' (h.1 rfl) fun s' hk => ihk _ _ s' hd' hk
            · have hbn : b = !want := by cases b <;> cases want <;> simp_all
              have := h.2 hbn
              rw [← hbn] at this
              exact RO_pass ho hg hj hk' hbn (ih (.ops all (i + 1) rest k) _ this hd')
          · rename_i vs hb
            exact RO_undef ho hg hj hb (ih (.ops all (i + 1) rest k) _ h hd')
          · exact h.elim
        · exact h.elim

  | n + 1, .plan all M pl k, s, h => by
    have ih := W_sound n
    intro hsel top m listed hok
    unfold W at h
    cases pl with
    | done =>
      have hk := ih (.code k) s h
      cases m <;> (simp only [Plan.ok, Bool.and_eq_true] at hok; obtain ⟨rfl, hr⟩ := hok; exact DO_done (by simpa using hr) hk)
    | take i p =>
      cases m with
      | zero => simp [Plan.ok] at hok
      | succ m =>
        simp only [Plan.ok, Bool.and_eq_true] at hok
        obtain ⟨⟨⟨⟨rfl, h1⟩, h2⟩, h3⟩, h4⟩ := hok
        refine DO_take hsel h2 h1 h3 h fun s' hs' => ?_
        have := ih (.plan all M p k) s' hs' hsel true m _ h4
        simpa using this
    | fork i p r =>
      cases m with
      | zero => simp [Plan.ok] at hok
      | succ m =>
        simp only [Plan.ok, Bool.and_eq_true] at hok
        obtain ⟨⟨⟨h1, h2⟩, h3⟩, h4⟩ := hok
        have hi : DS P GT M all m listed k s Q i := DS_of h.1 fun s' hs' => by
          have := ih (.plan all M p k) s' hs' hsel true m _ h3
          simpa using this
        have hr : ∀ j ∈ r.heads, DS P GT M all m listed k s Q j := by
          have := ih (.plan all M r k) s h.2 hsel false (m + 1) listed h4
          simpa using this
        have hall : ∀ j ∈ (Plan.fork i p r).heads, DS P GT M all m listed k s Q j := by
          intro j hj
          rcases List.mem_cons.1 hj with rfl | hj
          · exact hi
          · exact hr j hj
        cases top with
        | false => simpa using hall
        | true =>
          simp only [Bool.not_true, Bool.false_or, Bool.and_eq_true, List.all_eq_true] at h1
          refine DO_fork (by simpa using h1.1) fun j hj => hall j ?_
          simpa using h1.2 j hj
    | none => cases m <;> (simp only [Plan.ok, Bool.not_eq_true'] at hok; subst hok; simp [Plan.heads])

/-- A region that draws its order, by a plan. -/
theorem J_draw (n : Nat) {id : Nat} {all : Array Oper} (M : List Nat) (pl : Plan) (hm : P.follows .mixedOrders = true) (hsel : (Region.noSelect all && Plan.ok M all true all.size (Array.replicate all.size false) pl) = true) (h : W P GT Q n (.plan all M pl k) s) : J P GT (.code (.region id all true) :: k) s Q := by
  rw [Bool.and_eq_true] at hsel
  refine J_drawn (M := M) hm ?_
  have := W_sound n (.plan all M pl k) s h hsel.1 true _ _ hsel.2
  simpa using this

/-- A region whose operations have guards. -/
theorem J_reg (n : Nat) {id : Nat} {l : List Oper} (h : W P GT Q n (.ops l.toArray 0 l k) s) : J P GT (.code (.region id l.toArray false) :: k) s Q := by
  have := W_sound n (.ops l.toArray 0 l k) s h
  refine J_region ?_
  have h2 := this (by simp)
  simpa [List.range_eq_range'] using h2

theorem J_run (n : Nat) (h : W P GT Q n (.code k) s) : J P GT k s Q := W_sound n (.code k) s h

/-- Behind a call that took nothing over. -/
def St.adopt (s : St) (os : List Obj) : St := { slots := s.slots, objs := s.objs ++ os.map (Obj.leafs (AV.ren fun j => some (s.objs.length + j))) }
def AV.shift (n : Nat) (x : AV) : AV := x.leafs (AV.ren fun j => some (n + j))

theorem ren_some (x : AV) : AV.ren some x = x := by cases x <;> rfl
theorem ren_of {g : Nat → Option Nat} (hg : ∀ i, g i = some i) (x : AV) : AV.ren g x = x := by
  have : g = some := funext hg
  rw [this, ren_some]
theorem back_nil (os : List Obj) : s.back [] os = s.adopt os := by
  have h1 : backName [] s.objs.length = fun j => some (s.objs.length + j) := by funext j; simp [backName]
  have h2 : ∀ i, leftName [] os i = some i := fun i => by simp [leftName, idxIn]
  simp only [St.back, St.adopt, h1]
  rw [AV.leafsL_self _ fun x _ => ren_of h2 x]
  congr 1
  simp only [idxIn, List.length_nil, List.drop_zero]
  congr 1
  apply List.ext_getElem?
  intro i
  rw [List.getElem?_mapIdx]
  cases s.objs[i]? with
  | none => rfl
  | some o => simp [Obj.leafs_self _ fun x _ => ren_of h2 x]

/-- A call whose arguments name no object. -/
theorem CallA.pure {m : Bool} {f : FuncId} {args : List AV} {d : Option Tmp} {K : St → Prop} {R : AV → List Obj → Prop} (h : Holds P GT.tab f args [] R) (himm : AV.immL args = true)
    (hk : ∀ r os, R r os → K ((s.adopt os).put d (r.shift s.objs.length))) : CallA P GT m s f args d K := by
  have h1 : args.map (AV.leafs (frzF s [])) = args := by
    rw [← AV.leafsL_eq]; exact AV.leafsL_imm _ _ himm
  have h2 : backName [] s.objs.length = fun j => some (s.objs.length + j) := by funext j; simp [backName]
  refine ⟨[], [], [], R, .inr rfl, rfl, rfl, ?_, fun r os hR => ⟨.inl rfl, _, .refl _ _, ?_⟩⟩
  · have h3 : (args.map fun x => (x.leafs (frzF (s.frz []) [])).leafs (AV.ren (idxIn []))) = args := by
      have : (fun x : AV => (x.leafs (frzF (s.frz []) [])).leafs (AV.ren (idxIn []))) = (AV.leafs (AV.ren (idxIn []))) ∘ (AV.leafs (frzF (s.frz []) [])) := rfl
      rw [this, ← List.map_map, ← AV.leafsL_eq, ← AV.leafsL_eq, AV.leafsL_imm _ _ himm, AV.leafsL_imm _ _ himm]
    rw [h1, h3]
    exact h
  · rw [St.frz_nil, back_nil, h2]
    exact hk r os hR

/-- A call that gets what the caller may write (F) until it returns; nothing that comes back hangs on it. -/
theorem CallA.keep {m : Bool} {f : FuncId} {args args' : List AV} {d : Option Tmp} {K : St → Prop} {R : AV → List Obj → Prop} (F : List Nat) (ha : AV.leafsL (frzF s F) args = args') (himm : AV.immL args' = true) (h : Holds P GT.tab f args' [] R)
    (hk : ∀ r os, R r os → flatRes r os ∧ K ((s.adopt os).put d (r.shift s.objs.length))) : CallA P GT m s f args d K := by
  have h1 : args.map (AV.leafs (frzF s [])) = args := by
    rw [← AV.leafsL_eq]; exact AV.leafsL_self _ (frzF_nil s) _
  have h2 : backName [] s.objs.length = fun j => some (s.objs.length + j) := by funext j; simp [backName]
  refine ⟨[], [], F, R, .inr rfl, rfl, rfl, ?_, fun r os hR => ⟨.inr (hk r os hR).1, _, .refl _ _, ?_⟩⟩
  · have h3 : (args.map fun x => (x.leafs (frzF (s.frz []) F)).leafs (AV.ren (idxIn []))) = args' := by
      have : (fun x : AV => (x.leafs (frzF (s.frz []) F)).leafs (AV.ren (idxIn []))) = (AV.leafs (AV.ren (idxIn []))) ∘ (AV.leafs (frzF (s.frz []) F)) := rfl
      rw [this, ← List.map_map, ← AV.leafsL_eq, ← AV.leafsL_eq, St.frz_nil, ha, AV.leafsL_imm _ _ himm]
    rw [h1, h3]
    exact h
  · rw [St.frz_nil, back_nil, h2]
    exact (hk r os hR).2

/-- A call that gets for good what the caller might have written (F). -/
theorem CallA.give {m : Bool} {f : FuncId} {args args' : List AV} {d : Option Tmp} {K : St → Prop} {R : AV → List Obj → Prop} (F : List Nat) (ha : AV.leafsL (frzF s F) args = args') (himm : AV.immL args' = true) (h : Holds P GT.tab f args' [] R)
    (hk : ∀ r os, R r os → K (((s.frz F).adopt os).put d (r.shift (s.frz F).objs.length))) : CallA P GT m s f args d K := by
  have h2 : backName [] (s.frz F).objs.length = fun j => some ((s.frz F).objs.length + j) := by funext j; simp [backName]
  refine ⟨F, [], [], R, .inr rfl, rfl, rfl, ?_, fun r os hR => ⟨.inl rfl, _, .refl _ _, ?_⟩⟩
  · have h3 : ((args.map (AV.leafs (frzF s F))).map fun x => (x.leafs (frzF (s.frz F) [])).leafs (AV.ren (idxIn []))) = args' := by
      have : (fun x : AV => (x.leafs (frzF (s.frz F) [])).leafs (AV.ren (idxIn []))) = (AV.leafs (AV.ren (idxIn []))) ∘ (AV.leafs (frzF (s.frz F) [])) := rfl
      rw [this, ← List.map_map, ← AV.leafsL_eq, ← AV.leafsL_eq, ← AV.leafsL_eq, ha, AV.leafsL_imm _ _ himm, AV.leafsL_imm _ _ himm]
    rw [h3]
    exact h
  · rw [back_nil, h2]
    exact hk r os hR

/-- A call that may write the objects of T. -/
theorem CallA.mut {f : FuncId} {args args' : List AV} {objs' : List Obj} {d : Option Tmp} {K : St → Prop} {R : AV → List Obj → Prop} (T : List Nat) (hnd : nodupB T = true) (hl : (T.all fun i => !(s.obj i).isDead) = true)
    (ha : AV.leafsL (AV.ren (idxIn T)) args = args') (ho : (T.map fun i => (s.obj i).leafs (AV.ren (idxIn T))) = objs') (h : Holds P GT.tab f args' objs' R)
    (hk : ∀ r os, R r os → K ((s.back T os).put d (r.leafs (AV.ren (backName T s.objs.length))))) : CallA P GT true s f args d K := by
  have h1 : args.map (AV.leafs (frzF s [])) = args := by
    rw [← AV.leafsL_eq]; exact AV.leafsL_self _ (frzF_nil s) _
  refine ⟨[], T, [], R, .inl rfl, hnd, ?_, ?_, fun r os hR => ⟨.inl rfl, _, .refl _ _, ?_⟩⟩
  · rw [St.frz_nil]
    simpa using hl
  · have h3 : (args.map fun x => (x.leafs (frzF (s.frz []) [])).leafs (AV.ren (idxIn T))) = args' := by
      have : (fun x : AV => (x.leafs (frzF (s.frz []) [])).leafs (AV.ren (idxIn T))) = (AV.leafs (AV.ren (idxIn T))) ∘ (AV.leafs (frzF (s.frz []) [])) := rfl
      rw [this, ← List.map_map, ← AV.leafsL_eq, ← AV.leafsL_eq, AV.leafsL_self _ (frzF_nil _), ha]
    have h4 : (T.map fun i => (((s.frz []).obj i).leafs (frzF (s.frz []) [])).leafs (AV.ren (idxIn T))) = objs' := by
      rw [← ho]
      apply List.map_congr_left
      intro i _
      rw [St.frz_nil, Obj.leafs_self _ (frzF_nil _)]
    rw [h1, h3, h4]
    exact h
  · rw [St.frz_nil]
    exact hk r os hR

/-- The same; less is said of the state behind it. -/
theorem CallA.mutLe {f : FuncId} {args args' : List AV} {objs' : List Obj} {d : Option Tmp} {K : St → Prop} {R : AV → List Obj → Prop} (T : List Nat) (hnd : nodupB T = true) (hl : (T.all fun i => !(s.obj i).isDead) = true)
    (ha : AV.leafsL (AV.ren (idxIn T)) args = args') (ho : (T.map fun i => (s.obj i).leafs (AV.ren (idxIn T))) = objs') (h : Holds P GT.tab f args' objs' R)
    (hk : ∀ r os, R r os → ∃ s2, SemLe GT ((s.back T os).put d (r.leafs (AV.ren (backName T s.objs.length)))) s2 ∧ K s2) : CallA P GT true s f args d K := by
  have h1 : args.map (AV.leafs (frzF s [])) = args := by
    rw [← AV.leafsL_eq]; exact AV.leafsL_self _ (frzF_nil s) _
  refine ⟨[], T, [], R, .inl rfl, hnd, ?_, ?_, fun r os hR => ⟨.inl rfl, ?_⟩⟩
  · rw [St.frz_nil]
    simpa using hl
  · have h3 : (args.map fun x => (x.leafs (frzF (s.frz []) [])).leafs (AV.ren (idxIn T))) = args' := by
      have : (fun x : AV => (x.leafs (frzF (s.frz []) [])).leafs (AV.ren (idxIn T))) = (AV.leafs (AV.ren (idxIn T))) ∘ (AV.leafs (frzF (s.frz []) [])) := rfl
      rw [this, ← List.map_map, ← AV.leafsL_eq, ← AV.leafsL_eq, AV.leafsL_self _ (frzF_nil _), ha]
    have h4 : (T.map fun i => (((s.frz []).obj i).leafs (frzF (s.frz []) [])).leafs (AV.ren (idxIn T))) = objs' := by
      rw [← ho]
      apply List.map_congr_left
      intro i _
      rw [St.frz_nil, Obj.leafs_self _ (frzF_nil _)]
    rw [h1, h3, h4]
    exact h
  · rw [St.frz_nil]
    exact hk r os hR

/-- The same, and what the caller may write besides (F) is read until the call returns. -/
theorem CallA.mutKeep {f : FuncId} {args args' : List AV} {objs' : List Obj} {d : Option Tmp} {K : St → Prop} {R : AV → List Obj → Prop} (T F : List Nat) (hnd : nodupB T = true) (hl : (T.all fun i => !(s.obj i).isDead && !F.contains i) = true)
    (ha : AV.leafsL (AV.ren (idxIn T)) (AV.leafsL (frzF s F) args) = args') (ho : (T.map fun i => ((s.obj i).leafs (frzF s F)).leafs (AV.ren (idxIn T))) = objs') (h : Holds P GT.tab f args' objs' R)
    (hk : ∀ r os, R r os → flatRes r os ∧ K ((s.back T os).put d (r.leafs (AV.ren (backName T s.objs.length))))) : CallA P GT true s f args d K := by
  have h1 : args.map (AV.leafs (frzF s [])) = args := by
    rw [← AV.leafsL_eq]; exact AV.leafsL_self _ (frzF_nil s) _
  refine ⟨[], T, F, R, .inl rfl, hnd, ?_, ?_, fun r os hR => ⟨.inr (hk r os hR).1, _, .refl _ _, ?_⟩⟩
  · rw [St.frz_nil]
    exact hl
  · have h3 : (args.map fun x => (x.leafs (frzF (s.frz []) F)).leafs (AV.ren (idxIn T))) = args' := by
      have : (fun x : AV => (x.leafs (frzF (s.frz []) F)).leafs (AV.ren (idxIn T))) = (AV.leafs (AV.ren (idxIn T))) ∘ (AV.leafs (frzF (s.frz []) F)) := rfl
      rw [this, ← List.map_map, ← AV.leafsL_eq, ← AV.leafsL_eq, St.frz_nil, ha]
    have h4 : (T.map fun i => (((s.frz []).obj i).leafs (frzF (s.frz []) F)).leafs (AV.ren (idxIn T))) = objs' := by
      rw [← ho, St.frz_nil]
    rw [h1, h3, h4]
    exact h
  · rw [St.frz_nil]
    exact (hk r os hR).2

/-- What a function hands back. -/
def resVar (P : Program) (s : St) : ResultVar → Option AV
  | .tmp t => some (s.slots.getD t .top)
  | .cell t T => match td P T, memAt s (s.slots.getD t .top) with
    | some d, some L => loadFrom d L
    | _, _ => none
def resVars (P : Program) (s : St) : List ResultVar → Option (List AV)
  | [] => some []
  | v :: vs => match resVar P s v, resVars P s vs with
    | some x, some xs => some (x :: xs)
    | _, _ => none
def resOf (P : Program) (s : St) (l : List ResultVar) : Option AV :=
  match resVars P s l with
  | some [x] => some x
  | some xs => some (.tup xs)
  | none => none

/- The names in a value but those that a function keeps. -/
mutual
def AV.plain : AV → List Nat
  | .agg cs => AV.plainL cs
  | .tup cs => AV.plainL cs
  | .clo _ _ _ => []
  | .own i _ _ _ => [i]
  | .ref i _ => [i]
  | .eref i _ _ _ => [i]
  | .mref i => [i]
  | .top => []
  | .raw _ => []
  | .lst _ _ => []
  | .cptr _ => []
def AV.plainL : List AV → List Nat
  | [] => []
  | a :: as => AV.plain a ++ AV.plainL as
end
def dedupB : List Nat → List Nat
  | [] => []
  | a :: l => if l.contains a then dedupB l else a :: dedupB l
def boxNames : List Obj → List Nat
  | [] => []
  | .box cs :: l => AV.namesL cs ++ boxNames l
  | _ :: l => boxNames l
/-- The objects that are handed back: those that were given, then those that can be reached from the result. -/
def finK (m : Nat) (s : St) (r0 : AV) : List Nat := List.range m ++ (dedupB (s.reach 3 (r0.plain ++ boxNames ((List.range m).map s.obj)))).filter fun i => !decide (i < m)
/-- What is handed back for good: what hangs on the result besides. -/
def finF (K : List Nat) (s : St) (r0 : AV) : List Nat := (s.reach 3 (r0.names ++ boxNames (K.map s.obj))).filter fun i => !K.contains i
/-- What is left of the result: which objects go with it. -/
def finish (m : Nat) (s : St) (r0 : AV) : Option (AV × List Obj) :=
  let K := finK m s r0
  let F := finF K s r0
  if nodupB K then some ((r0.leafs (frzF s F)).leafs (AV.ren (idxIn K)), K.map fun i => ((s.obj i).leafs (frzF s F)).leafs (AV.ren (idxIn K))) else none

theorem SemLe.trans {GT : Ctx} {s1 s2 s3 : St} (h : SemLe GT s1 s2) (h' : SemLe GT s2 s3) : SemLe GT s1 s3 := fun B a w hs => h' B a w (h B a w hs)
theorem SemLe.frz (GT : Ctx) (s : St) (T : List Nat) : SemLe GT s (s.frz T) := fun _ _ _ h => h.frz T
theorem J_sem {s' : St} (hle : SemLe GT s s') (h : J P GT k s' Q) : J P GT k s Q := fun B a w hs => h B a w (hle B a w hs)

theorem SemLe.move (GT : Ctx) (s : St) {id : Nat} (hid : id < s.objs.length) : SemLe GT s (s.move id) := fun B a w hs => by
  obtain ⟨p, I, hsim, h1, h2, h3⟩ := hs
  refine ⟨_, I, (hsim.move hid).1, h1, h2, fun i hi => ?_⟩
  have := hsim.given
  rw [Place.with_other _ _ (by omega)]
  by_cases hi' : i = id
  · subst hi'; exact .inr (Place.with_same _ _ _)
  · rw [Place.with_other _ _ hi']; exact h3 i hi

/- A nil slice in a value gets a name: the value with it, where it stands in the t-th slot. -/
mutual
/-- Values that say of a nil slice that it is the array n. -/
inductive NilRep (n : Nat) : AV → AV → Prop
  | same (x : AV) : NilRep n x x
  | nil (k : Nat) : NilRep n (.raw (.slice none 0 0)) (.own n k 0 0)
  | agg {xs ys : List AV} (h : NilReps n xs ys) : NilRep n (.agg xs) (.agg ys)
  | tup {xs ys : List AV} (h : NilReps n xs ys) : NilRep n (.tup xs) (.tup ys)
inductive NilReps (n : Nat) : List AV → List AV → Prop
  | nil : NilReps n [] []
  | cons {x y : AV} {xs ys : List AV} (h : NilRep n x y) (h' : NilReps n xs ys) : NilReps n (x :: xs) (y :: ys)
end
theorem NilReps.get {n : Nat} : ∀ {xs ys : List AV}, NilReps n xs ys → xs.length = ys.length ∧ ∀ (i : Nat) (y : AV), ys[i]? = some y → ∃ x, xs[i]? = some x ∧ NilRep n x y
  | [], _, h => by cases h; exact ⟨rfl, fun i y h => by simp at h⟩
  | x :: xs, _, h => by
    cases h with
    | cons h h' =>
      obtain ⟨h1, h2⟩ := h'.get
      refine ⟨by simp [h1], fun i z e => ?_⟩
      cases i with
      | zero => simp at e; subst e; exact ⟨x, rfl, h⟩
      | succ i => simpa using h2 i z (by simpa using e)

theorem NilRep.conc {n : Nat} {I : Nat → Prop} {w : World} {p p' : Place} {v : Value} {x y : AV} (h : Conc I w p v x) (hn : ∃ r, p' n = some r ∧ r.nul = true) (hp : ∀ i r, p i = some r → p' i = some r) (hr : NilRep n x y) : Conc I w p' v y := by
  obtain ⟨r, hn1, hn2⟩ := hn
  induction h generalizing y with
  | @agg _ cs as hl h1 h ih =>
    cases hr with
    | same => exact (Conc.agg hl h1 h).mono (fun _ _ => rfl) (fun _ h => h) hp
    | agg hr =>
      obtain ⟨g1, g2⟩ := hr.get
      refine .agg (by rw [← g1, hl]) h1 fun i v y e e' => ?_
      obtain ⟨x, hx, hxy⟩ := g2 i y e'
      exact ih i v x e hx hp hxy
  | @tup _ cs as hl h ih =>
    cases hr with
    | same => exact (Conc.tup hl h).mono (fun _ _ => rfl) (fun _ h => h) hp
    | tup hr =>
      obtain ⟨g1, g2⟩ := hr.get
      refine .tup (by rw [← g1, hl]) fun i v y e e' => ?_
      obtain ⟨x, hx, hxy⟩ := g2 i y e'
      exact ih i v x e hx hp hxy
  | raw =>
    cases hr with
    | same => exact .raw
    | nil k => exact .own (Nat.le_refl _) (by simp [maxLen]) hn1 (.inl ⟨hn2, rfl⟩)
  | top => cases hr; exact .top
  | lst hn hc hm hk hx h1 h _ => cases hr; exact (Conc.lst hn hc hm hk hx h1 h)
  | cptr hb hx h1 h _ => cases hr; exact (Conc.cptr hb hx h1 h)
  | own hn hm h1 h2 => cases hr; exact (Conc.own hn hm h1 h2).mono (fun _ _ => rfl) (fun _ h => h) hp
  | ref h1 h2 => cases hr; exact (Conc.ref h1 h2).mono (fun _ _ => rfl) (fun _ h => h) hp
  | eref h1 h2 => cases hr; exact (Conc.eref h1 h2).mono (fun _ _ => rfl) (fun _ h => h) hp
  | mref h1 h2 => cases hr; exact (Conc.mref h1 h2).mono (fun _ _ => rfl) (fun _ h => h) hp
  | clo hl hl' h h' _ _ => cases hr; exact (Conc.clo hl hl' h h').mono (fun _ _ => rfl) (fun _ h => h) hp

/-- A nil slice gets a name. -/
theorem SemLe.nil (GT : Ctx) (s : St) (k : Nat) {slots' : List AV} (h : NilReps s.objs.length s.slots slots') : SemLe GT s ⟨slots', s.objs ++ [.arr k []]⟩ := fun B a w hs => by
  obtain ⟨p, I, hsim, h1, h2, h3⟩ := hs
  have hn := hsim.newNil k ⟨0, 0, 0, 0, true⟩ rfl
  obtain ⟨g1, g2⟩ := h.get
  refine ⟨_, I, ⟨by rw [hsim.size, g1], fun i v y e e' => ?_, hn.defers, hn.obj, hn.inj, hn.own, hn.imm, hn.frame, hn.glob, hn.given⟩, h1, h2, fun i hi => ?_⟩
  · obtain ⟨x, hx, hxy⟩ := g2 i y e'
    exact NilRep.conc (hsim.slot i v x e hx) ⟨_, Place.with_same _ _ _, rfl⟩ (Place.fresh (hsim.unplaced (Nat.le_refl _))) hxy
  · have := hsim.given
    rw [Place.with_other _ _ (by omega)]
    exact h3 i hi

/-- Of an array a part is left. -/
def St.cut (s : St) (id lo n : Nat) : St := match s.obj id with
  | .arr k xs => s.relay id (.arr k ((xs.drop lo).take n))
  | _ => s
theorem SemLe.cut (GT : Ctx) (s : St) {t id k lo n : Nat} {xs : List (List AV)} (hg : ¬ id < GT.given) (hob : s.obj id = .arr k xs) (ht : s.slots.getD t .top = .own id k lo n) (hn : lo + n ≤ xs.length) :
    SemLe GT s { s.relay id (.arr k ((xs.drop lo).take n)) with slots := (s.relay id (.arr k ((xs.drop lo).take n))).slots.set t (.own id k 0 n) } := fun B a w hs => by
  obtain ⟨p, I, hsim, h1, h2, h3⟩ := hs
  have hid : id < s.objs.length := obj_lt (by rw [hob]; simp)
  have ho := hsim.obj id
  rw [hob] at ho
  have hlt : t < s.slots.length := by
    rcases Nat.lt_or_ge t s.slots.length with h | h
    · exact h
    · rw [List.getD_eq_getElem?_getD, List.getElem?_eq_none h] at ht; cases ht
  have hslot : s.slots[t]? = some (.own id k lo n) := by
    rw [List.getD_eq_getElem?_getD, List.getElem?_eq_getElem hlt] at ht
    rw [List.getElem?_eq_getElem hlt]
    exact congrArg some ht
  have hlt' : t < a.tmps.size := by rw [hsim.size]; exact hlt
  have hc := hsim.slot t _ _ (Array.getElem?_eq_getElem hlt') hslot
  generalize hv : a.tmps[t] = v at hc
  have hyl : ((xs.drop lo).take n).length = n := by simp; omega
  obtain ⟨r, hr, ho⟩ := ho
  have main : ∃ ro : Real, Sim GT B.w0 B.G (p.with id (some ro)) I (s.relay id (.arr k ((xs.drop lo).take n))) a w ∧ Conc I w (p.with id (some ro)) v (.own id k 0 n) := by
    cases hc with
    | @own _ _ _ _ _ A c r' hnc hm hr' hown =>
      obtain rfl : r = r' := Option.some.inj (hr.symm.trans hr')
      rcases ho with ⟨hnl, hx⟩ | ⟨hnl, cs, E, hh, hl, hm', hsz, hk, hcv⟩
      · subst hx
        have hn0 : n = 0 := by simp at hn; omega
        subst hn0
        refine ⟨r, hsim.relay hid (some r) _ (Nat.le_refl _) (fun _ _ _ => rfl) rfl rfl rfl (fun r' h hl => ?_) ⟨r, Place.with_same _ _ _, .inl ⟨hnl, by simp⟩⟩, .own hnc hm (Place.with_same _ _ _) (hown.elim (fun h => .inl h) fun h => by rw [hnl] at h; cases h.1)⟩
        injection h with h
        rw [← h, hnl] at hl; cases hl
      · obtain ⟨_, hA, hcap, hlen⟩ := hown.resolve_left fun h => by rw [hnl] at h; cases h.1
        have hown := hsim.own id r hr hnl
        refine ⟨⟨r.blk, r.base + lo * k, r.cap - lo, n, false⟩, hsim.relay hid _ _ (Nat.le_refl _) (fun _ _ _ => rfl) rfl rfl rfl ?_ ?_, .own hnc hm (Place.with_same _ _ _) (.inr ⟨rfl, by rcases hA with hA | hA; exact .inl hA; exact .inr (by rw [hA]; simp), by simp; omega, by simp⟩)⟩
        · intro r' h _
          injection h with h
          subst h
          exact ⟨hown.1, hown.2.1, hown.2.2, fun j r2 hj hr2 hl2 e => hj (hsim.inj _ _ _ _ hr2 hr hl2 hnl e)⟩
        · refine ⟨_, Place.with_same _ _ _, .inr ⟨rfl, cs, E, hh, ⟨by rw [hyl]; simp only; omega, hyl⟩, by simp; omega, ?_, fun x hx => hk x (List.mem_of_mem_drop (List.mem_of_mem_take hx)), fun i j x a e e' => ?_⟩⟩
          · simp only
            have : lo * k + (r.cap - lo) * k = r.cap * k := by rw [← Nat.add_mul]; congr 1; omega
            omega
          · rw [List.getElem?_take] at e
            split at e
            · rw [List.getElem?_drop] at e
              obtain ⟨u, e1, e2, e3⟩ := hcv _ _ _ _ e e'
              refine ⟨u, ?_, e2, e3⟩
              rw [← e1]; congr 1; simp only; rw [Nat.add_mul]; omega
            · cases e
  obtain ⟨ro, hs', hc'⟩ := main
  refine ⟨_, I, ⟨by simpa using hs'.size, fun i u y e e' => ?_, hs'.defers, hs'.obj, hs'.inj, hs'.own, hs'.imm, hs'.frame, hs'.glob, hs'.given⟩, h1, h2, fun i hi => ?_⟩
  · rw [List.getElem?_set] at e'
    split at e'
    · rename_i hti
      subst hti
      split at e'
      · injection e' with e'
        subst e'
        rw [Array.getElem?_eq_getElem hlt', hv] at e
        injection e with e
        rw [← e]; exact hc'
      · cases e'
    · exact hs'.slot i u y e e'
  · rw [Place.with_other _ _ (by omega)]
    exact h3 i hi

/-- The result of a call, and its objects. -/
def finOf (R : AV → List Obj → Prop) : Option (AV × List Obj) → Prop
  | some (r, os) => R r os
  | none => False
def FinQ (P : Program) (GT : Ctx) (res : List ResultVar) (R : AV → List Obj → Prop) : Exit → St → Prop
  | .ret, s => ∃ s', SemLe GT s s' ∧ finOf R ((resOf P s' res).bind (finish GT.given s'))
  | .normal, s => ∃ s', SemLe GT s s' ∧ finOf R ((resOf P s' res).bind (finish GT.given s'))
  | _, _ => False

end

section
variable {P : Program} {GT : Ctx} {w0 : World} {G : Nat → Prop} {p : Place} {I : Nat → Prop} {s : St} {a : Act} {w : World}

theorem resVar_run (hs : Sim GT w0 G p I s a w) {v : ResultVar} {x : AV} (h : resVar P s v = some x) :
    ∃ u, ((match v with
      | .tmp t => Pure.pure (a.tmps.getD t undef)
      | .cell b T => do loadVar T (← asAddr (a.tmps.getD b undef)) : Sem Value)).run P w = .ok u w ∧ Conc I w p u x := by
  cases v with
  | tmp t =>
    injection h with h
    subst h
    exact ⟨_, rfl, hs.ev (.tmp t)⟩
  | cell t T =>
    have hl : evLoad P GT s T (.tmp t) = some ⟨True, x, s⟩ := by
      simp only [resVar] at h
      simp only [evLoad, ev]
      split at h
      · rename_i d L hd hL
        rw [hd, hL]
        simp only [h]
      · cases h
    obtain ⟨p', u, w', hy, hs', hv, _⟩ := StepPure.ok (evLoad_ok (P := P) (GT := GT) (o := { (default : Oper) with op := .load T (.tmp t) }) rfl hl) trivial w0 G p I a w hs
    -- the load leaves the world alone
    simp only [resVar] at h
    split at h
    · rename_i d L hd hL
      obtain ⟨b, off, hx, hc⟩ := memAt_conc hs (hs.ev (.tmp t)) hL
      have hx' : a.tmps.getD t undef = .pointer (some ⟨b, off, none⟩) := hx
      have hrun : ∃ u, (loadVar T ⟨b, off, none⟩).run P w = .ok u w ∧ Conc I w p u x := by
        obtain ⟨z, h1, h2⟩ : ∃ z, (execOp a.eval { (default : Oper) with op := .load T (.tmp t) }).run P w = .ok (.value z) w ∧ Conc I w p z x := by
          have := evLoad_ok (P := P) (GT := GT) (o := { (default : Oper) with op := .load T (.tmp t) }) rfl hl
          unfold loadFrom at h
          split at h
          · rename_i hagg
            split at h
            · rename_i hle
              injection h with h
              subst h
              have hf : ∃ f : Nat → Value, ∀ j, j < d.size → w.cell? ⟨b, off + j, none⟩ = some (f j) := by
                refine ⟨fun j => (w.cell? ⟨b, off + j, none⟩).getD undef, fun j hj => ?_⟩
                obtain ⟨u, h1, _⟩ := hc j _ (List.getElem?_eq_getElem (by omega))
                simp [h1]
              obtain ⟨f, hf⟩ := hf
              have hload := run_loadCells (P := P) w ⟨b, off, none⟩ d.size f (fun j hj => by rw [Addr.add_lit]; exact hf j hj)
              refine ⟨.agg ((List.range d.size).map f).toArray, by simp [execOp, hx, Instr.loadAt, Instr.sureAddr, loadVar, run_isAgg hd, run_sizeOf hd, hagg, hload], ?_⟩
              rcases hy with hy | ⟨hy, _⟩
              · simp [execOp, hx, Instr.loadAt, Instr.sureAddr, loadVar, run_isAgg hd, run_sizeOf hd, hagg, hload] at hy
                obtain ⟨h1, h2⟩ := hy
                refine .agg (by simp; omega) (fun i u e => ?_) fun i u y e e' => ?_
                · have hi2 : i < d.size := by
                    have := (Array.getElem?_eq_some_iff.1 e).1
                    simpa using this
                  obtain ⟨u', q1, q2, _⟩ := hc i _ (List.getElem?_eq_getElem (by omega))
                  rw [hf i hi2] at q1
                  injection q1 with q1
                  simp only [List.getElem?_toArray, List.getElem?_map, List.getElem?_range hi2, Option.map_some] at e
                  injection e with e
                  rw [← e, q1]; exact q2
                · rw [List.getElem?_take] at e'
                  split at e'
                  · rename_i hi2
                    obtain ⟨u', q1, _, q3⟩ := hc i _ e'
                    rw [hf i hi2] at q1
                    injection q1 with q1
                    simp only [List.getElem?_toArray, List.getElem?_map, List.getElem?_range hi2, Option.map_some] at e
                    injection e with e
                    rw [← e, q1]; exact q3
                  · cases e'
              · simp [execOp, hx, Instr.loadAt, Instr.sureAddr, loadVar, run_isAgg hd, run_sizeOf hd, hagg, hload] at hy
            · cases h
          · rename_i hagg
            cases L with
            | nil => cases h
            | cons v' rest =>
              simp at h
              subst h
              obtain ⟨u, h1, _, h3⟩ := hc 0 _ rfl
              simp only [Nat.add_zero] at h1
              exact ⟨u, by simp [execOp, hx, Instr.loadAt, Instr.sureAddr, loadVar, run_isAgg hd, hagg, h1], h3⟩
        refine ⟨z, ?_, h2⟩
        have he : (execOp a.eval { (default : Oper) with op := .load T (.tmp t) }).run P w = ((loadVar T ⟨b, off, none⟩).run P w).andThen fun v w' => .ok (.value v) w' := by
          simp [execOp, hx, Instr.loadAt, Instr.sureAddr]
        rw [he] at h1
        cases hq : (loadVar T ⟨b, off, none⟩).run P w with
        | ok y w2 => rw [hq] at h1; simp only [Result.andThen_ok, Result.ok.injEq, Next.value.injEq] at h1; rw [h1.1, h1.2]
        | halt y w2 => rw [hq] at h1; simp [Result.andThen] at h1
      obtain ⟨u, h1, h2⟩ := hrun
      exact ⟨u, by simp only [hx', asAddr, Sem.run_bind, Sem.run_pure, Result.andThen_ok, h1], h2⟩
    · cases h

theorem resVars_run (hs : Sim GT w0 G p I s a w) : ∀ (l : List ResultVar) (xs : List AV), resVars P s l = some xs →
    ∃ us : List Value, (l.mapM fun (v : ResultVar) => (match v with
      | .tmp t => Pure.pure (a.tmps.getD t undef)
      | .cell b T => do loadVar T (← asAddr (a.tmps.getD b undef)) : Sem Value)).run P w = .ok us w ∧ us.length = xs.length ∧ ∀ (i : Nat) (u : Value) (x : AV), us[i]? = some u → xs[i]? = some x → Conc I w p u x
  | [], xs, h => by
    injection h with h
    subst h
    exact ⟨[], by simp, rfl, by simp⟩
  | v :: l, xs, h => by
    simp only [resVars] at h
    split at h
    · rename_i x xs' hx hxs
      injection h with h
      subst h
      obtain ⟨u, h1, h2⟩ := resVar_run (P := P) hs hx
      obtain ⟨us, h3, h4, h5⟩ := resVars_run hs l xs' hxs
      refine ⟨u :: us, ?_, by simp [h4], fun i y z e e' => ?_⟩
      · rw [List.mapM_cons, Sem.run_bind, h1, Result.andThen_ok, Sem.run_bind, h3]
        rfl
      · cases i with
        | zero => simp at e e'; subst e; subst e'; exact h2
        | succ i => exact h5 i y z (by simpa using e) (by simpa using e')
    · cases h

theorem resOf_run (hs : Sim GT w0 G p I s a w) {fn : Func} {r0 : AV} (h : resOf P s fn.results.toList = some r0) : ∃ v, (results fn a.tmps).run P w = .ok v w ∧ Conc I w p v r0 := by
  unfold resOf at h
  have hres : ∀ (us : List Value), (fn.results.toList.mapM fun (v : ResultVar) => (match v with
      | .tmp t => Pure.pure (a.tmps.getD t undef)
      | .cell b T => do loadVar T (← asAddr (a.tmps.getD b undef)) : Sem Value)).run P w = .ok us w →
      (results fn a.tmps).run P w = .ok (if h : us.toArray.size = 1 then us.toArray[0] else .tuple us.toArray) w := by
    intro us hus
    unfold results
    generalize fn.results = R at *
    obtain ⟨l⟩ := R
    rw [Sem.run_bind, List.mapM_toArray, Sem.run_map]
    have key : ∀ (X : Result (List Value)) (f : List Value → World → Result (Array Value)) (g : Array Value → World → Result Value) (R : Result Value), X = .ok us w → (f us w).andThen g = R → (X.andThen f).andThen g = R := by
      intro X f g R h1 h2
      rw [h1]; exact h2
    exact key _ _ _ _ hus rfl
  split at h
  · rename_i x hx
    injection h with h
    subst h
    obtain ⟨us, h1, h2, h3⟩ := resVars_run (P := P) hs _ _ hx
    match us, h2 with
    | [u], _ =>
      exact ⟨u, hres [u] h1, h3 0 u x rfl rfl⟩
  · rename_i xs hx hne
    injection h with h
    subst h
    obtain ⟨us, h1, h2, h3⟩ := resVars_run (P := P) hs _ _ hne
    have hlen : us.toArray.size ≠ 1 := by
      intro hl
      rw [List.size_toArray, h2] at hl
      match xs, hl with
      | [x], _ => exact hx x rfl
    refine ⟨.tuple us.toArray, by rw [hres us h1, dif_neg hlen], .tup (by simp [h2]) fun i v y e e' => h3 i v y (by simpa using e) e'⟩
  · cases h

/-- THE CONTRACT OF A FUNCTION, OUT OF ITS BODY. -/
theorem holds_of {tab : Globs} {f : FuncId} {fn : Func} {c : Code} {args : List AV} {objs : List Obj} {R : AV → List Obj → Prop} (hf : P.funcs[f]? = some fn) (hb : fn.body = some c) (hname : (fn.name == "runtime.NumGoroutine") = false)
    (h : J P ⟨tab, objs.length⟩ [.code c] ⟨args ++ List.replicate (fn.ntmps - args.length) .top, objs⟩ (FinQ P ⟨tab, objs.length⟩ fn.results.toList R)) : Holds P tab f args objs R := by
  refine ⟨⟨fn, hf, by rw [hb]; rfl, hname⟩, fun w I vs q0 hsz hargs hgiven hI hglob => ?_⟩
  refine calls_of_wp hf hb ?_
  -- the frame that is entered
  have hsim : Sim ⟨tab, objs.length⟩ w (blksAll q0) q0 I ⟨args ++ List.replicate (fn.ntmps - args.length) .top, objs⟩ { tmps := vs ++ Array.replicate (fn.ntmps - vs.size) undef, defers := [] } w := by
    refine ⟨by simp [hsz], fun i v x e e' => ?_, rfl, hgiven.obj, hgiven.inj, fun i r hi hl => ⟨.inr ⟨i, r, hi, hl, rfl⟩, hgiven.own i r hi hl⟩, hI, Frm.refl _ _, hglob, Nat.le_refl _⟩
    simp only [Array.getElem?_append] at e
    simp only [List.getElem?_append] at e'
    split at e
    · rename_i hlt
      rw [if_pos (by omega)] at e'
      exact hargs i v x e e'
    · rename_i hlt
      rw [if_neg (by omega)] at e'
      rw [List.getElem?_replicate] at e'
      split at e'
      · injection e' with e'
        subst e'
        exact .top
      · cases e'
  intro b k cs
  obtain ⟨e, a', w', s', hq, hs', harr⟩ := h ⟨w, blksAll q0, I, q0⟩ _ w ⟨q0, I, hsim, fun _ h => h, fun _ h => .inl h, fun _ _ => .inl rfl⟩ b k cs
  refine ⟨e, a', w', ?_, harr⟩
  -- the result
  have hfin : (∃ s2, SemLe ⟨tab, objs.length⟩ s' s2 ∧ finOf R ((resOf P s2 fn.results.toList).bind (finish objs.length s2))) → a'.defers = [] ∧ ∃ v, (results fn a'.tmps).run P w' = .ok v w' ∧
      ∃ v2 q I' r os, R r os ∧ Ending.returned v = .returned v2 ∧ Frm w (blksAll q0) w' ∧ (∀ b, I b → I' b) ∧ (∀ b, I' b → I b ∨ w.heap.size ≤ b ∨ blksAll q0 b) ∧ (∀ b, I' b → b < w'.heap.size) ∧ Conc I' w' q v2 r ∧ Handed I' (fun b => w.heap.size ≤ b ∨ blksAll q0 b) w' q os ∧
        ∀ i, i < objs.length → q i = q0 i ∨ q i = none := by
    rintro ⟨s2, hle, hfin⟩
    obtain ⟨p, I1, hs, hI0, hI1, hgv⟩ := hle _ _ _ hs'
    cases hr0 : resOf P s2 fn.results.toList with
    | none => rw [hr0] at hfin; exact hfin.elim
    | some r0 =>
      rw [hr0] at hfin
      simp only [Option.bind_some, finish] at hfin
      obtain ⟨v, hv, hvc⟩ := resOf_run hs hr0
      generalize hK : finK objs.length s2 r0 = K at hfin
      generalize hF : finF K s2 r0 = F at hfin
      split at hfin
      · rename_i hnd
        simp only [finOf] at hfin
        have hKF : ∀ i, i ∈ K → F.contains i = false := fun i hi => by
          rw [← hF]
          simp [finF, hi]
        have hdrop : ∀ i, i ∈ K → p.drop F i = p i := fun i hi => Place.drop_not (by rw [hKF i hi]; simp)
        have hren : ∀ i j r, idxIn K i = some j → p.drop F i = some r → (fun j => (K[j]?).bind p) j = some r := fun i j r hj hr => by
          simp only [idxIn_get hj, Option.bind_some]
          rw [hdrop i (List.mem_of_getElem? (idxIn_get hj))] at hr
          exact hr
        have hq0 : ∀ (j : Nat) (r' : Real), (K[j]?).bind p = some r' → ∃ x, K[j]? = some x ∧ p x = some r' := fun j r' h => by
          simp only [Option.bind_eq_some_iff] at h
          exact h
        refine ⟨hs.defers, v, hv, v, fun j => (K[j]?).bind p, fun b => I1 b ∨ blksOf p F b, _, _, hfin, rfl, hs.frame, fun b hb => .inl (hI0 b hb), fun b hb => ?_, fun b hb => ?_, ?_, ⟨fun id => ?_, fun i j r1 r2 hi hj hl hl' hb => ?_, fun i r1 hi hl => ?_⟩, fun i hi => ?_⟩
        · rcases hb with hb | ⟨i, r1, _, hr1, hl, hb⟩
          · exact hI1 b hb
          · have h := (hs.own i r1 hr1 hl).1
            rw [hb] at h
            exact .inr h
        · rcases hb with hb | ⟨i, r1, _, hr1, hl, hb⟩
          · exact hs.imm b hb
          · rw [← hb]; exact (hs.own i r1 hr1 hl).2.1
        · exact (hvc.leafs (I' := fun b => I1 b ∨ blksOf p F b) (p' := p.drop F) (fun _ _ => rfl) (fun _ h => .inl h) (frzF_conc hs F)).ren _ (fun _ _ => rfl) (fun _ h => h) hren
        · rw [List.getD_eq_getElem?_getD, List.getElem?_map]
          cases hx : K[id]? with
          | none => simp [ObjConc, hx]
          | some x =>
            have h1 := (hs.obj x).leafs (I' := fun b => I1 b ∨ blksOf p F b) (w' := w') (p' := p.drop F) (id' := x) (fun _ _ => rfl) (fun _ h => .inl h) (fun _ _ _ => rfl) (hdrop x (List.mem_of_getElem? hx)) (frzF_conc hs F)
            exact h1.ren (p' := fun j => (K[j]?).bind p) (id' := id) _ (fun _ _ => rfl) (fun _ h => h) (fun _ _ _ => rfl) (by simp only [hx, Option.bind_some]; rw [hdrop x (List.mem_of_getElem? hx)]) hren
        · obtain ⟨x, hx, hpx⟩ := hq0 i r1 hi
          obtain ⟨y, hy, hpy⟩ := hq0 j r2 hj
          obtain rfl := hs.inj x y r1 r2 hpx hpy hl hl' hb
          exact nodupB_inj hnd i j x hx hy
        · obtain ⟨x, hx, hpx⟩ := hq0 i r1 hi
          obtain ⟨h1, h2, h3⟩ := hs.own x r1 hpx hl
          refine ⟨h1, h2, ?_⟩
          rintro (hb | ⟨i2, r2, hi2, hr2, hl2, hb⟩)
          · exact h3 hb
          · obtain rfl := hs.inj i2 x r2 r1 hr2 hpx hl2 hl hb
            rw [hKF i2 (List.mem_of_getElem? hx)] at hi2
            cases hi2
        · have hKi : K[i]? = some i := by
            rw [← hK]
            simp only [finK]
            rw [List.getElem?_append_left (by simpa using hi)]
            simp [List.getElem?_range hi]
          simp only [hKi, Option.bind_some]
          exact hgv i hi
      · exact hfin.elim
  cases e with
  | ret => exact hfin hq
  | normal => exact hfin hq
  | _ => exact hq.elim

end
end Go.Proofs.YtmfgaefefgnhbaaGreatDoor.Abs
namespace Go.Proofs.YtmfgaefefgnhbaaGreatDoor.Abs
set_option linter.unusedSimpArgs false
set_option linter.unusedVariables false
open Go Go.RowKit

/-- A condition, its value reckoned. -/
def condW (P : Program) (GT : Ctx) (Q : Exit → St → Prop) (n : Nat) (c : Operand) (a b : Code) (k : List Item) (s : St) : AV → Prop
  | .raw (.bool t) => (t = true → W P GT Q n (.code (.code a :: k)) (s.know c true)) ∧ (t = false → W P GT Q n (.code (.code b :: k)) (s.know c false))
  | _ => False
/-- The way after an exit. -/
def exitW (P : Program) (GT : Ctx) (Q : Exit → St → Prop) (n id : Nat) (s : St) : Option (List Item) → Prop
  | some k' => W P GT Q n (.code k') s
  | none => Q (.exit id) s
/-- An operation with a guard, the guard's value reckoned. -/
def guardW (P : Program) (GT : Ctx) (Q : Exit → St → Prop) (n : Nat) (all : Array Oper) (i : Nat) (o : Oper) (rest : List Oper) (k : List Item) (s : St) (t : Nat) (want : Bool) : AV → Prop
  | .raw (.bool b) => (b = want → Exec P GT true (s.know (.tmp t) want) o (W P GT Q n (.ops all i rest k))) ∧ (b = (!want) → W P GT Q n (.ops all i rest k) ((s.know (.tmp t) (!want)).put o.dst (.raw undef)))
  | .raw (.tuple _) => W P GT Q n (.ops all i rest k) (s.put o.dst (.raw undef))
  | _ => False
def guardAt (P : Program) (GT : Ctx) (Q : Exit → St → Prop) (n : Nat) (all : Array Oper) (i : Nat) (o : Oper) (rest : List Oper) (k : List Item) (s : St) (want : Bool) : Option Nat → Prop
  | some t => guardW P GT Q n all i o rest k s t want (s.slots.getD t .top)
  | none => False
/-- An operation, reckoned. -/
def resW (K : St → Prop) (d : Option Tmp) : Option Res → Prop
  | some r => r.need ∧ K (r.st.put d r.val)
  | none => False
/-- The same behind what has to be handed over first. -/
def resF (P : Program) (GT : Ctx) (s : St) (op : Op) (K : St → Prop) (d : Option Tmp) (T : List Nat) : Prop := resW K d (evalOp P GT (s.frz T) op)
/-- Whether a slice is nil, reckoned. -/
def nilW (P : Program) (GT : Ctx) (s : St) (op : Op) (d : Option Tmp) (K : St → Prop) : Option (Prop × Bool) → Prop
  | some (c, neg) => ∀ b : Bool, (b = true → c) → K (s.put d (.raw (.bool (b ^^ neg))))
  | none => resF P GT s op K d (needFrz GT s op)
def execW (P : Program) (GT : Ctx) (m : Bool) (s : St) (op : Op) (d : Option Tmp) (K : St → Prop) : Option (FuncId × List AV) → Prop
  | some (f, args) => CallA P GT m s f args d K
  | none => nilW P GT s op d K (nilOf P GT s op)
/-- The runner behind an operation. -/
def Wk (P : Program) (GT : Ctx) (Q : Exit → St → Prop) (n : Nat) (all : Array Oper) (i : Nat) (rest : List Oper) (k : List Item) (s : St) : Prop := W P GT Q n (.ops all i rest k) s

/-- The runner behind a step of a plan. -/
def Wp (P : Program) (GT : Ctx) (Q : Exit → St → Prop) (n : Nat) (all : Array Oper) (M : List Nat) (p : Plan) (k : List Item) (s : St) : Prop := W P GT Q n (.plan all M p k) s
def stepGuard (P : Program) (GT : Ctx) (m : Bool) (o : Oper) (s : St) (K : St → Prop) (t : Nat) (want : Bool) : AV → Prop
  | .raw (.bool b) => (b = want → Exec P GT m (s.know (.tmp t) want) o K) ∧ (b = (!want) → K ((s.know (.tmp t) (!want)).put o.dst (.raw undef)))
  | .raw (.tuple _) => K (s.put o.dst (.raw undef))
  | _ => False
def stepSlot (P : Program) (GT : Ctx) (m : Bool) (o : Oper) (s : St) (K : St → Prop) (want : Bool) : Option Nat → Prop
  | some t => stepGuard P GT m o s K t want (s.slots.getD t .top)
  | none => False

/-- A slot. -/
def sget : List AV → Nat → AV
  | [], _ => .top
  | a :: _, 0 => a
  | _ :: l, n + 1 => sget l n
theorem sget_eq : ∀ (l : List AV) (n : Nat), l.getD n .top = sget l n
  | [], _ => rfl
  | _ :: _, 0 => rfl
  | _ :: l, n + 1 => sget_eq l n
@[go_sem] theorem sget_nil {n : Nat} : sget [] n = .top := rfl
@[go_sem] theorem sget_zero {a : AV} {l : List AV} : sget (a :: l) 0 = a := rfl
@[go_sem] theorem sget_one {a : AV} {l : List AV} {n : Nat} : sget (a :: l) (n + 1) = sget l n := rfl
@[go_sem high] theorem sget_eight {a b c d e f g h : AV} {l : List AV} {n : Nat} : sget (a :: b :: c :: d :: e :: f :: g :: h :: l) (n + 8) = sget l n := rfl
/-- A slot is written. -/
def sset : List AV → Nat → AV → List AV
  | [], _, _ => []
  | _ :: l, 0, v => v :: l
  | a :: l, n + 1, v => a :: sset l n v
theorem sset_eq : ∀ (l : List AV) (n : Nat) (v : AV), l.set n v = sset l n v
  | [], _, _ => rfl
  | _ :: _, 0, _ => rfl
  | a :: l, n + 1, v => congrArg (a :: ·) (sset_eq l n v)
@[go_sem] theorem sset_nil {n : Nat} {v : AV} : sset [] n v = [] := rfl
@[go_sem] theorem sset_zero {a v : AV} {l : List AV} : sset (a :: l) 0 v = v :: l := rfl
@[go_sem] theorem sset_one {a v : AV} {l : List AV} {n : Nat} : sset (a :: l) (n + 1) v = a :: sset l n v := rfl
@[go_sem high] theorem sset_eight {a b c d e f g h v : AV} {l : List AV} {n : Nat} : sset (a :: b :: c :: d :: e :: f :: g :: h :: l) (n + 8) v = a :: b :: c :: d :: e :: f :: g :: h :: sset l n v := rfl
/-- An object. -/
def oget : List Obj → Nat → Obj
  | [], _ => .dead
  | a :: _, 0 => a
  | _ :: l, n + 1 => oget l n
theorem oget_eq : ∀ (l : List Obj) (n : Nat), l.getD n .dead = oget l n
  | [], _ => rfl
  | _ :: _, 0 => rfl
  | _ :: l, n + 1 => oget_eq l n
@[go_sem] theorem oget_nil {n : Nat} : oget [] n = .dead := rfl
@[go_sem] theorem oget_zero {a : Obj} {l : List Obj} : oget (a :: l) 0 = a := rfl
@[go_sem] theorem oget_one {a : Obj} {l : List Obj} {n : Nat} : oget (a :: l) (n + 1) = oget l n := rfl

section
variable {P : Program} {GT : Ctx} {s : St} {k : List Item} {Q : Exit → St → Prop} {n : Nat} {all : Array Oper} {i : Nat} {rest : List Oper}

@[go_sem] theorem W_nil : W P GT Q (n + 1) (.code []) s = Q .normal s := rfl
@[go_sem] theorem W_inBlock {id : Nat} : W P GT Q (n + 1) (.code (.inBlock id :: k)) s = W P GT Q n (.code k) s := rfl
@[go_sem] theorem W_skip : W P GT Q (n + 1) (.code (.code .skip :: k)) s = W P GT Q n (.code k) s := rfl
@[go_sem] theorem W_label {l : Nat} : W P GT Q (n + 1) (.code (.code (.label l) :: k)) s = W P GT Q n (.code k) s := rfl
@[go_sem] theorem W_seq {a b : Code} : W P GT Q (n + 1) (.code (.code (.seq a b) :: k)) s = W P GT Q n (.code (.code a :: .code b :: k)) s := rfl
@[go_sem] theorem W_block {id : Nat} {c : Code} : W P GT Q (n + 1) (.code (.code (.block id c) :: k)) s = W P GT Q n (.code (.code c :: .inBlock id :: k)) s := rfl
@[go_sem] theorem W_ret : W P GT Q (n + 1) (.code (.code .ret :: k)) s = Q .ret s := rfl
@[go_sem] theorem W_loop {c : Code} : W P GT Q (n + 1) (.code (.code (.loop c) :: k)) s = J P GT (.code (.loop c) :: k) s Q := rfl
@[go_sem] theorem W_scope {c : Code} : W P GT Q (n + 1) (.code (.code (.scope c) :: k)) s = J P GT (.code (.scope c) :: k) s Q := rfl
@[go_sem] theorem W_goto {l : Nat} : W P GT Q (n + 1) (.code (.code (.goto l) :: k)) s = J P GT (.code (.goto l) :: k) s Q := rfl
@[go_sem] theorem W_inScope {c : Code} : W P GT Q (n + 1) (.code (.inScope c :: k)) s = J P GT (.inScope c :: k) s Q := rfl
/-- A region: run unless its operations have guards. -/
def regW (P : Program) (GT : Ctx) (Q : Exit → St → Prop) (n id : Nat) (ops : List Oper) (k : List Item) (s : St) : Bool → Prop
  | true => J P GT (.code (.region id ops.toArray false) :: k) s Q
  | false => W P GT Q n (.ops ops.toArray 0 ops k) s
@[go_sem] theorem W_region {id : Nat} {ops : List Oper} : W P GT Q (n + 1) (.code (.code (.region id ops.toArray false) :: k)) s = regW P GT Q n id ops k s (hasGuard ops) := by
  show (if hasGuard ops = true then _ else _) = _
  cases hasGuard ops <;> rfl
@[go_sem] theorem regW_true {id : Nat} {ops : List Oper} : regW P GT Q n id ops k s true = J P GT (.code (.region id ops.toArray false) :: k) s Q := rfl
@[go_sem] theorem regW_false {id : Nat} {ops : List Oper} : regW P GT Q n id ops k s false = W P GT Q n (.ops ops.toArray 0 ops k) s := rfl
@[go_sem] theorem hasGuard_nil : hasGuard [] = false := rfl
@[go_sem] theorem hasGuard_none {dst : Option Tmp} {op : Op} {ty : TypeId} {pos : String} {after : Array Edge} {l : List Oper} : hasGuard (⟨dst, op, ty, pos, after, none⟩ :: l) = hasGuard l := rfl
@[go_sem] theorem hasGuard_some {dst : Option Tmp} {op : Op} {ty : TypeId} {pos : String} {after : Array Edge} {l : List Oper} {g : Nat × Bool} : hasGuard (⟨dst, op, ty, pos, after, some g⟩ :: l) = true := rfl
@[go_sem] theorem W_draw {id : Nat} {ops : Array Oper} : W P GT Q (n + 1) (.code (.code (.region id ops true) :: k)) s = J P GT (.code (.region id ops true) :: k) s Q := rfl
@[go_sem] theorem W_ops_nil : W P GT Q (n + 1) (.ops all i [] k) s = W P GT Q n (.code k) s := rfl
@[go_sem] theorem W_done {M : List Nat} : W P GT Q (n + 1) (.plan all M .done k) s = W P GT Q n (.code k) s := rfl
@[go_sem] theorem W_take {M : List Nat} {j : Nat} {p : Plan} : W P GT Q (n + 1) (.plan all M (.take j p) k) s = StepAt P GT all (M.contains j) s (Wp P GT Q n all M p k) all[j]? := rfl
@[go_sem] theorem W_fork {M : List Nat} {j : Nat} {p r : Plan} : W P GT Q (n + 1) (.plan all M (.fork j p r) k) s = (StepAt P GT all (M.contains j) s (Wp P GT Q n all M p k) all[j]? ∧ W P GT Q n (.plan all M r k) s) := rfl
@[go_sem] theorem W_none {M : List Nat} : W P GT Q (n + 1) (.plan all M .none k) s = True := rfl
@[go_sem] theorem Wp_eq {M : List Nat} {p : Plan} : Wp P GT Q n all M p k s = W P GT Q n (.plan all M p k) s := rfl
@[go_sem] theorem oper_at {l : List Oper} {j : Nat} : l.toArray[j]? = l[j]? := by simp
/-- The same, looked for in what is to come. -/
def exitC (P : Program) (GT : Ctx) (Q : Exit → St → Prop) (n id : Nat) (k : List Item) (s : St) : Prop := exitW P GT Q n id s (exitTo id k)
@[go_sem] theorem W_exit {id : Nat} : W P GT Q (n + 1) (.code (.code (.exit id) :: k)) s = exitC P GT Q n id k s := by
  unfold W exitC exitW; rfl
@[go_sem] theorem exitC_nil {id : Nat} : exitC P GT Q n id [] s = Q (.exit id) s := rfl
@[go_sem] theorem exitC_in {id id' : Nat} : exitC P GT Q n id (.inBlock id' :: k) s = if id' = id then W P GT Q n (.code k) s else exitC P GT Q n id k s := by
  simp only [exitC, exitTo, beq_iff_eq]; split <;> rfl
@[go_sem] theorem exitC_code {id : Nat} {c : Code} : exitC P GT Q n id (.code c :: k) s = exitC P GT Q n id k s := rfl
@[go_sem] theorem exitC_loop {id : Nat} {c : Code} : exitC P GT Q n id (.inLoop c :: k) s = exitC P GT Q n id k s := rfl
@[go_sem] theorem exitC_scope {id : Nat} {c : Code} : exitC P GT Q n id (.inScope c :: k) s = exitC P GT Q n id k s := rfl
@[go_sem] theorem exitW_some {id : Nat} {k' : List Item} : exitW P GT Q n id s (some k') = W P GT Q n (.code k') s := rfl
@[go_sem] theorem exitW_none {id : Nat} : exitW P GT Q n id s none = Q (.exit id) s := rfl
@[go_sem] theorem exitTo_nil {id : Nat} : exitTo id [] = none := rfl
@[go_sem] theorem exitTo_in {id id' : Nat} : exitTo id (.inBlock id' :: k) = if id' = id then some k else exitTo id k := by
  simp only [exitTo, beq_iff_eq]
@[go_sem] theorem exitTo_code {id : Nat} {c : Code} : exitTo id (.code c :: k) = exitTo id k := rfl
@[go_sem] theorem W_cond {c : Operand} {a b : Code} : W P GT Q (n + 1) (.code (.code (.cond c a b) :: k)) s = condW P GT Q n c a b k s (ev GT s c) := by
  unfold W condW; rfl
theorem set_getD {α : Type} {l : List α} {t : Nat} {d x : α} (h : l.getD t d = x) (hne : t < l.length) : l.set t x = l := by
  subst h
  apply List.ext_getElem?
  intro i
  rw [List.getElem?_set]
  split
  · rename_i h; subst h; simp [hne, List.getD_eq_getElem?_getD]
  · rfl
theorem condW_by {c : Operand} {a b : Code} {t : Bool} (h1 : t = true → W P GT Q n (.code (.code a :: k)) (s.know c true)) (h2 : t = false → W P GT Q n (.code (.code b :: k)) (s.know c false)) : condW P GT Q n c a b k s (.raw (.bool t)) := ⟨h1, h2⟩
@[go_sem] theorem condW_true {c : Operand} {a b : Code} : condW P GT Q n c a b k s (.raw (.bool true)) = W P GT Q n (.code (.code a :: k)) (s.know c true) := by
  simp [condW]
@[go_sem] theorem condW_false {c : Operand} {a b : Code} : condW P GT Q n c a b k s (.raw (.bool false)) = W P GT Q n (.code (.code b :: k)) (s.know c false) := by
  simp [condW]
@[go_sem] theorem W_op {dst : Option Tmp} {op : Op} {ty : TypeId} {pos : String} {after : Array Edge} : W P GT Q (n + 1) (.ops all i (⟨dst, op, ty, pos, after, none⟩ :: rest) k) s = execW P GT true s op dst (Wk P GT Q n all (i + 1) rest k) (callOf GT s op) := by
  unfold W Exec execW nilW resF resW; rfl
@[go_sem] theorem W_opg {dst : Option Tmp} {op : Op} {ty : TypeId} {pos : String} {after : Array Edge} {j : Nat} {want : Bool} : W P GT Q (n + 1) (.ops all i (⟨dst, op, ty, pos, after, some (j, want)⟩ :: rest) k) s = guardAt P GT Q n all (i + 1) ⟨dst, op, ty, pos, after, some (j, want)⟩ rest k s want (guardSlot all j) := by
  unfold W guardAt guardW; rfl
@[go_sem] theorem step_op {m : Bool} {K : St → Prop} {dst : Option Tmp} {op : Op} {ty : TypeId} {pos : String} {after : Array Edge} : StepAt P GT all m s K (some ⟨dst, op, ty, pos, after, none⟩) = execW P GT m s op dst K (callOf GT s op) := by
  unfold StepAt Exec execW nilW resF resW; rfl
@[go_sem] theorem step_opg {m : Bool} {K : St → Prop} {dst : Option Tmp} {op : Op} {ty : TypeId} {pos : String} {after : Array Edge} {j : Nat} {want : Bool} : StepAt P GT all m s K (some ⟨dst, op, ty, pos, after, some (j, want)⟩) = stepSlot P GT m ⟨dst, op, ty, pos, after, some (j, want)⟩ s K want (guardSlot all j) := by
  unfold StepAt stepSlot stepGuard; rfl
@[go_sem] theorem stepSlot_some {m : Bool} {o : Oper} {K : St → Prop} {want : Bool} {t : Nat} {sl : List AV} {os : List Obj} : stepSlot P GT m o ⟨sl, os⟩ K want (some t) = stepGuard P GT m o ⟨sl, os⟩ K t want (sget sl t) := by
  rw [← sget_eq]; rfl
theorem stepGuard_same {m : Bool} {K : St → Prop} {dst : Option Tmp} {op : Op} {ty : TypeId} {pos : String} {after : Array Edge} {j : Nat} {t : Nat} {want b : Bool} (h : b = want) : stepGuard P GT m ⟨dst, op, ty, pos, after, some (j, want)⟩ s K t want (.raw (.bool b)) = execW P GT m (s.know (.tmp t) want) op dst K (callOf GT (s.know (.tmp t) want) op) := by
  subst h
  simp only [stepGuard, Exec, execW, nilW, resF, resW]
  cases b <;> simp <;> (cases callOf GT _ op <;> rfl)
theorem stepGuard_other {m : Bool} {K : St → Prop} {o : Oper} {t : Nat} {want b : Bool} (h : b = !want) : stepGuard P GT m o s K t want (.raw (.bool b)) = K ((s.know (.tmp t) (!want)).put o.dst (.raw undef)) := by
  subst h
  simp only [stepGuard]
  cases want <;> simp
theorem stepGuard_by {m : Bool} {K : St → Prop} {o : Oper} {t : Nat} {want b : Bool} (h1 : b = want → stepGuard P GT m o (s.know (.tmp t) want) K t want (.raw (.bool want))) (h2 : b = (!want) → K ((s.know (.tmp t) (!want)).put o.dst (.raw undef))) : stepGuard P GT m o s K t want (.raw (.bool b)) := by
  refine ⟨fun h => ?_, h2⟩
  have := (h1 h).1 rfl
  have hk : (s.know (.tmp t) want).know (.tmp t) want = s.know (.tmp t) want := by simp [St.know]
  rw [hk] at this
  exact this
@[go_sem] theorem guardSlot_eq {l : List Oper} {j : Nat} : guardSlot l.toArray j = (l[j]?).bind (·.dst) := by simp [guardSlot]
@[go_sem] theorem guardAt_some {o : Oper} {want : Bool} {t : Nat} {sl : List AV} {os : List Obj} : guardAt P GT Q n all i o rest k ⟨sl, os⟩ want (some t) = guardW P GT Q n all i o rest k ⟨sl, os⟩ t want (sget sl t) := by
  rw [← sget_eq]; rfl
theorem guardW_same {dst : Option Tmp} {op : Op} {ty : TypeId} {pos : String} {after : Array Edge} {j : Nat} {t : Nat} {want b : Bool} (h : b = want) : guardW P GT Q n all i ⟨dst, op, ty, pos, after, some (j, want)⟩ rest k s t want (.raw (.bool b)) = execW P GT true (s.know (.tmp t) want) op dst (Wk P GT Q n all i rest k) (callOf GT (s.know (.tmp t) want) op) := by
  subst h
  simp only [guardW, Exec, execW, nilW, resF, resW]
  cases b <;> simp <;> (cases callOf GT _ op <;> rfl)
theorem guardW_other {o : Oper} {t : Nat} {want b : Bool} (h : b = !want) : guardW P GT Q n all i o rest k s t want (.raw (.bool b)) = W P GT Q n (.ops all i rest k) ((s.know (.tmp t) (!want)).put o.dst (.raw undef)) := by
  subst h
  simp only [guardW]
  cases want <;> simp
theorem guardW_by {o : Oper} {t : Nat} {want b : Bool} (h1 : b = want → guardW P GT Q n all i o rest k (s.know (.tmp t) want) t want (.raw (.bool want))) (h2 : b = (!want) → W P GT Q n (.ops all i rest k) ((s.know (.tmp t) (!want)).put o.dst (.raw undef))) : guardW P GT Q n all i o rest k s t want (.raw (.bool b)) := by
  refine ⟨fun h => ?_, h2⟩
  have := (h1 h).1 rfl
  have hk : (s.know (.tmp t) want).know (.tmp t) want = s.know (.tmp t) want := by simp [St.know]
  rw [hk] at this
  exact this
@[go_sem] theorem stepGuard_true {m : Bool} {K : St → Prop} {dst : Option Tmp} {op : Op} {ty : TypeId} {pos : String} {after : Array Edge} {j : Nat} {t : Nat} : stepGuard P GT m ⟨dst, op, ty, pos, after, some (j, true)⟩ s K t true (.raw (.bool true)) = execW P GT m (s.know (.tmp t) true) op dst K (callOf GT (s.know (.tmp t) true) op) := stepGuard_same rfl
@[go_sem] theorem stepGuard_not_true {m : Bool} {K : St → Prop} {o : Oper} {t : Nat} : stepGuard P GT m o s K t true (.raw (.bool false)) = K ((s.know (.tmp t) false).put o.dst (.raw undef)) := stepGuard_other (want := true) rfl
@[go_sem] theorem guardW_true {dst : Option Tmp} {op : Op} {ty : TypeId} {pos : String} {after : Array Edge} {j : Nat} {t : Nat} : guardW P GT Q n all i ⟨dst, op, ty, pos, after, some (j, true)⟩ rest k s t true (.raw (.bool true)) = execW P GT true (s.know (.tmp t) true) op dst (Wk P GT Q n all i rest k) (callOf GT (s.know (.tmp t) true) op) := guardW_same rfl
@[go_sem] theorem guardW_not_true {o : Oper} {t : Nat} : guardW P GT Q n all i o rest k s t true (.raw (.bool false)) = W P GT Q n (.ops all i rest k) ((s.know (.tmp t) false).put o.dst (.raw undef)) := guardW_other (want := true) rfl
@[go_sem] theorem stepGuard_false {m : Bool} {K : St → Prop} {dst : Option Tmp} {op : Op} {ty : TypeId} {pos : String} {after : Array Edge} {j : Nat} {t : Nat} : stepGuard P GT m ⟨dst, op, ty, pos, after, some (j, false)⟩ s K t false (.raw (.bool false)) = execW P GT m (s.know (.tmp t) false) op dst K (callOf GT (s.know (.tmp t) false) op) := stepGuard_same rfl
@[go_sem] theorem stepGuard_not_false {m : Bool} {K : St → Prop} {o : Oper} {t : Nat} : stepGuard P GT m o s K t false (.raw (.bool true)) = K ((s.know (.tmp t) true).put o.dst (.raw undef)) := stepGuard_other (want := false) rfl
@[go_sem] theorem guardW_false {dst : Option Tmp} {op : Op} {ty : TypeId} {pos : String} {after : Array Edge} {j : Nat} {t : Nat} : guardW P GT Q n all i ⟨dst, op, ty, pos, after, some (j, false)⟩ rest k s t false (.raw (.bool false)) = execW P GT true (s.know (.tmp t) false) op dst (Wk P GT Q n all i rest k) (callOf GT (s.know (.tmp t) false) op) := guardW_same rfl
@[go_sem] theorem guardW_not_false {o : Oper} {t : Nat} : guardW P GT Q n all i o rest k s t false (.raw (.bool true)) = W P GT Q n (.ops all i rest k) ((s.know (.tmp t) true).put o.dst (.raw undef)) := guardW_other (want := false) rfl
@[go_sem] theorem stepGuard_undef {m : Bool} {K : St → Prop} {o : Oper} {t : Nat} {want : Bool} : stepGuard P GT m o s K t want (.raw undef) = K (s.put o.dst (.raw undef)) := rfl
@[go_sem] theorem guardW_undef {o : Oper} {t : Nat} {want : Bool} : guardW P GT Q n all i o rest k s t want (.raw undef) = W P GT Q n (.ops all i rest k) (s.put o.dst (.raw undef)) := rfl
/- The same where what is asked is decided by a proposition. -/
theorem condW_dec {c : Operand} {a b : Code} {t : Prop} {_ : Decidable t} (h1 : t → W P GT Q n (.code (.code a :: k)) (s.know c true)) (h2 : ¬ t → W P GT Q n (.code (.code b :: k)) (s.know c false)) : condW P GT Q n c a b k s (.raw (.bool (decide t))) :=
  condW_by (fun h => h1 (of_decide_eq_true h)) fun h => h2 (of_decide_eq_false h)
theorem condW_ndec {c : Operand} {a b : Code} {t : Prop} {_ : Decidable t} (h1 : ¬ t → W P GT Q n (.code (.code a :: k)) (s.know c true)) (h2 : t → W P GT Q n (.code (.code b :: k)) (s.know c false)) : condW P GT Q n c a b k s (.raw (.bool (!decide t))) :=
  condW_by (fun h => h1 (by simpa using h)) fun h => h2 (by simpa using h)
theorem guardW_dect {o : Oper} {t : Nat} {b : Prop} {_ : Decidable b} (h1 : b → guardW P GT Q n all i o rest k (s.know (.tmp t) true) t true (.raw (.bool true))) (h2 : ¬ b → W P GT Q n (.ops all i rest k) ((s.know (.tmp t) false).put o.dst (.raw undef))) : guardW P GT Q n all i o rest k s t true (.raw (.bool (decide b))) :=
  guardW_by (fun h => h1 (of_decide_eq_true h)) fun h => h2 (of_decide_eq_false h)
theorem guardW_decf {o : Oper} {t : Nat} {b : Prop} {_ : Decidable b} (h1 : ¬ b → guardW P GT Q n all i o rest k (s.know (.tmp t) false) t false (.raw (.bool false))) (h2 : b → W P GT Q n (.ops all i rest k) ((s.know (.tmp t) true).put o.dst (.raw undef))) : guardW P GT Q n all i o rest k s t false (.raw (.bool (decide b))) :=
  guardW_by (fun h => h1 (of_decide_eq_false h)) fun h => h2 (of_decide_eq_true h)
theorem guardW_ndect {o : Oper} {t : Nat} {b : Prop} {_ : Decidable b} (h1 : ¬ b → guardW P GT Q n all i o rest k (s.know (.tmp t) true) t true (.raw (.bool true))) (h2 : b → W P GT Q n (.ops all i rest k) ((s.know (.tmp t) false).put o.dst (.raw undef))) : guardW P GT Q n all i o rest k s t true (.raw (.bool (!decide b))) :=
  guardW_by (fun h => h1 (by simpa using h)) fun h => h2 (by simpa using h)
theorem guardW_ndecf {o : Oper} {t : Nat} {b : Prop} {_ : Decidable b} (h1 : b → guardW P GT Q n all i o rest k (s.know (.tmp t) false) t false (.raw (.bool false))) (h2 : ¬ b → W P GT Q n (.ops all i rest k) ((s.know (.tmp t) true).put o.dst (.raw undef))) : guardW P GT Q n all i o rest k s t false (.raw (.bool (!decide b))) :=
  guardW_by (fun h => h1 (by simpa using h)) fun h => h2 (by simpa using h)
theorem stepGuard_dect {m : Bool} {K : St → Prop} {o : Oper} {t : Nat} {b : Prop} {_ : Decidable b} (h1 : b → stepGuard P GT m o (s.know (.tmp t) true) K t true (.raw (.bool true))) (h2 : ¬ b → K ((s.know (.tmp t) false).put o.dst (.raw undef))) : stepGuard P GT m o s K t true (.raw (.bool (decide b))) :=
  stepGuard_by (fun h => h1 (of_decide_eq_true h)) fun h => h2 (of_decide_eq_false h)
theorem stepGuard_decf {m : Bool} {K : St → Prop} {o : Oper} {t : Nat} {b : Prop} {_ : Decidable b} (h1 : ¬ b → stepGuard P GT m o (s.know (.tmp t) false) K t false (.raw (.bool false))) (h2 : b → K ((s.know (.tmp t) true).put o.dst (.raw undef))) : stepGuard P GT m o s K t false (.raw (.bool (decide b))) :=
  stepGuard_by (fun h => h1 (of_decide_eq_false h)) fun h => h2 (of_decide_eq_true h)
theorem stepGuard_ndect {m : Bool} {K : St → Prop} {o : Oper} {t : Nat} {b : Prop} {_ : Decidable b} (h1 : ¬ b → stepGuard P GT m o (s.know (.tmp t) true) K t true (.raw (.bool true))) (h2 : b → K ((s.know (.tmp t) false).put o.dst (.raw undef))) : stepGuard P GT m o s K t true (.raw (.bool (!decide b))) :=
  stepGuard_by (fun h => h1 (by simpa using h)) fun h => h2 (by simpa using h)
theorem stepGuard_ndecf {m : Bool} {K : St → Prop} {o : Oper} {t : Nat} {b : Prop} {_ : Decidable b} (h1 : b → stepGuard P GT m o (s.know (.tmp t) false) K t false (.raw (.bool false))) (h2 : ¬ b → K ((s.know (.tmp t) true).put o.dst (.raw undef))) : stepGuard P GT m o s K t false (.raw (.bool (!decide b))) :=
  stepGuard_by (fun h => h1 (by simpa using h)) fun h => h2 (by simpa using h)
@[go_sem] theorem execW_some {m : Bool} {op : Op} {d : Option Tmp} {K : St → Prop} {f : FuncId} {args : List AV} : execW P GT m s op d K (some (f, args)) = CallA P GT m s f args d K := rfl
@[go_sem] theorem execW_none {m : Bool} {op : Op} {d : Option Tmp} {K : St → Prop} : execW P GT m s op d K none = nilW P GT s op d K (nilOf P GT s op) := rfl
@[go_sem] theorem nilW_none {op : Op} {d : Option Tmp} {K : St → Prop} : nilW P GT s op d K none = resF P GT s op K d (needFrz GT s op) := rfl
@[go_sem] theorem resF_nil {op : Op} {d : Option Tmp} {K : St → Prop} : resF P GT s op K d [] = resW K d (evalOp P GT s op) := by rw [resF, St.frz_nil]
@[go_sem] theorem resF_cons {op : Op} {d : Option Tmp} {K : St → Prop} {i : Nat} {T : List Nat} : resF P GT s op K d (i :: T) = resW K d (evalOp P GT (s.frz (i :: T)) op) := rfl
@[go_sem] theorem nilW_some {op : Op} {d : Option Tmp} {K : St → Prop} {c : Prop} {neg : Bool} : nilW P GT s op d K (some (c, neg)) = ∀ b : Bool, (b = true → c) → K (s.put d (.raw (.bool (b ^^ neg)))) := rfl
@[go_sem] theorem nilOf_binOp {op : BinOp} {E E' : TypeId} {x y : Operand} : nilOf P GT s (.binOp op E x y E') = nilCmp op (td P E) (ev GT s x) (ev GT s y) := rfl
@[go_sem] theorem needFrz_binOp {op : BinOp} {E E' : TypeId} {x y : Operand} : needFrz GT s (.binOp op E x y E') = [] := rfl
@[go_sem] theorem xor_false' {b : Bool} : (b ^^ false) = b := by cases b <;> rfl
@[go_sem] theorem xor_true' {b : Bool} : (b ^^ true) = !b := by cases b <;> rfl
@[go_sem] theorem resW_some {K : St → Prop} {d : Option Tmp} {need : Prop} {v : AV} {st : St} : resW K d (some ⟨need, v, st⟩) = (need ∧ K (st.put d v)) := rfl
@[go_sem high] theorem resW_true {K : St → Prop} {d : Option Tmp} {v : AV} {st : St} : resW K d (some ⟨True, v, st⟩) = K (st.put d v) := by simp [resW]
@[go_sem high] theorem resW_need {K : St → Prop} {d : Option Tmp} {need : Prop} {v : AV} {st : St} (h : need) : resW K d (some ⟨need, v, st⟩) = K (st.put d v) := by simp [resW, h]
@[go_sem] theorem Wk_eq : Wk P GT Q n all i rest k s = W P GT Q n (.ops all i rest k) s := rfl
@[go_sem] theorem put_some {sl : List AV} {os : List Obj} {d : Nat} {v : AV} : St.put ⟨sl, os⟩ (some d) v = ⟨sset sl d v, os⟩ := by rw [← sset_eq]; rfl
@[go_sem] theorem put_none {v : AV} : s.put none v = s := rfl
@[go_sem] theorem know_tmp {sl : List AV} {os : List Obj} {t : Nat} {b : Bool} : St.know ⟨sl, os⟩ (.tmp t) b = ⟨sset sl t (.raw (.bool b)), os⟩ := by rw [← sset_eq]; rfl
@[go_sem] theorem know_const {v : Value} {b : Bool} : St.know s (.const v) b = s := rfl
@[go_sem] theorem ev_tmp {sl : List AV} {os : List Obj} {t : Nat} : ev GT ⟨sl, os⟩ (.tmp t) = sget sl t := by rw [← sget_eq]; rfl
@[go_sem] theorem ev_const {v : Value} : ev GT s (.const v) = .raw v := rfl
@[go_sem] theorem ev_func {f : Nat} : ev GT s (.func f) = .clo (.func f) [] [] := rfl
@[go_sem] theorem ev_global {g : Nat} : ev GT s (.global g) = lookupG GT.tab g := rfl
@[go_sem] theorem obj_eq {sl : List AV} {os : List Obj} {id : Nat} : St.obj ⟨sl, os⟩ id = oget os id := by rw [← oget_eq]; rfl

@[go_sem] theorem callOf_func {f : Nat} {args : List Operand} {ts : Array TypeId} : callOf GT s (.call { callee := .value (.func f), args := args.toArray, argTypes := ts }) = some (f, args.map (ev GT s)) := by
  simp [callOf, ev]
def callClo (GT : Ctx) (s : St) (args : List Operand) : AV → Option (FuncId × List AV)
  | .clo (.func g) first captured => some (g, first ++ args.map (ev GT s) ++ captured)
  | _ => none
@[go_sem] theorem callOf_tmp {t : Nat} {args : List Operand} {ts : Array TypeId} : callOf GT s (.call { callee := .value (.tmp t), args := args.toArray, argTypes := ts }) = callClo GT s args (ev GT s (.tmp t)) := by
  simp only [callOf, callClo]; split <;> simp_all
@[go_sem] theorem callClo_some {g : Nat} {first captured : List AV} {args : List Operand} : callClo GT s args (.clo (.func g) first captured) = some (g, first ++ args.map (ev GT s) ++ captured) := rfl
@[go_sem] theorem callOf_builtin {b : Builtin} {args : Array Operand} {ts : Array TypeId} : callOf GT s (.call { callee := .builtin b, args := args, argTypes := ts }) = none := rfl
@[go_sem] theorem nilOf_builtin {b : Builtin} {args : Array Operand} {ts : Array TypeId} : nilOf P GT s (.call { callee := .builtin b, args := args, argTypes := ts }) = none := rfl
@[go_sem] theorem needFrz_builtin {b : Builtin} {args : Array Operand} {ts : Array TypeId} : needFrz GT s (.call { callee := .builtin b, args := args, argTypes := ts }) = [] := rfl
@[go_sem] theorem callOf_move {x : Operand} : callOf GT s (.move x) = none := rfl
@[go_sem] theorem nilOf_move {x : Operand} : nilOf P GT s (.move x) = none := rfl
@[go_sem] theorem needFrz_move {x : Operand} : needFrz GT s (.move x) = [] := rfl
@[go_sem] theorem callOf_assign {x : Operand} : callOf GT s (.assign x) = none := rfl
@[go_sem] theorem nilOf_assign {x : Operand} : nilOf P GT s (.assign x) = none := rfl
@[go_sem] theorem needFrz_assign {x : Operand} : needFrz GT s (.assign x) = [] := rfl
@[go_sem] theorem callOf_pick {x y z : Operand} : callOf GT s (.pick x y z) = none := rfl
@[go_sem] theorem nilOf_pick {x y z : Operand} : nilOf P GT s (.pick x y z) = none := rfl
@[go_sem] theorem needFrz_pick {x y z : Operand} : needFrz GT s (.pick x y z) = [] := rfl
@[go_sem] theorem callOf_alloc {E : TypeId} : callOf GT s (.alloc E) = none := rfl
@[go_sem] theorem nilOf_alloc {E : TypeId} : nilOf P GT s (.alloc E) = none := rfl
@[go_sem] theorem needFrz_alloc {E : TypeId} : needFrz GT s (.alloc E) = [] := rfl
@[go_sem] theorem callOf_box {E : TypeId} {x : Operand} : callOf GT s (.box E x) = none := rfl
@[go_sem] theorem nilOf_box {E : TypeId} {x : Operand} : nilOf P GT s (.box E x) = none := rfl
@[go_sem] theorem needFrz_box {E : TypeId} {x : Operand} : needFrz GT s (.box E x) = [] := rfl
@[go_sem] theorem callOf_build {E : TypeId} {x : Array (Nat × Operand)} : callOf GT s (.build E x) = none := rfl
@[go_sem] theorem nilOf_build {E : TypeId} {x : Array (Nat × Operand)} : nilOf P GT s (.build E x) = none := rfl
@[go_sem] theorem needFrz_build {E : TypeId} {x : Array (Nat × Operand)} : needFrz GT s (.build E x) = [] := rfl
@[go_sem] theorem callOf_buildSlice {E : TypeId} {m : Nat} {x : Array (Nat × Operand)} : callOf GT s (.buildSlice E m x) = none := rfl
@[go_sem] theorem nilOf_buildSlice {E : TypeId} {m : Nat} {x : Array (Nat × Operand)} : nilOf P GT s (.buildSlice E m x) = none := rfl
@[go_sem] theorem needFrz_buildSlice {E : TypeId} {m : Nat} {x : List (Nat × Operand)} : needFrz GT s (.buildSlice E m x.toArray) = (x.map fun x => s.reach 3 (ev GT s x.2).names).flatten := rfl
def storeFrz (s : St) (v : AV) : AV → List Nat
  | .eref .. => s.reach 3 v.names
  | _ => []
@[go_sem] theorem needFrz_store {E : TypeId} {x y : Operand} : needFrz GT s (.store E x y) = storeFrz s (ev GT s y) (ev GT s x) := by
  simp only [needFrz, storeFrz]; cases ev GT s x <;> rfl
@[go_sem] theorem storeFrz_ref {v : AV} {i o : Nat} : storeFrz s v (.ref i o) = [] := rfl
@[go_sem] theorem storeFrz_eref {v : AV} {i k j o : Nat} : storeFrz s v (.eref i k j o) = s.reach 3 v.names := rfl
@[go_sem] theorem callOf_load {E : TypeId} {x : Operand} : callOf GT s (.load E x) = none := rfl
@[go_sem] theorem nilOf_load {E : TypeId} {x : Operand} : nilOf P GT s (.load E x) = none := rfl
@[go_sem] theorem needFrz_load {E : TypeId} {x : Operand} : needFrz GT s (.load E x) = [] := rfl
@[go_sem] theorem callOf_store {E : TypeId} {x y : Operand} : callOf GT s (.store E x y) = none := rfl
@[go_sem] theorem nilOf_store {E : TypeId} {x y : Operand} : nilOf P GT s (.store E x y) = none := rfl
@[go_sem] theorem callOf_binOp {op : BinOp} {E E' : TypeId} {x y : Operand} : callOf GT s (.binOp op E x y E') = none := rfl
@[go_sem] theorem callOf_unOp {op : UnOp} {E : TypeId} {x : Operand} : callOf GT s (.unOp op E x) = none := rfl
@[go_sem] theorem nilOf_unOp {op : UnOp} {E : TypeId} {x : Operand} : nilOf P GT s (.unOp op E x) = none := rfl
@[go_sem] theorem needFrz_unOp {op : UnOp} {E : TypeId} {x : Operand} : needFrz GT s (.unOp op E x) = [] := rfl
@[go_sem] theorem callOf_convert {E E' : TypeId} {x : Operand} : callOf GT s (.convert E E' x) = none := rfl
@[go_sem] theorem nilOf_convert {E E' : TypeId} {x : Operand} : nilOf P GT s (.convert E E' x) = none := rfl
@[go_sem] theorem needFrz_convert {E E' : TypeId} {x : Operand} : needFrz GT s (.convert E E' x) = [] := rfl
@[go_sem] theorem callOf_makeFunc {fn : Fn} {x y : Array Operand} : callOf GT s (.makeFunc fn x y) = none := rfl
@[go_sem] theorem nilOf_makeFunc {fn : Fn} {x y : Array Operand} : nilOf P GT s (.makeFunc fn x y) = none := rfl
@[go_sem] theorem needFrz_makeFunc {fn : Fn} {x y : Array Operand} : needFrz GT s (.makeFunc fn x y) = [] := rfl
@[go_sem] theorem callOf_makeSlice {E : TypeId} {x y : Operand} : callOf GT s (.makeSlice E x y) = none := rfl
@[go_sem] theorem nilOf_makeSlice {E : TypeId} {x y : Operand} : nilOf P GT s (.makeSlice E x y) = none := rfl
@[go_sem] theorem needFrz_makeSlice {E : TypeId} {x y : Operand} : needFrz GT s (.makeSlice E x y) = [] := rfl
@[go_sem] theorem callOf_slice {E : TypeId} {x : Operand} {a b c : Option Operand} : callOf GT s (.slice E x a b c) = none := rfl
@[go_sem] theorem nilOf_slice {E : TypeId} {x : Operand} {a b c : Option Operand} : nilOf P GT s (.slice E x a b c) = none := rfl
@[go_sem] theorem needFrz_slice {E : TypeId} {x : Operand} {a b c : Option Operand} : needFrz GT s (.slice E x a b c) = [] := rfl
@[go_sem] theorem callOf_fieldAddr {E : TypeId} {x : Operand} {f : Nat} : callOf GT s (.fieldAddr E x f) = none := rfl
@[go_sem] theorem nilOf_fieldAddr {E : TypeId} {x : Operand} {f : Nat} : nilOf P GT s (.fieldAddr E x f) = none := rfl
@[go_sem] theorem needFrz_fieldAddr {E : TypeId} {x : Operand} {f : Nat} : needFrz GT s (.fieldAddr E x f) = [] := rfl
@[go_sem] theorem callOf_field {E : TypeId} {x : Operand} {f : Nat} : callOf GT s (.field E x f) = none := rfl
@[go_sem] theorem nilOf_field {E : TypeId} {x : Operand} {f : Nat} : nilOf P GT s (.field E x f) = none := rfl
@[go_sem] theorem needFrz_field {E : TypeId} {x : Operand} {f : Nat} : needFrz GT s (.field E x f) = [] := rfl
@[go_sem] theorem callOf_indexAddr {E : TypeId} {x y : Operand} : callOf GT s (.indexAddr E x y) = none := rfl
@[go_sem] theorem nilOf_indexAddr {E : TypeId} {x y : Operand} : nilOf P GT s (.indexAddr E x y) = none := rfl
@[go_sem] theorem needFrz_indexAddr {E : TypeId} {x y : Operand} : needFrz GT s (.indexAddr E x y) = [] := rfl
@[go_sem] theorem callOf_index {E : TypeId} {x y : Operand} : callOf GT s (.index E x y) = none := rfl
@[go_sem] theorem nilOf_index {E : TypeId} {x y : Operand} : nilOf P GT s (.index E x y) = none := rfl
@[go_sem] theorem needFrz_index {E : TypeId} {x y : Operand} : needFrz GT s (.index E x y) = [] := rfl
@[go_sem] theorem callOf_nilCheck {x : Operand} : callOf GT s (.nilCheck x) = none := rfl
@[go_sem] theorem nilOf_nilCheck {x : Operand} : nilOf P GT s (.nilCheck x) = none := rfl
@[go_sem] theorem needFrz_nilCheck {x : Operand} : needFrz GT s (.nilCheck x) = [] := rfl
@[go_sem] theorem callOf_lookup {T : TypeId} {x y : Operand} {b : Bool} : callOf GT s (.lookup T x y b) = none := rfl
@[go_sem] theorem nilOf_lookup {T : TypeId} {x y : Operand} {b : Bool} : nilOf P GT s (.lookup T x y b) = none := rfl
@[go_sem] theorem needFrz_lookup {T : TypeId} {x y : Operand} {b : Bool} : needFrz GT s (.lookup T x y b) = [] := rfl
@[go_sem] theorem callOf_makeMap {T : TypeId} {h : Option Operand} : callOf GT s (.makeMap T h) = none := rfl
@[go_sem] theorem nilOf_makeMap {T : TypeId} {h : Option Operand} : nilOf P GT s (.makeMap T h) = none := rfl
@[go_sem] theorem needFrz_makeMap {T : TypeId} {h : Option Operand} : needFrz GT s (.makeMap T h) = [] := rfl
@[go_sem] theorem callOf_mapUpdate {T : TypeId} {x y z : Operand} : callOf GT s (.mapUpdate T x y z) = none := rfl
@[go_sem] theorem nilOf_mapUpdate {T : TypeId} {x y z : Operand} : nilOf P GT s (.mapUpdate T x y z) = none := rfl
@[go_sem] theorem needFrz_mapUpdate {T : TypeId} {x y z : Operand} : needFrz GT s (.mapUpdate T x y z) = [] := rfl
@[go_sem] theorem callOf_insert {T : TypeId} {x y z : Operand} : callOf GT s (.insert T x y z) = none := rfl
@[go_sem] theorem nilOf_insert {T : TypeId} {x y z : Operand} : nilOf P GT s (.insert T x y z) = none := rfl
@[go_sem] theorem needFrz_insert {T : TypeId} {x y z : Operand} : needFrz GT s (.insert T x y z) = [] := rfl
@[go_sem] theorem callOf_mapEntry {T : TypeId} {x y : Operand} : callOf GT s (.mapEntry T x y) = none := rfl
@[go_sem] theorem nilOf_mapEntry {T : TypeId} {x y : Operand} : nilOf P GT s (.mapEntry T x y) = none := rfl
@[go_sem] theorem needFrz_mapEntry {T : TypeId} {x y : Operand} : needFrz GT s (.mapEntry T x y) = [] := rfl
@[go_sem] theorem callOf_entryStore {T : TypeId} {x y z : Operand} : callOf GT s (.entryStore T x y z) = none := rfl
@[go_sem] theorem nilOf_entryStore {T : TypeId} {x y z : Operand} : nilOf P GT s (.entryStore T x y z) = none := rfl
@[go_sem] theorem needFrz_entryStore {T : TypeId} {x y z : Operand} : needFrz GT s (.entryStore T x y z) = [] := rfl
@[go_sem] theorem callOf_extract {x : Operand} {f : Nat} : callOf GT s (.extract x f) = none := rfl
@[go_sem] theorem nilOf_extract {x : Operand} {f : Nat} : nilOf P GT s (.extract x f) = none := rfl
@[go_sem] theorem needFrz_extract {x : Operand} {f : Nat} : needFrz GT s (.extract x f) = [] := rfl

end

@[go_sem] theorem resVar_tmp {P : Program} {sl : List AV} {os : List Obj} {t : Nat} : resVar P ⟨sl, os⟩ (.tmp t) = some (sget sl t) := by rw [← sget_eq]; rfl
def resCell (_s : St) (d : Option TD) (L : Option (List AV)) : Option AV :=
  match d, L with
  | some d, some L => loadFrom d L
  | _, _ => none
@[go_sem] theorem resVar_cell {P : Program} {sl : List AV} {os : List Obj} {t : Nat} {T : TypeId} : resVar P ⟨sl, os⟩ (.cell t T) = resCell ⟨sl, os⟩ (td P T) (memAt ⟨sl, os⟩ (sget sl t)) := by rw [← sget_eq]; rfl
@[go_sem] theorem resCell_some {s : St} {d : TD} {L : List AV} : resCell s (some d) (some L) = loadFrom d L := rfl
@[go_sem] theorem decide_pos {p : Prop} [Decidable p] (h : p) : decide p = true := decide_eq_true h
@[go_sem] theorem decide_neg {p : Prop} [Decidable p] (h : ¬ p) : decide p = false := decide_eq_false h
@[go_sem] theorem wrap_in {x : Int} (h1 : -9223372036854775808 ≤ x) (h2 : x ≤ 9223372036854775807) : IntKind.i64.wrap x = x := by
  rw [IntKind.wrap_i64]; omega

attribute [go_sem] Bool.false_eq_true Bool.true_eq_false reduceIte List.map_cons List.map_nil List.cons_append List.nil_append List.append_nil List.length_cons List.length_nil List.take_succ_cons List.take_zero List.drop_succ_cons List.drop_zero List.take_nil List.drop_nil
attribute [go_sem ↓] reduceIte
  List.getElem?_cons_zero List.getElem?_cons_succ List.getElem?_nil Option.bind_some Option.bind_none Option.map_some Option.map_none List.replicate_succ List.replicate_zero List.flatten_cons List.flatten_nil List.head?_cons List.head?_nil
  true_and and_true false_and and_false if_true if_false not_true_eq_false not_false_eq_true ite_true ite_false cond_true cond_false Bool.not_true Bool.not_false Bool.and_true Bool.and_false Bool.true_and Bool.false_and
  List.contains_cons List.contains_nil List.mapIdx_cons List.mapIdx_nil List.all_cons List.all_nil List.filter_cons List.filter_nil List.idxOf_cons Int.toNat_natCast ne_eq Nat.add_zero Nat.zero_add List.size_toArray List.toList_toArray
attribute [go_sem] Nat.reduceMul Nat.reduceAdd Nat.reduceSub Nat.reduceLeDiff Nat.reduceGT Nat.reduceBEq Nat.reduceEqDiff Nat.reduceDiv Nat.reduceMod Int.reduceToNat Int.reduceLE Int.reduceLT Int.reduceAdd Int.reduceSub Int.reduceMul Int.reduceNeg Int.reduceEq Nat.zero_le and_self List.set_cons_zero List.set_cons_succ List.set_nil Bool.or_false Bool.false_or Bool.or_true Bool.true_or List.drop_zero
attribute [go_sem] evSlice3 nilCmp eqCells eqLeaf evalOp evBuiltin evPick evBox evAlloc evLoad evStore evFieldAddr evField evIndexAddr evIndex evBin evBinOp evUnOp evConvert evMakeFunc evExtract evBound evSlice evAppend evBuild evBuildSlice evMakeSlice evLen evMinMax newBox cellsOf memAt setAt moved partOf loadFrom splice srcOf zeroAV placesOf fillA chunks
attribute [go_sem] evNilCheck evLookup evMakeMap evMapUpdate evMapEntry evEntryStore mapAt keyKind keyOf mapTypes lookAV avOf
attribute [go_sem] evClear evConvBytes numsOf selfSrc Option.some_or Option.none_or Option.or_none
attribute [go_sem] AV.imm AV.immL AV.leafs AV.leafsL AV.ren AV.nameOf AV.withName AV.names AV.namesL AV.plain AV.plainL AV.shift AV.flat AV.flatL Obj.leafs Obj.kill Obj.isDead idxIn backName leftName St.adopt St.relay St.move St.back St.frz St.reach
  nodupB dedupB boxNames finish finK finF finOf resVars resOf Value.oneCell' Ret List.getD_cons_zero List.getD_cons_succ List.getD_nil List.range_zero List.range_succ List.mapIdx_cons List.mapIdx_nil List.isEmpty_cons List.isEmpty_nil

/- What is handed over, name by name. -/
def frzN (s : St) (T : List Nat) (n : Nat) (x : AV) : AV := frzLeaf s T (AV.frz s T n) x
def frzArr (k lo n : Nat) : Obj → AV
  | .arr k' xs => if k' = k then .lst k ((xs.drop lo).take n) else .top
  | _ => .top
def frzRow (k i off : Nat) : Obj → AV
  | .arr k' xs => if k' = k then .cptr ((xs.getD i []).drop off) else .top
  | _ => .top
def immPtr (l : List AV) : Bool → AV
  | true => .cptr l
  | false => .top
def frzBox (s : St) (T : List Nat) (n off : Nat) : Obj → AV
  | .box cs => immPtr ((cs.drop off).map (AV.frz s T n)) (AV.immL ((cs.drop off).map (AV.frz s T n)))
  | _ => .top
def frzIf (x y : AV) : Bool → AV
  | true => x
  | false => y
section
variable {s : St} {T : List Nat} {n : Nat}
@[go_sem] theorem frzIf_true {x y : AV} : frzIf x y true = x := rfl
@[go_sem] theorem frzIf_false {x y : AV} : frzIf x y false = y := rfl
@[go_sem] theorem immPtr_true {l : List AV} : immPtr l true = .cptr l := rfl
@[go_sem] theorem immPtr_false {l : List AV} : immPtr l false = .top := rfl
@[go_sem] theorem frzN_own {id k lo m : Nat} : frzN s T n (.own id k lo m) = frzIf (frzArr k lo m (s.obj id)) (.own id k lo m) (T.contains id) := by
  simp only [frzN, frzLeaf]
  cases T.contains id
  · rfl
  · simp only [if_true, frzIf]; cases s.obj id <;> rfl
@[go_sem] theorem frzN_eref {id k i o : Nat} : frzN s T n (.eref id k i o) = frzIf (frzRow k i o (s.obj id)) (.eref id k i o) (T.contains id) := by
  simp only [frzN, frzLeaf]
  cases T.contains id
  · rfl
  · simp only [if_true, frzIf]; cases s.obj id <;> rfl
@[go_sem] theorem frzN_ref {id o : Nat} : frzN s T n (.ref id o) = frzIf (frzBox s T n o (s.obj id)) (.ref id o) (T.contains id) := by
  simp only [frzN, frzLeaf]
  cases T.contains id
  · rfl
  · simp only [if_true, frzIf]
    cases s.obj id <;> try rfl
    rename_i cs
    simp only [frzBox]
    cases AV.immL ((cs.drop o).map (AV.frz s T n)) <;> rfl
@[go_sem] theorem frzN_mref {id : Nat} : frzN s T n (.mref id) = frzIf .top (.mref id) (T.contains id) := by
  simp only [frzN, frzLeaf]
  cases T.contains id <;> rfl
@[go_sem] theorem frzF_app {x : AV} : frzF s T x = frzN s T 2 x := rfl
@[go_sem] theorem frz_zero {x : AV} : AV.frz s T 0 x = x.leafs (frzLeaf s T fun _ => .top) := rfl
@[go_sem] theorem frz_succ {m : Nat} {x : AV} : AV.frz s T (m + 1) x = x.leafs (frzN s T m) := rfl
@[go_sem] theorem frz_two {x : AV} : AV.frz s T 2 x = x.leafs (frzN s T 1) := rfl
@[go_sem] theorem frz_one {x : AV} : AV.frz s T 1 x = x.leafs (frzN s T 0) := rfl
@[congr] theorem frzN_congr {x x' : AV} (h : x = x') : frzN s T n x = frzN s T n x' := by rw [h]
@[congr] theorem frzF_congr {x x' : AV} (h : x = x') : frzF s T x = frzF s T x' := by rw [h]
@[congr] theorem frz_congr {x x' : AV} (h : x = x') : AV.frz s T n x = AV.frz s T n x' := by rw [h]
@[congr] theorem frzBox_congr {o : Nat} {b b' : Obj} (h : b = b') : frzBox s T n o b = frzBox s T n o b' := by rw [h]
@[congr] theorem leafs_congr {f : AV → AV} {x x' : AV} (h : x = x') : x.leafs f = x'.leafs f := by rw [h]
@[congr] theorem leafsL_congr {f : AV → AV} {x x' : List AV} (h : x = x') : AV.leafsL f x = AV.leafsL f x' := by rw [h]
@[congr] theorem oleafs_congr {f : AV → AV} {x x' : Obj} (h : x = x') : x.leafs f = x'.leafs f := by rw [h]
end
attribute [go_sem] frzArr frzRow frzBox
/- What simp looks at: states and values, never the code that is still to come. -/
section
variable {P : Program} {GT : Ctx} {Q : Exit → St → Prop} {n : Nat}
@[congr] theorem W_congr {j : Job} {s s' : St} (h : s = s') : W P GT Q n j s = W P GT Q n j s' := by rw [h]
@[congr] theorem Wk_congr {all : Array Oper} {i : Nat} {rest : List Oper} {k : List Item} {s s' : St} (h : s = s') : Wk P GT Q n all i rest k s = Wk P GT Q n all i rest k s' := by rw [h]
@[congr] theorem Wp_congr {all : Array Oper} {M : List Nat} {p : Plan} {k : List Item} {s s' : St} (h : s = s') : Wp P GT Q n all M p k s = Wp P GT Q n all M p k s' := by rw [h]
@[congr] theorem condW_congr {c : Operand} {a b : Code} {k : List Item} {s s' : St} {v v' : AV} (h : s = s') (h' : v = v') : condW P GT Q n c a b k s v = condW P GT Q n c a b k s' v' := by rw [h, h']
@[congr] theorem guardW_congr {all : Array Oper} {i : Nat} {o : Oper} {rest : List Oper} {k : List Item} {s s' : St} {t : Nat} {want : Bool} {v v' : AV} (h : s = s') (h' : v = v') : guardW P GT Q n all i o rest k s t want v = guardW P GT Q n all i o rest k s' t want v' := by rw [h, h']
@[congr] theorem stepGuard_congr {m : Bool} {o : Oper} {s s' : St} {K : St → Prop} {t : Nat} {want : Bool} {v v' : AV} (h : s = s') (h' : v = v') : stepGuard P GT m o s K t want v = stepGuard P GT m o s' K t want v' := by rw [h, h']
@[congr] theorem resW_congr {K : St → Prop} {d : Option Tmp} {r r' : Option Res} (h : r = r') : resW K d r = resW K d r' := by rw [h]
@[congr] theorem execW_congr {m : Bool} {s s' : St} {op : Op} {d : Option Tmp} {K : St → Prop} {c c' : Option (FuncId × List AV)} (h : s = s') (h' : c = c') : execW P GT m s op d K c = execW P GT m s' op d K c' := by rw [h, h']
@[congr] theorem nilW_congr {s s' : St} {op : Op} {d : Option Tmp} {K : St → Prop} {c c' : Option (Prop × Bool)} (h : s = s') (h' : c = c') : nilW P GT s op d K c = nilW P GT s' op d K c' := by rw [h, h']
@[congr] theorem resF_congr {s s' : St} {op : Op} {K : St → Prop} {d : Option Tmp} {T T' : List Nat} (h : s = s') (h' : T = T') : resF P GT s op K d T = resF P GT s' op K d T' := by rw [h, h']
@[congr] theorem CallA_congr {m : Bool} {s s' : St} {f : FuncId} {args args' : List AV} {d : Option Tmp} {K : St → Prop} (h : s = s') (h' : args = args') : CallA P GT m s f args d K = CallA P GT m s' f args' d K := by rw [h, h']
@[congr] theorem exitC_congr {id : Nat} {k : List Item} {s s' : St} (h : s = s') : exitC P GT Q n id k s = exitC P GT Q n id k s' := by rw [h]
@[congr] theorem regW_congr {id : Nat} {ops : List Oper} {k : List Item} {s s' : St} {b b' : Bool} (h : s = s') (h' : b = b') : regW P GT Q n id ops k s b = regW P GT Q n id ops k s' b' := by rw [h, h']
@[congr] theorem hasGuard_congr {l : List Oper} : hasGuard l = hasGuard l := rfl
@[congr] theorem J_congr {k : List Item} {s s' : St} (h : s = s') : J P GT k s Q = J P GT k s' Q := by rw [h]
@[congr] theorem FinQ_congr {res : List ResultVar} {R : AV → List Obj → Prop} {e : Exit} {s s' : St} (h : s = s') : FinQ P GT res R e s = FinQ P GT res R e s' := by rw [h]
end

section
variable {P : Program} {GT : Ctx} {s : St} {R : AV → List Obj → Prop} {res : List ResultVar}
theorem FinQ.now (h : finOf R ((resOf P s res).bind (finish GT.given s))) : FinQ P GT res R .ret s := ⟨s, .refl _ _, h⟩
theorem FinQ.end (h : finOf R ((resOf P s res).bind (finish GT.given s))) : FinQ P GT res R .normal s := ⟨s, .refl _ _, h⟩
theorem FinQ.le {s' : St} (hle : SemLe GT s s') (h : FinQ P GT res R .ret s') : FinQ P GT res R .ret s := by
  obtain ⟨s2, h1, h2⟩ := h
  exact ⟨s2, hle.trans h1, h2⟩
theorem FinQ.mono {R' : AV → List Obj → Prop} {e : Exit} (h : FinQ P GT res R e s) (hr : ∀ r os, R r os → R' r os) : FinQ P GT res R' e s := by
  have key : (∃ s', SemLe GT s s' ∧ finOf R ((resOf P s' res).bind (finish GT.given s'))) → (∃ s', SemLe GT s s' ∧ finOf R' ((resOf P s' res).bind (finish GT.given s'))) := by
    rintro ⟨s', h1, h2⟩
    refine ⟨s', h1, ?_⟩
    cases hq : (resOf P s' res).bind (finish GT.given s') with
    | none => rw [hq] at h2; exact h2
    | some x => rw [hq] at h2; exact hr _ _ h2
  cases e <;> first | exact h.elim | exact key h
end
end Go.Proofs.YtmfgaefefgnhbaaGreatDoor.Abs
