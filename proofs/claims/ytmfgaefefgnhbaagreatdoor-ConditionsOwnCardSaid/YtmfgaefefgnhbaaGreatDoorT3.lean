/- Bounds that come with arguments; less said of a state; loops. From a contract to a call in a world: what a law's row asks. What came in, opened by its type's shape: the reading of an argument gives plain data, and an abstract value that says the same. No program in sight. Objects that are given another name; nil slices in variables that get one. Package-level variables whose data are known: their cells, and contracts that ask for them. Ways that meet again: one of some states. -/
import Derived.Test.YtmfgaefefgnhbaaGreatDoorT4
import Derived.Below
import Derived.Carry
import Derived.ChangeArms
import Derived.OpenShut
import Derived.MakeChecks
namespace Go.Proofs.YtmfgaefefgnhbaaGreatDoor.Abs
set_option linter.unusedSimpArgs false
set_option linter.unusedVariables false
open Go Go.RowKit

/-- How long the slices in a value can be. -/
inductive Bnd : AV → Prop
  | top : Bnd .top
  | raw {v} : Bnd (.raw v)
  | agg {cs : List AV} (h : ∀ a, a ∈ cs → Bnd a) : Bnd (.agg cs)
  | tup {cs : List AV} (h : ∀ a, a ∈ cs → Bnd a) : Bnd (.tup cs)
  | lst {k : Nat} {xs : List (List AV)} (hl : xs.length ≤ maxLen) (h : ∀ x, x ∈ xs → ∀ a, a ∈ x → Bnd a) : Bnd (.lst k xs)
  | cptr {cs : List AV} (h : ∀ a, a ∈ cs → Bnd a) : Bnd (.cptr cs)
  | own {i k l n} : Bnd (.own i k l n)
  | ref {i o} : Bnd (.ref i o)
  | eref {i k j o} : Bnd (.eref i k j o)
  | mref {i} : Bnd (.mref i)
  | clo {fn as bs} (h : ∀ a, a ∈ as → Bnd a) (h' : ∀ a, a ∈ bs → Bnd a) : Bnd (.clo fn as bs)

theorem Conc.bnd {I : Nat → Prop} {w : World} {p : Place} {v : Value} {x : AV} (h : Conc I w p v x) : Bnd x := by
  induction h with
  | top => exact .top
  | raw => exact .raw
  | @agg _ cs as hl _ _ ih =>
    refine .agg fun a ha => ?_
    obtain ⟨i, hi⟩ := List.getElem?_of_mem ha
    have hlt : i < cs.size := by rw [← hl]; exact (List.getElem?_eq_some_iff.1 hi).1
    exact ih i _ a (Array.getElem?_eq_getElem hlt) hi
  | @tup _ cs as hl _ ih =>
    refine .tup fun a ha => ?_
    obtain ⟨i, hi⟩ := List.getElem?_of_mem ha
    have hlt : i < cs.size := by rw [← hl]; exact (List.getElem?_eq_some_iff.1 hi).1
    exact ih i _ a (Array.getElem?_eq_getElem hlt) hi
  | lst hn hc hm hk hx h1 _ ih =>
    refine .lst (by omega) fun x hx a ha => ?_
    obtain ⟨i, hi⟩ := List.getElem?_of_mem hx
    obtain ⟨j, hj⟩ := List.getElem?_of_mem ha
    exact ih i j x a hi hj
  | cptr hb hx h1 _ ih =>
    refine .cptr fun a ha => ?_
    obtain ⟨j, hj⟩ := List.getElem?_of_mem ha
    exact ih j a hj
  | own => exact .own
  | ref => exact .ref
  | eref => exact .eref
  | mref => exact .mref
  | @clo _ fn fs cs as bs hl hl' _ _ ih ih' =>
    refine .clo (fun a ha => ?_) fun a ha => ?_
    · obtain ⟨i, hi⟩ := List.getElem?_of_mem ha
      have hlt : i < fs.size := by rw [← hl]; exact (List.getElem?_eq_some_iff.1 hi).1
      exact ih i _ a (Array.getElem?_eq_getElem hlt) hi
    · obtain ⟨i, hi⟩ := List.getElem?_of_mem ha
      have hlt : i < cs.size := by rw [← hl']; exact (List.getElem?_eq_some_iff.1 hi).1
      exact ih' i _ a (Array.getElem?_eq_getElem hlt) hi

theorem Bnd.agg_mem {cs : List AV} (h : Bnd (.agg cs)) {a : AV} (ha : a ∈ cs) : Bnd a := by cases h with | agg h => exact h a ha
theorem Bnd.len {k : Nat} {xs : List (List AV)} (h : Bnd (.lst k xs)) : xs.length ≤ maxLen := by cases h with | lst hl _ => exact hl
theorem Bnd.elem {k : Nat} {xs : List (List AV)} (h : Bnd (.lst k xs)) {x : List AV} (hx : x ∈ xs) {a : AV} (ha : a ∈ x) : Bnd a := by cases h with | lst _ h => exact h x hx a ha
theorem Bnd.cptr_mem {cs : List AV} (h : Bnd (.cptr cs)) {a : AV} (ha : a ∈ cs) : Bnd a := by cases h with | cptr h => exact h a ha

/-- How long arrays are. -/
def ObjBnd : Obj → Prop
  | .dead => True
  | .box cs => ∀ a, a ∈ cs → Bnd a
  | .arr _ xs => xs.length ≤ maxLen ∧ ∀ x, x ∈ xs → ∀ a, a ∈ x → Bnd a
  | .mp _ _ => True
theorem ObjConc.bnd {I : Nat → Prop} {w : World} {p : Place} {id : Nat} {o : Obj} (h : ObjConc I w p id o) : ObjBnd o := by
  cases o with
  | dead => trivial
  | box cs =>
    obtain ⟨r, c, E, _, _, _, _, hv⟩ := h
    intro a ha
    obtain ⟨j, hj⟩ := List.getElem?_of_mem ha
    obtain ⟨v, _, _, h3⟩ := hv j a hj
    exact h3.bnd
  | arr k xs =>
    obtain ⟨r, _, ⟨_, hx⟩ | ⟨_, c, E, _, hl, hm, _, _, hv⟩⟩ := h
    · subst hx; exact ⟨by simp, by simp⟩
    · refine ⟨by omega, fun x hx a ha => ?_⟩
      obtain ⟨i, hi⟩ := List.getElem?_of_mem hx
      obtain ⟨j, hj⟩ := List.getElem?_of_mem ha
      obtain ⟨v, _, _, h3⟩ := hv i j x a hi hj
      exact h3.bnd
  | mp kd m => trivial

/-- A contract may lean on the bounds of its arguments. -/
theorem holds_bnd {P : Program} {GT : Globs} {f : FuncId} {args : List AV} {objs : List Obj} {R : AV → List Obj → Prop} (he : Enters P f) (h : (∀ a, a ∈ args → Bnd a) → (∀ o, o ∈ objs → ObjBnd o) → Holds P GT f args objs R) : Holds P GT f args objs R := by
  refine ⟨he, fun w I vs q0 hsz hargs hgiven => ?_⟩
  have hb : ∀ a, a ∈ args → Bnd a := fun a ha => by
    obtain ⟨i, hi⟩ := List.getElem?_of_mem ha
    have hlt : i < vs.size := by rw [hsz]; exact (List.getElem?_eq_some_iff.1 hi).1
    exact (hargs i _ a (Array.getElem?_eq_getElem hlt) hi).bnd
  have hb' : ∀ o, o ∈ objs → ObjBnd o := fun o ho => by
    obtain ⟨i, hi⟩ := List.getElem?_of_mem ho
    have := hgiven.obj i
    rw [List.getD_eq_getElem?_getD, hi] at this
    exact this.bnd
  exact (h hb hb').2 w I vs q0 hsz hargs hgiven
theorem enters_of {P : Program} {f : FuncId} {fn : Func} (hf : P.funcs[f]? = some fn) (hb : fn.body.isSome = true) (hname : (fn.name == "runtime.NumGoroutine") = false) : Enters P f := ⟨fn, hf, hb, hname⟩

/- What names only objects that are there. -/
mutual
def AV.keeps (s : St) : AV → Bool
  | .agg cs => AV.keepsL s cs
  | .tup cs => AV.keepsL s cs
  | .clo _ as bs => AV.keepsL s as && AV.keepsL s bs
  | .own id _ _ _ => !(s.obj id).isDead
  | .ref id _ => !(s.obj id).isDead
  | .eref id _ _ _ => !(s.obj id).isDead
  | .mref id => !(s.obj id).isDead
  | .top => true
  | .raw _ => true
  | .lst _ _ => true
  | .cptr _ => true
def AV.keepsL (s : St) : List AV → Bool
  | [] => true
  | a :: as => AV.keeps s a && AV.keepsL s as
end
theorem AV.keepsL_mem {s : St} {l : List AV} (h : AV.keepsL s l = true) : ∀ a, a ∈ l → a.keeps s = true := by
  induction l with
  | nil => intro a ha; cases ha
  | cons b l ih =>
    simp only [AV.keepsL, Bool.and_eq_true] at h
    intro a ha
    rcases List.mem_cons.1 ha with rfl | ha
    · exact h.1
    · exact ih h.2 a ha

/-- The places of the objects that are there. -/
def Place.those (p : Place) (s : St) : Place := fun i => if (s.obj i).isDead then none else p i

theorem Place.those_live {p : Place} {s : St} {i : Nat} (h : (s.obj i).isDead = false) : p.those s i = p i := by simp [Place.those, h]
theorem Place.those_dead {p : Place} {s : St} {i : Nat} (h : (s.obj i).isDead = true) : p.those s i = none := by simp [Place.those, h]

theorem Conc.those {I : Nat → Prop} {w : World} {p : Place} {v : Value} {x : AV} {s : St} (h : Conc I w p v x) (hk : x.keeps s = true) : Conc I w (p.those s) v x := by
  have hp : ∀ i r, p i = some r → (!(s.obj i).isDead) = true → p.those s i = some r := fun i r hi hd => by
    simp only [Place.those]
    rw [if_neg (by simpa using hd)]
    exact hi
  induction h with
  | top => exact .top
  | raw => exact .raw
  | agg hl h1 _ ih => exact .agg hl h1 fun i v a e e' => ih i v a e e' (AV.keepsL_mem (by simpa [AV.keeps] using hk) a (List.mem_of_getElem? e')) hp
  | tup hl _ ih => exact .tup hl fun i v a e e' => ih i v a e e' (AV.keepsL_mem (by simpa [AV.keeps] using hk) a (List.mem_of_getElem? e')) hp
  | lst hn hc hm hkk hx h1 h _ => exact .lst hn hc hm hkk hx h1 h
  | cptr hb hx h1 h _ => exact .cptr hb hx h1 h
  | own hn hm h hr => exact .own hn hm (hp _ _ h hk) hr
  | ref h hl => exact .ref (hp _ _ h hk) hl
  | eref h hl => exact .eref (hp _ _ h hk) hl
  | mref h hl => exact .mref (hp _ _ h hk) hl
  | clo hl hl' _ _ ih ih' =>
    simp only [AV.keeps, Bool.and_eq_true] at hk
    exact .clo hl hl' (fun i v a e e' => ih i v a e e' (AV.keepsL_mem hk.1 a (List.mem_of_getElem? e')) hp) fun i v a e e' => ih' i v a e e' (AV.keepsL_mem hk.2 a (List.mem_of_getElem? e')) hp

/-- Less is said: of slots, of objects. -/
def leSlots (s' : St) : List AV → List AV → Prop
  | [], [] => True
  | a :: l, b :: m => (b = .top ∨ (a = b ∧ b.keeps s' = true)) ∧ leSlots s' l m
  | _, _ => False
def Obj.le (s' : St) (a : Obj) : Obj → Prop
  | .dead => True
  | .box cs => a = .box cs ∧ AV.keepsL s' cs = true
  | .arr k xs => a = .arr k xs
  | .mp kd m => a = .mp kd m
def leObjs (s' : St) : List Obj → List Obj → Prop
  | _, [] => True
  | a :: l, b :: m => a.le s' b ∧ leObjs s' l m
  | [], _ :: _ => False
def St.le (s s' : St) : Prop := leSlots s' s.slots s'.slots ∧ leObjs s' s.objs s'.objs

theorem leSlots_get {s' : St} : ∀ {l m : List AV}, leSlots s' l m → l.length = m.length ∧ ∀ (i : Nat) (a b : AV), l[i]? = some a → m[i]? = some b → b = .top ∨ (a = b ∧ b.keeps s' = true)
  | [], [], _ => ⟨rfl, fun i a b h => by simp at h⟩
  | a :: l, b :: m, h => by
    obtain ⟨h1, h2⟩ := h
    obtain ⟨h3, h4⟩ := leSlots_get h2
    refine ⟨by simp [h3], fun i x y e e' => ?_⟩
    cases i with
    | zero => simp at e e'; subst e; subst e'; exact h1
    | succ i => exact h4 i x y (by simpa using e) (by simpa using e')
  | [], _ :: _, h => h.elim
  | _ :: _, [], h => h.elim
theorem leObjs_get {s' : St} : ∀ {l m : List Obj} (i : Nat), leObjs s' l m → (l.getD i .dead).le s' (m.getD i .dead)
  | _, [], i, _ => by simp [Obj.le]
  | a :: l, b :: m, i, h => by
    cases i with
    | zero => exact h.1
    | succ i => simpa using leObjs_get i h.2
  | [], _ :: _, _, h => h.elim

theorem SemLe.le {GT : Ctx} {s s' : St} (hle : s.le s') (hgv : GT.given ≤ s'.objs.length) : SemLe GT s s' := fun B a w h => by
  obtain ⟨p, I, h, h1, h2, h3⟩ := h
  obtain ⟨hlen, hsl⟩ := leSlots_get hle.1
  have hq : ∀ i r, p.those s' i = some r → p i = some r := fun i r hi => by
    simp only [Place.those] at hi
    split at hi
    · cases hi
    · exact hi
  refine ⟨p.those s', I, ⟨by rw [h.size, hlen], fun i v x e e' => ?_, h.defers, fun i => ?_, fun i j r r' hi hj hl hl' hb => h.inj i j r r' (hq i r hi) (hq j r' hj) hl hl' hb, fun i r hi hl => h.own i r (hq i r hi) hl, h.imm, h.frame, h.glob, hgv⟩, h1, h2, fun i hi => ?_⟩
  · have hi : i < s.slots.length := by rw [hlen]; exact (List.getElem?_eq_some_iff.1 e').1
    rcases hsl i _ x (List.getElem?_eq_getElem hi) e' with rfl | ⟨hx, hk⟩
    · exact .top
    · have := h.slot i v _ e (List.getElem?_eq_getElem hi)
      rw [hx] at this
      exact this.those hk
  · have hol : (s.obj i).le s' (s'.obj i) := leObjs_get i hle.2
    have hob := h.obj i
    have hpi : (s'.obj i).isDead = false → p.those s' i = p i := Place.those_live
    cases ho : s'.obj i with
    | dead => exact Place.those_dead (by rw [ho]; rfl)
    | box cs =>
      rw [ho] at hol hpi
      obtain ⟨hx, hk⟩ := hol
      rw [hx] at hob
      obtain ⟨r, c, E, hr, hn, hh, hl, hv⟩ := hob
      refine ⟨r, c, E, (hpi rfl).trans hr, hn, hh, hl, fun j a e => ?_⟩
      obtain ⟨v, e1, e2, e3⟩ := hv j a e
      exact ⟨v, e1, e2, e3.those (AV.keepsL_mem hk a (List.mem_of_getElem? e))⟩
    | arr k xs =>
      rw [ho] at hol hpi
      rw [show s.obj i = .arr k xs from hol] at hob
      obtain ⟨r, hr, rest⟩ := hob
      exact ⟨r, (hpi rfl).trans hr, rest⟩
    | mp kd m =>
      rw [ho] at hol hpi
      rw [show s.obj i = .mp kd m from hol] at hob
      obtain ⟨r, es, hr, rest⟩ := hob
      exact ⟨r, es, (hpi rfl).trans hr, rest⟩
  · simp only [Place.those]
    split
    · exact .inr rfl
    · exact h3 i hi

section
variable {P : Program} {GT : Ctx} {s : St} {k : List Item} {Q : Exit → St → Prop}

theorem J_le {s' : St} (hle : s.le s') (hgv : GT.given ≤ s'.objs.length) (h : J P GT k s' Q) : J P GT k s Q := J_sem (.le hle hgv) h

/-- What a piece of code in front of k may end in. -/
def endQ (P : Program) (GT : Ctx) (k : List Item) (Q : Exit → St → Prop) (R : St → Prop) : Exit → St → Prop
  | .normal, s => R s
  | .exit id, s => match exitTo id k with
    | some k' => J P GT k' s Q
    | none => Q (.exit id) s
  | .ret, s => Q .ret s
  | _, _ => False

/-- What a loop's round comes to. -/
def LoopEnd {ι : Type} (GT : Ctx) (S : ι → St) (ok : ι → Prop) (μ : ι → Nat) (i : ι) (s' : St) : Prop := ∃ j, ok j ∧ μ j < μ i ∧ SemLe GT s' (S j)

/-- A loop: the states at its head, one for each value of a ghost. -/
theorem J_loops {ι : Type} {c : Code} (S : ι → St) (ok : ι → Prop) (μ : ι → Nat) (i0 : ι) (hok : ok i0) (h0 : SemLe GT s (S i0))
    (hr : ∀ i, ok i → J P GT [.code c] (S i) (endQ P GT k Q (LoopEnd GT S ok μ i))) : J P GT (.code (.loop c) :: k) s Q := by
  intro B a w hs b k0 cs
  have key : ∀ n i a w, μ i = n → ok i → StC GT B (S i) a w → ∃ e a' w' s', Q e s' ∧ StC GT B s' a' w' ∧ Arrives P (lone (b.at a (.code c :: .inLoop c :: (k ++ k0))) cs w) b k0 cs e a' w' := by
    intro n
    induction n using Nat.strongRecOn with
    | _ n ih =>
      intro i a w hn hoki hs
      obtain ⟨e, a1, w1, s1, hq, hs1, harr⟩ := hr i hoki B a w hs b (.inLoop c :: (k ++ k0)) cs
      cases e with
      | normal =>
        obtain ⟨j, hokj, hlt, hle⟩ := hq
        obtain ⟨e2, a2, w2, s2, q2, hs2, harr2⟩ := ih _ (hn ▸ hlt) j a1 w1 rfl hokj (hle _ _ _ hs1)
        exact ⟨e2, a2, w2, s2, q2, hs2, .of_steps (Steps.trans harr (.one step_inLoop)) harr2⟩
      | exit id =>
        simp only [endQ] at hq
        split at hq
        · rename_i k' hk'
          obtain ⟨e2, a2, w2, s2, q2, hs2, harr2⟩ := hq B a1 w1 hs1 b k0 cs
          exact ⟨e2, a2, w2, s2, q2, hs2, .of_steps (harr (k' ++ k0) (by simp only [exitTo]; exact exitTo_append k0 hk')) harr2⟩
        · rename_i hk'
          exact ⟨.exit id, a1, w1, s1, hq, hs1, fun k2 hk2 => harr k2 (by simp only [exitTo]; rw [exitTo_none k0 hk']; exact hk2)⟩
      | ret => exact ⟨.ret, a1, w1, s1, hq, hs1, harr⟩
      | goto l => exact hq.elim
      | panic ch => exact hq.elim
      | outgrown => exact hq.elim
  obtain ⟨e, a', w', s', hq, hs', harr⟩ := key _ i0 a w rfl hok (h0 _ _ _ hs)
  exact ⟨e, a', w', s', hq, hs', .of_steps (.one step_loop) harr⟩

theorem endQ_normal {R : St → Prop} : endQ P GT k Q R .normal s = R s := rfl
theorem endQ_ret {R : St → Prop} : endQ P GT k Q R .ret s = Q .ret s := rfl
/-- The way behind an exit out of a piece of code. -/
def exitJ (P : Program) (GT : Ctx) (Q : Exit → St → Prop) (id : Nat) (s : St) : Option (List Item) → Prop
  | some k' => J P GT k' s Q
  | none => Q (.exit id) s
def exitD (P : Program) (GT : Ctx) (Q : Exit → St → Prop) (id : Nat) (k : List Item) (s : St) : Prop := exitJ P GT Q id s (exitTo id k)
theorem endQ_exit {R : St → Prop} {id : Nat} : endQ P GT k Q R (.exit id) s = exitD P GT Q id k s := rfl
theorem exitD_nil {id : Nat} : exitD P GT Q id [] s = Q (.exit id) s := rfl
theorem exitD_in {id id' : Nat} : exitD P GT Q id (.inBlock id' :: k) s = if id' = id then J P GT k s Q else exitD P GT Q id k s := by
  simp only [exitD, exitTo, beq_iff_eq]; split <;> rfl
theorem exitD_code {id : Nat} {c : Code} : exitD P GT Q id (.code c :: k) s = exitD P GT Q id k s := rfl
theorem exitD_loop {id : Nat} {c : Code} : exitD P GT Q id (.inLoop c :: k) s = exitD P GT Q id k s := rfl
theorem exitD_scope {id : Nat} {c : Code} : exitD P GT Q id (.inScope c :: k) s = exitD P GT Q id k s := rfl
@[congr] theorem exitD_congr {id : Nat} {k : List Item} {s s' : St} (h : s = s') : exitD P GT Q id k s = exitD P GT Q id k s' := by rw [h]
@[congr] theorem endQ_congr {R : St → Prop} {e : Exit} {s s' : St} (h : s = s') : endQ P GT k Q R e s = endQ P GT k Q R e s' := by rw [h]
@[congr] theorem LoopEnd_congr {ι : Type} {S : ι → St} {ok : ι → Prop} {μ : ι → Nat} {i : ι} {s s' : St} (h : s = s') : LoopEnd GT S ok μ i s = LoopEnd GT S ok μ i s' := by rw [h]
theorem exitJ_some {id : Nat} {k' : List Item} : exitJ P GT Q id s (some k') = J P GT k' s Q := rfl
theorem exitJ_none {id : Nat} : exitJ P GT Q id s none = Q (.exit id) s := rfl
theorem leSlots_nil {s' : St} : leSlots s' [] [] = True := rfl
theorem leSlots_top {s' : St} {a : AV} {l m : List AV} : leSlots s' (a :: l) (.top :: m) = leSlots s' l m := by simp [leSlots]
theorem leSlots_cons {s' : St} {a b : AV} {l m : List AV} : leSlots s' (a :: l) (b :: m) = ((b = .top ∨ (a = b ∧ b.keeps s' = true)) ∧ leSlots s' l m) := rfl
theorem leSlots_same {s' : St} {a : AV} {l m : List AV} (h : leSlots s' l m) (hk : a.keeps s' = true) : leSlots s' (a :: l) (a :: m) := ⟨.inr ⟨rfl, hk⟩, h⟩

end
attribute [go_sem] endQ_normal endQ_ret endQ_exit exitD_nil exitD_in exitD_code exitD_loop exitD_scope leSlots_nil leSlots_top leSlots_cons Obj.le St.le AV.keeps AV.keepsL Obj.isDead

section
variable {P : Program} {GT : Ctx} {s : St} {k : List Item} {Q : Exit → St → Prop} {R : AV → List Obj → Prop} {res : List ResultVar}
theorem NilReps.refl (n : Nat) : ∀ l : List AV, NilReps n l l
  | [] => .nil
  | a :: l => .cons (.same a) (NilReps.refl n l)
theorem NilReps.set (n el : Nat) : ∀ (l : List AV) (t : Nat), sget l t = .raw (.slice none 0 0) → NilReps n l (sset l t (.own n el 0 0))
  | [], _, _ => .nil
  | a :: l, 0, h => by simp only [sget] at h; subst h; exact .cons (.nil el) (NilReps.refl n l)
  | a :: l, t + 1, h => .cons (.same a) (NilReps.set n el l t h)
/-- A slot that holds a nil slice: it gets a name. -/
def St.nilName (s : St) (t el : Nat) : St := ⟨sset s.slots t (.own s.objs.length el 0 0), s.objs ++ [.arr el []]⟩
theorem SemLe.nilName (t el : Nat) (h : sget s.slots t = .raw (.slice none 0 0)) : SemLe GT s (s.nilName t el) := SemLe.nil GT s el (NilReps.set _ el _ t h)
theorem FinQ.nilName (t el : Nat) (h : sget s.slots t = .raw (.slice none 0 0)) (h' : FinQ P GT res R .ret (s.nilName t el)) : FinQ P GT res R .ret s := h'.le (.nilName t el h)
theorem FinQ.frz (T : List Nat) (h : FinQ P GT res R .ret (s.frz T)) : FinQ P GT res R .ret s := h.le (.frz _ _ T)
theorem J_nilName (t el : Nat) (h : sget s.slots t = .raw (.slice none 0 0)) (h' : J P GT k (s.nilName t el) Q) : J P GT k s Q := J_sem (.nilName t el h) h'
/-- Of the array in a slot the part that the slot names is left. -/
def St.cutAt (s : St) (t id k lo n : Nat) (xs : List (List AV)) : St := { s.relay id (.arr k ((xs.drop lo).take n)) with slots := sset (s.relay id (.arr k ((xs.drop lo).take n))).slots t (.own id k 0 n) }
theorem SemLe.cutAt {t id el lo n : Nat} {xs : List (List AV)} (hg : ¬ id < GT.given) (hob : s.obj id = .arr el xs) (ht : sget s.slots t = .own id el lo n) (hn : lo + n ≤ xs.length) : SemLe GT s (s.cutAt t id el lo n xs) := by
  have := SemLe.cut GT s (t := t) hg hob (by rw [sget_eq]; exact ht) hn
  rw [sset_eq] at this
  exact this
end
theorem toNat_add_nat {i n : Nat} : ((i : Int) + (n : Int)).toNat = i + n := by omega
theorem toNat_add_one {i : Nat} : ((i : Int) + 1).toNat = i + 1 := by omega
theorem toNat_add_two {i : Nat} : ((i : Int) + 2).toNat = i + 2 := by omega
attribute [go_sem] toNat_add_nat toNat_add_one toNat_add_two Nat.sub_zero List.length_take List.length_drop List.length_append List.length_map List.length_set List.length_replicate Nat.min_self Nat.sub_self
attribute [go_sem] or_true true_or or_false false_or AV.raw.injEq Value.bool.injEq Value.int.injEq Value.string.injEq AV.own.injEq AV.ref.injEq AV.lst.injEq AV.agg.injEq reduceCtorEq and_self true_and and_true
attribute [go_sem] St.nilName St.cutAt Nat.lt_irrefl Nat.not_lt_zero

/-- One value says no more than another one. -/
def VLe (x y : AV) : Prop := ∀ (I : Nat → Prop) (w : World) (p : Place) (v : Value), Conc I w p v x → Conc I w p v y
theorem VLe.refl (x : AV) : VLe x x := fun _ _ _ _ h => h
theorem VLe.top (x : AV) : VLe x .top := fun _ _ _ _ _ => .top
theorem VLe.nilLst (k : Nat) : VLe (.raw (.slice none 0 0)) (.lst k []) := fun _ _ _ v h => by
  have := h.raw_eq
  subst this
  exact .lst (f := fun _ _ => undef) rfl (Nat.le_refl _) (by simp [maxLen]) (by simp) (.inl rfl) (by simp) (by simp)
/-- Pointwise. -/
inductive VLes : List AV → List AV → Prop
  | nil : VLes [] []
  | cons {x y : AV} {xs ys : List AV} (h : VLe x y) (h' : VLes xs ys) : VLes (x :: xs) (y :: ys)
theorem VLes.get : ∀ {xs ys : List AV}, VLes xs ys → xs.length = ys.length ∧ ∀ (i : Nat) (y : AV), ys[i]? = some y → ∃ x, xs[i]? = some x ∧ VLe x y
  | [], _, h => by cases h; exact ⟨rfl, fun i y h => by simp at h⟩
  | x :: xs, _, h => by
    cases h with
    | cons h h' =>
      obtain ⟨h1, h2⟩ := h'.get
      refine ⟨by simp [h1], fun i z e => ?_⟩
      cases i with
      | zero => simp at e; subst e; exact ⟨x, rfl, h⟩
      | succ i => simpa using h2 i z (by simpa using e)
theorem VLes.refl : ∀ l : List AV, VLes l l
  | [] => .nil
  | a :: l => .cons (.refl a) (VLes.refl l)
theorem VLe.agg {xs ys : List AV} (h : VLes xs ys) : VLe (.agg xs) (.agg ys) := fun I w p v hc => by
  obtain ⟨g1, g2⟩ := h.get
  cases hc with
  | agg hl h1 h =>
    refine .agg (by rw [← g1, hl]) h1 fun i v y e e' => ?_
    obtain ⟨x, hx, hxy⟩ := g2 i y e'
    exact hxy _ _ _ _ (h i v x e hx)
theorem VLe.tup {xs ys : List AV} (h : VLes xs ys) : VLe (.tup xs) (.tup ys) := fun I w p v hc => by
  obtain ⟨g1, g2⟩ := h.get
  cases hc with
  | tup hl h =>
    refine .tup (by rw [← g1, hl]) fun i v y e e' => ?_
    obtain ⟨x, hx, hxy⟩ := g2 i y e'
    exact hxy _ _ _ _ (h i v x e hx)
theorem SemLe.vles {GT : Ctx} {sl sl' : List AV} {os : List Obj} (h : VLes sl sl') : SemLe GT ⟨sl, os⟩ ⟨sl', os⟩ := fun B a w hs => by
  obtain ⟨p, I, hsim, h1, h2, h3⟩ := hs
  obtain ⟨g1, g2⟩ := h.get
  refine ⟨p, I, { hsim with size := by rw [hsim.size]; exact g1, slot := fun i v y e e' => ?_, obj := hsim.obj }, h1, h2, h3⟩
  obtain ⟨x, hx, hxy⟩ := g2 i y e'
  exact hxy _ _ _ _ (hsim.slot i v x e hx)
theorem VLes.set : ∀ {l : List AV} (t : Nat) {y : AV}, VLe (sget l t) y → VLes l (sset l t y)
  | [], _, _, _ => .nil
  | _a :: l, 0, _, h => .cons h (VLes.refl l)
  | a :: _l, t + 1, _, h => .cons (.refl a) (VLes.set t h)
theorem SemLe.slot {GT : Ctx} {sl : List AV} {os : List Obj} (t : Nat) {y : AV} (h : VLe (sget sl t) y) : SemLe GT ⟨sl, os⟩ ⟨sset sl t y, os⟩ := SemLe.vles (VLes.set t h)

/-- Slots of which nothing is said any more. -/
def topL : List Nat → List AV → List AV
  | [], l => l
  | d :: ds, l => topL ds (sset l d .top)
/-- Slots that are given values. -/
def setL : List (Nat × AV) → List AV → List AV
  | [], l => l
  | (d, v) :: ds, l => setL ds (sset l d v)
/-- Numbers from a to b. -/
def upto (a b : Nat) : List Nat := List.range' a (b + 1 - a)
/-- The slots at a loop's head. -/
def headS (forget : List Nat) (vars : List (Nat × AV)) (sl : List AV) : List AV := setL vars (topL forget sl)

section
variable {P : Program} {GT : Ctx} {s : St} {k : List Item} {Q : Exit → St → Prop}
/-- A loop: what is forgotten of the state, what is known of some slots, and the objects. -/
theorem J_for {ι : Type} {c : Code} {sl : List AV} {os : List Obj} (forget : List Nat) (vars : ι → List (Nat × AV)) (objs : ι → List Obj) (ok : ι → Prop) (μ : ι → Nat) (i0 : ι) (hok : ok i0)
    (h0 : SemLe GT ⟨sl, os⟩ ⟨headS forget (vars i0) sl, objs i0⟩)
    (hr : ∀ i, ok i → J P GT [.code c] ⟨headS forget (vars i) sl, objs i⟩ (endQ P GT k Q (LoopEnd GT (fun j => ⟨headS forget (vars j) sl, objs j⟩) ok μ i))) : J P GT (.code (.loop c) :: k) ⟨sl, os⟩ Q :=
  J_loops (fun j => ⟨headS forget (vars j) sl, objs j⟩) ok μ i0 hok h0 hr
/-- A piece of code whose ways meet again behind it. -/
theorem J_merge {c : Code} {sl : List AV} {os : List Obj} (forget : List Nat) (vars : List (Nat × AV)) (objs : List Obj) (h : J P GT [.code c] ⟨sl, os⟩ (endQ P GT k Q (fun s' => SemLe GT s' ⟨headS forget vars sl, objs⟩)))
    (hk : J P GT k ⟨headS forget vars sl, objs⟩ Q) : J P GT (.code c :: k) ⟨sl, os⟩ Q :=
  J_cut (R := fun s' => SemLe GT s' ⟨headS forget vars sl, objs⟩) (h.mono fun e s hq => by cases e <;> first | exact hq | (simp only [endQ] at hq; exact hq)) fun s hs => J_sem hs hk
theorem LoopEnd.mk {ι : Type} {S : ι → St} {ok : ι → Prop} {μ : ι → Nat} {i : ι} {s' : St} (j : ι) (hok : ok j) (hμ : μ j < μ i) (hle : s'.le (S j)) (hg : GT.given ≤ (S j).objs.length) : LoopEnd GT S ok μ i s' := ⟨j, hok, hμ, .le hle hg⟩
end
theorem leSlots_take {s' : St} {a b : AV} {l m : List AV} (h1 : a = b) (h2 : b.keeps s' = true) : leSlots s' (a :: l) (b :: m) = leSlots s' l m := by
  simp [leSlots, h1, h2]
theorem leObjs_nil {s' : St} {l : List Obj} : leObjs s' l [] = True := by simp [leObjs]
theorem leObjs_cons {s' : St} {a b : Obj} {l m : List Obj} : leObjs s' (a :: l) (b :: m) = (a.le s' b ∧ leObjs s' l m) := rfl
attribute [go_sem] topL setL headS upto List.range'_succ List.range'_zero leObjs_nil leObjs_cons Int.natCast_add Int.cast_ofNat_Int

/-- Less said of a result. -/
def Weak (R : AV → List Obj → Prop) (r : AV) (os : List Obj) : Prop := ∃ r2, VLe r r2 ∧ R r2 os
theorem Holds.val {P : Program} {GT : Globs} {f : FuncId} {args : List AV} {objs : List Obj} {R : AV → List Obj → Prop} (h : Holds P GT f args objs (Weak R)) : Holds P GT f args objs R :=
  ⟨h.1, fun w I vs q0 h1 h2 h3 h4 h5 => (h.2 w I vs q0 h1 h2 h3 h4 h5).mono fun _ _ ⟨v, q, I', _r, os, ⟨r2, hv, hR⟩, g1, g2, g3, g4, g5, g6, rest⟩ => ⟨v, q, I', r2, os, hR, g1, g2, g3, g4, g5, hv _ _ _ _ g6, rest⟩⟩
/-- The contract of a function out of its body, where less may be said of the result. -/
theorem holds_ofV {P : Program} {tab : Globs} {f : FuncId} {fn : Func} {c : Code} {args : List AV} {objs : List Obj} {R : AV → List Obj → Prop} (hf : P.funcs[f]? = some fn) (hb : fn.body = some c) (hname : (fn.name == "runtime.NumGoroutine") = false)
    (h : J P ⟨tab, objs.length⟩ [.code c] ⟨args ++ List.replicate (fn.ntmps - args.length) .top, objs⟩ (FinQ P ⟨tab, objs.length⟩ fn.results.toList (Weak R))) : Holds P tab f args objs R :=
  (holds_of hf hb hname h).val

mutual
theorem AV.keeps_imm (s : St) : ∀ x : AV, x.imm = true → x.keeps s = true
  | .agg cs, h => by rw [AV.keeps]; exact AV.keepsL_imm s cs (by simpa [AV.imm] using h)
  | .tup cs, h => by rw [AV.keeps]; exact AV.keepsL_imm s cs (by simpa [AV.imm] using h)
  | .clo fn as bs, h => by
    simp only [AV.imm, Bool.and_eq_true] at h
    rw [AV.keeps, AV.keepsL_imm s as h.1, AV.keepsL_imm s bs h.2]; rfl
  | .own .., h => by cases h
  | .ref .., h => by cases h
  | .eref .., h => by cases h
  | .mref .., h => by cases h
  | .top, _ => rfl
  | .raw _, _ => rfl
  | .lst _ _, _ => rfl
  | .cptr _, _ => rfl
theorem AV.keepsL_imm (s : St) : ∀ l : List AV, AV.immL l = true → AV.keepsL s l = true
  | [], _ => rfl
  | a :: l, h => by
    simp only [AV.immL, Bool.and_eq_true] at h
    rw [AV.keepsL, AV.keeps_imm s a h.1, AV.keepsL_imm s l h.2]; rfl
end
theorem getD_map {α β : Type} {f : α → β} {l : List α} {i : Nat} {d : β} (h : i < l.length) : (l.map f).getD i d = f l[i] := by
  rw [List.getD_eq_getElem?_getD, List.getElem?_map, List.getElem?_eq_getElem h]; rfl
theorem getD_at {α : Type} {l : List α} {i : Nat} {d : α} (h : i < l.length) : l.getD i d = l[i] := by
  rw [List.getD_eq_getElem?_getD, List.getElem?_eq_getElem h]; rfl
theorem len_map {α β : Type} {f : α → β} {l : List α} : (l.map f).length = l.length := by simp

/- Short names, for walks. -/
section
variable {P : Program} {GT : Ctx} {Q : Exit → St → Prop} {n : Nat} {all : Array Oper} {i : Nat} {rest : List Oper} {k : List Item} {s : St}
theorem cB {c : Operand} {a b : Code} {t : Bool} (h1 : t = true → W P GT Q n (.code (.code a :: k)) (s.know c true)) (h2 : t = false → W P GT Q n (.code (.code b :: k)) (s.know c false)) : condW P GT Q n c a b k s (.raw (.bool t)) := condW_by h1 h2
theorem cD {c : Operand} {a b : Code} {t : Prop} {_ : Decidable t} (h1 : t → W P GT Q n (.code (.code a :: k)) (s.know c true)) (h2 : ¬ t → W P GT Q n (.code (.code b :: k)) (s.know c false)) : condW P GT Q n c a b k s (.raw (.bool (decide t))) := condW_dec h1 h2
theorem cN {c : Operand} {a b : Code} {t : Prop} {_ : Decidable t} (h1 : ¬ t → W P GT Q n (.code (.code a :: k)) (s.know c true)) (h2 : t → W P GT Q n (.code (.code b :: k)) (s.know c false)) : condW P GT Q n c a b k s (.raw (.bool (!decide t))) := condW_ndec h1 h2
theorem gB {o : Oper} {t : Nat} {want b : Bool} (h1 : b = want → guardW P GT Q n all i o rest k (s.know (.tmp t) want) t want (.raw (.bool want))) (h2 : b = (!want) → W P GT Q n (.ops all i rest k) ((s.know (.tmp t) (!want)).put o.dst (.raw undef))) : guardW P GT Q n all i o rest k s t want (.raw (.bool b)) := guardW_by h1 h2
theorem gDt {o : Oper} {t : Nat} {b : Prop} {_ : Decidable b} (h1 : b → guardW P GT Q n all i o rest k (s.know (.tmp t) true) t true (.raw (.bool true))) (h2 : ¬ b → W P GT Q n (.ops all i rest k) ((s.know (.tmp t) false).put o.dst (.raw undef))) : guardW P GT Q n all i o rest k s t true (.raw (.bool (decide b))) := guardW_dect h1 h2
theorem gDf {o : Oper} {t : Nat} {b : Prop} {_ : Decidable b} (h1 : ¬ b → guardW P GT Q n all i o rest k (s.know (.tmp t) false) t false (.raw (.bool false))) (h2 : b → W P GT Q n (.ops all i rest k) ((s.know (.tmp t) true).put o.dst (.raw undef))) : guardW P GT Q n all i o rest k s t false (.raw (.bool (decide b))) := guardW_decf h1 h2
theorem gNt {o : Oper} {t : Nat} {b : Prop} {_ : Decidable b} (h1 : ¬ b → guardW P GT Q n all i o rest k (s.know (.tmp t) true) t true (.raw (.bool true))) (h2 : b → W P GT Q n (.ops all i rest k) ((s.know (.tmp t) false).put o.dst (.raw undef))) : guardW P GT Q n all i o rest k s t true (.raw (.bool (!decide b))) := guardW_ndect h1 h2
theorem gNf {o : Oper} {t : Nat} {b : Prop} {_ : Decidable b} (h1 : b → guardW P GT Q n all i o rest k (s.know (.tmp t) false) t false (.raw (.bool false))) (h2 : ¬ b → W P GT Q n (.ops all i rest k) ((s.know (.tmp t) true).put o.dst (.raw undef))) : guardW P GT Q n all i o rest k s t false (.raw (.bool (!decide b))) := guardW_ndecf h1 h2
theorem rC {c : Operand} {a b : Code} (h : W P GT Q 200 (.code (.code (.cond c a b) :: k)) s) : J P GT (.code (.cond c a b) :: k) s Q := J_run 200 h
theorem rR (h : W P GT Q 200 (.code (.code .ret :: k)) s) : J P GT (.code .ret :: k) s Q := J_run 200 h
theorem rE {id : Nat} (h : W P GT Q 200 (.code (.code (.exit id) :: k)) s) : J P GT (.code (.exit id) :: k) s Q := J_run 200 h
theorem rG {id : Nat} {l : List Oper} (h : W P GT Q 200 (.ops l.toArray 0 l k) s) : J P GT (.code (.region id l.toArray false) :: k) s Q := J_reg 200 h
end
end Go.Proofs.YtmfgaefefgnhbaaGreatDoor.Abs
namespace Go.Proofs.YtmfgaefefgnhbaaGreatDoor.Abs
set_option linter.unusedSimpArgs false
set_option linter.unusedVariables false
open Go Go.RowKit

section
variable {P : Program}

theorem conc_raw_eq {I : Nat → Prop} {w : World} {q : Place} {v u : Value} (h : Conc I w q v (.raw u)) : v = u := by cases h; rfl

/-- A function that returns one value and writes nothing that was there. -/
theorem below_of {f : FuncId} {args : List AV} {u : Value} (h : Fn1 P [] f args (.raw u) []) {vs : Array Value} {w : World} (hsz : vs.size = args.length)
    (hargs : ∀ (i : Nat) (v : Value) (a : AV), vs[i]? = some v → args[i]? = some a → Conc (fun b => b < w.heap.size) w noPlace v a) :
    Calls P f vs w fun e w' => e = .returned u ∧ Below w.heap.size w w' := by
  refine (h.2 w (fun b => b < w.heap.size) vs noPlace hsz hargs ?_ (fun _ h => h) (fun _ _ h => (by cases h))).mono ?_
  · refine ⟨fun id => ?_, fun i j r r' e => ?_, fun i r e => ?_⟩
    · simp [ObjConc, noPlace]
    · cases e
    · cases e
  · rintro e w' ⟨v, q, I', r, os, ⟨rfl, rfl⟩, rfl, hf, _, _, _, hc, _, _⟩
    refine ⟨by rw [conc_raw_eq hc], hf.os, hf.tape, hf.output, hf.size, fun k hk => hf.block k hk ?_⟩
    rintro ⟨i, r, e, _⟩
    cases e

/-- What is known of a slice of integers that came in. -/
def IsRow (k : IntKind) (w : World) (a : Option Addr) (len cap : Nat) (zs : List Int) : Prop :=
  (a = none ∧ len = 0 ∧ cap = 0 ∧ zs = []) ∨
  ∃ x, a = some x ∧ len ≤ cap ∧ cap ≤ maxLen ∧ zs.length = cap ∧ (∀ i, i < zs.length → w.cell? (x.add i) = some (.int k (zs.getD i 0))) ∧ ∀ n ∈ zs, (Lit.int k n).wf = true

def encI (k : IntKind) (n : Int) : List AV := [.raw (.int k n)]
theorem conc_row {k : IntKind} {w : World} {q : Place} {a : Option Addr} {len cap : Nat} {zs : List Int} (h : IsRow k w a len cap zs) :
    Conc (fun b => b < w.heap.size) w q (.slice a len cap) (.lst 1 ((zs.take len).map (encI k))) := by
  rcases h with ⟨rfl, rfl, rfl, rfl⟩ | ⟨x, rfl, hl, hm, hz, hcell, _⟩
  · refine .lst (f := fun _ _ => .bool false) rfl (Nat.le_refl _) (Nat.zero_le _) (by simp) (.inl rfl) (by simp) (by simp)
  · have hlen : ((zs.take len).map (encI k)).length = len := by simp; omega
    by_cases h0 : len = 0
    · subst h0
      exact .lst (f := fun _ _ => .bool false) (by simp) hl hm (by simp) (.inl (by simp)) (by simp) (by simp)
    · obtain ⟨b, off, spot⟩ := x
      have hc := hcell 0 (by omega)
      have hspot : spot = none := by simpa [Addr.add] using World.cell?_spot hc
      subst hspot
      refine .lst (f := fun i _ => .int k (zs.getD i 0)) hlen.symm hl hm (fun y hy => by obtain ⟨z, _, rfl⟩ := List.mem_map.1 hy; rfl) (.inr ⟨b, off, rfl, ?_, fun i j hi hj => ?_⟩) (fun i j _ _ => rfl) fun i j x a e e' => ?_
      · rcases Nat.lt_or_ge b w.heap.size with h | h
        · exact h
        · simp [Addr.add, World.cell?, Array.getElem?_eq_none h] at hc
      · have hj0 : j = 0 := by omega
        subst hj0
        have := hcell i (by omega)
        have e : (⟨b, off, none⟩ : Addr).add i = ⟨b, off + i * 1 + 0, none⟩ := by
          by_cases hi0 : i = 0 <;> simp [Addr.add, hi0]
        rwa [e] at this
      · have hi : i < len := by
          rcases Nat.lt_or_ge i len with h | h
          · exact h
          · rw [List.getElem?_eq_none (by omega)] at e; cases e
        rw [List.getElem?_map, List.getElem?_take, if_pos hi, List.getElem?_eq_getElem (by omega)] at e
        simp only [Option.map_some, Option.some.injEq] at e
        subst e
        rcases j with _ | j
        · simp only [encI, List.getElem?_cons_zero, Option.some.injEq] at e'
          subst e'
          simp only [List.getD_eq_getElem?_getD, List.getElem?_eq_getElem (show i < zs.length by omega), Option.getD_some]
          exact .raw
        · simp [encI] at e'
end
end Go.Proofs.YtmfgaefefgnhbaaGreatDoor.Abs
namespace Go.Proofs.YtmfgaefefgnhbaaGreatDoor.Abs
set_option linter.unusedSimpArgs false
set_option linter.unusedVariables false
open Go Go.RowKit

/-- Shapes of types. -/
inductive Sh where
  | int (k : IntKind)
  | bool
  | str
  | unit
  | pair (a b : Sh)
  | slice (e : Sh)

/-- The data of a shape. -/
def Sh.Den : Sh → Type
  | .int _ => Int
  | .bool => Bool
  | .str => ByteArray
  | .unit => Unit
  | .pair a b => a.Den × b.Den
  | .slice e => List e.Den
/-- How many cells it has. -/
def Sh.size : Sh → Nat
  | .int _ => 1
  | .bool => 1
  | .str => 1
  | .unit => 0
  | .pair a b => a.size + b.size
  | .slice _ => 1
def Sh.enc : (s : Sh) → s.Den → List AV
  | .int k, n => [.raw (.int k n)]
  | .bool, b => [.raw (.bool b)]
  | .str, s => [.raw (.string s)]
  | .unit, _ => []
  | .pair a b, (x, y) => a.enc x ++ b.enc y
  | .slice e, (xs : List e.Den) => [.lst e.size (xs.map e.enc)]
/-- What is known of data that came in. -/
def Sh.Ok : (s : Sh) → s.Den → Prop
  | .int k, n => (Lit.int k n).wf = true
  | .bool, _ => True
  | .str, (s : ByteArray) => s.size ≤ maxLen
  | .unit, _ => True
  | .pair a b, (x, y) => a.Ok x ∧ b.Ok y
  | .slice e, (xs : List e.Den) => xs.length ≤ maxLen ∧ ∀ x, x ∈ xs → e.Ok x
/-- The value of an argument. -/
def Sh.av : (s : Sh) → s.Den → AV
  | .pair a b, d => .agg ((Sh.pair a b).enc d)
  | .unit, d => .agg (Sh.unit.enc d)
  | .int k, n => .raw (.int k n)
  | .bool, b => .raw (.bool b)
  | .str, s => .raw (.string s)
  | .slice e, (xs : List e.Den) => .lst e.size (xs.map e.enc)

theorem Sh.enc_len : (s : Sh) → (d : s.Den) → (s.enc d).length = s.size
  | .int _, _ => rfl
  | .bool, _ => rfl
  | .str, _ => rfl
  | .unit, _ => rfl
  | .pair a b, (x, y) => by simp [Sh.enc, Sh.size, Sh.enc_len a x, Sh.enc_len b y]
  | .slice _, _ => rfl

/-- Whether a type, or the fields of one from a cell on, have a shape. -/
def Sh.fit (P : Program) : Sh → (TypeId → Bool) × (List Field → Nat → Bool)
  | .int k => (fun t => match P.underlying t with | some (.int k') => decide (k' = k) | _ => false, fun _ _ => false)
  | .bool => (fun t => match P.underlying t with | some .bool => true | _ => false, fun _ _ => false)
  | .str => (fun t => match P.underlying t with | some .string => true | _ => false, fun _ _ => false)
  | .slice e => (fun t => match P.underlying t with | some (.slice u) => P.cellsOf u == e.size && decide (0 < e.size) && (e.fit P).1 u | _ => false, fun _ _ => false)
  | .unit => (fun _ => false, fun fs _ => fs.isEmpty)
  | .pair a b => (fun t => match P.underlying t with
      | some (.struct fs) => P.cellsOf t == a.size + b.size && (match fs.toList with
        | f :: rest => f.offset == 0 && P.cellsOf f.type == a.size && (a.fit P).1 f.type && (b.fit P).2 rest a.size
        | [] => false)
      | _ => false,
    fun fs off => match fs with
      | f :: rest => f.offset == off && P.cellsOf f.type == a.size && (a.fit P).1 f.type && (b.fit P).2 rest (off + a.size)
      | [] => false)

section
variable {H : Type} {enc : TypeId × Value → H} {P : Program} {w : World} {spare : Nat → Bool}

/-- Cells, and what is said of them. -/
def Opens (w : World) (cs : List Value) (as : List AV) : Prop :=
  as.length = cs.length ∧ ∀ (i : Nat) (v : Value) (a : AV), cs[i]? = some v → as[i]? = some a → v.oneCell' = true ∧ Conc (fun b => b < w.heap.size) w noPlace v a

theorem Opens.one {v : Value} {a : AV} (h1 : v.oneCell' = true) (h : Conc (fun b => b < w.heap.size) w noPlace v a) : Opens w [v] [a] := by
  refine ⟨rfl, fun i u x e e' => ?_⟩
  rcases i with _ | i
  · simp at e e'; subst e; subst e'; exact ⟨h1, h⟩
  · simp at e
theorem Opens.append {cs cs' : List Value} {as as' : List AV} (h : Opens w cs as) (h' : Opens w cs' as') : Opens w (cs ++ cs') (as ++ as') := by
  refine ⟨by simp [h.1, h'.1], fun i v a e e' => ?_⟩
  rw [List.getElem?_append] at e e'
  rw [h.1] at e'
  split at e
  · rename_i hi
    rw [if_pos hi] at e'
    exact h.2 i v a e e'
  · rename_i hi
    rw [if_neg hi] at e'
    exact h'.2 _ v a e e'

theorem add_cell {b off k j : Nat} : ((⟨b, off, none⟩ : Addr).add k).add j = ⟨b, off + k + j, none⟩ := by
  by_cases hk : k = 0 <;> by_cases hj : j = 0 <;> simp [Addr.add, hk, hj]

theorem collect {α : Type} {p : Nat → α → Prop} : ∀ n : Nat, (∀ i, i < n → ∃ d, p i d) → ∃ xs : List α, xs.length = n ∧ ∀ i (hi : i < xs.length), p i xs[i]
  | 0, _ => ⟨[], rfl, fun i hi => by simp at hi⟩
  | n + 1, h => by
    obtain ⟨xs, h1, h2⟩ := collect n fun i hi => h i (by omega)
    obtain ⟨d, hd⟩ := h n (by omega)
    refine ⟨xs ++ [d], by simp [h1], fun i hi => ?_⟩
    rw [List.getElem_append]
    split
    · exact h2 i (by assumption)
    · have hi' : i = n := by simp at hi; omega
      subst hi'
      simpa using hd

/-- The reading of a value, or of the fields of one, gives data of its shape. -/
theorem open_both : (s : Sh) →
    (∀ (t : TypeId) (n : Nat) (cs : List Value) (x : DataW H × List MemPlace), (s.fit P).1 t = true → DataW.trod enc P w 0 spare true n t cs = some x → ∃ d : s.Den, s.Ok d ∧ Opens w cs (s.enc d)) ∧
    (∀ (fs : List Field) (off n : Nat) (cs : List Value), (s.fit P).2 fs off = true → cs.length = off + s.size →
      (∀ f, f ∈ fs → ∃ y, DataW.trod enc P w 0 spare true n f.type ((cs.drop f.offset).take (P.cellsOf f.type)) = some y) → ∃ d : s.Den, s.Ok d ∧ Opens w (cs.drop off) (s.enc d)) := by
  intro s
  induction s with
  | int k =>
    refine ⟨fun t n cs x hf h => ?_, fun fs off n cs hf => by cases hf⟩
    simp only [Sh.fit] at hf
    split at hf
    · rename_i k' hu
      have hk : k' = k := of_decide_eq_true hf
      subst hk
      obtain ⟨m, rfl, _, hw⟩ := DataW.trod_int hu h
      exact ⟨m, hw, .one rfl .raw⟩
    · cases hf
  | bool =>
    refine ⟨fun t n cs x hf h => ?_, fun fs off n cs hf => by cases hf⟩
    simp only [Sh.fit] at hf
    split at hf
    · rename_i hu
      obtain ⟨m, rfl, _⟩ := DataW.trod_bool hu h
      exact ⟨m, trivial, .one rfl .raw⟩
    · cases hf
  | str =>
    refine ⟨fun t n cs x hf h => ?_, fun fs off n cs hf => by cases hf⟩
    simp only [Sh.fit] at hf
    split at hf
    · rename_i hu
      obtain ⟨m, rfl, _, hw⟩ := DataW.trod_string hu h
      exact ⟨m, hw, .one rfl .raw⟩
    · cases hf
  | unit =>
    refine ⟨fun t n cs x hf h => (by cases hf), fun fs off n cs hf hl _ => ⟨(), trivial, ?_⟩⟩
    have : cs.drop off = [] := List.drop_eq_nil_of_le (by simp [Sh.size] at hl; omega)
    rw [this]
    exact ⟨rfl, fun i v a e => by simp at e⟩
  | slice e ih =>
    refine ⟨fun t n cs x hf h => ?_, fun fs off n cs hf => by cases hf⟩
    simp only [Sh.fit] at hf
    split at hf
    · rename_i u hu
      simp only [Bool.and_eq_true, beq_iff_eq, decide_eq_true_eq] at hf
      obtain ⟨⟨hc, hpos⟩, hfe⟩ := hf
      rcases DataW.trod_slice hu h with ⟨rfl, _⟩ | ⟨a, len, cap, elems, rest, m, _, rfl, _, hb, hl, hm, hlen, hel, _, _⟩
      · refine ⟨([] : List e.Den), ⟨Nat.zero_le _, fun x hx => (by cases hx)⟩, .one rfl ?_⟩
        exact .lst (f := fun _ _ => .bool false) rfl (Nat.le_refl _) (Nat.zero_le _) (by simp) (.inl rfl) (by simp) (by simp)
      · have each : ∀ i, i < len → ∃ cs' d, w.cells? 0 (a.add (i * e.size)) e.size = some cs' ∧ e.Ok d ∧ Opens w cs' (e.enc d) := by
          intro i hi
          have h1 := hel i hi
          rw [List.getElem?_eq_getElem (by omega), Option.bind_eq_some_iff] at h1
          obtain ⟨cs', h2, h3⟩ := h1
          obtain ⟨d, h4, h5⟩ := ih.1 u m cs' _ hfe h3
          rw [hc] at h2
          exact ⟨cs', d, h2, h4, h5⟩
        have hxs : ∃ xs : List e.Den, xs.length = len ∧ ∀ i (hi : i < xs.length), e.Ok xs[i] ∧ ∃ cs', w.cells? 0 (a.add (i * e.size)) e.size = some cs' ∧ Opens w cs' (e.enc xs[i]) := by
          exact collect (p := fun i d => e.Ok d ∧ ∃ cs', w.cells? 0 (a.add (i * e.size)) e.size = some cs' ∧ Opens w cs' (e.enc d)) len fun i hi => by
            obtain ⟨cs', d, h1, h2, h3⟩ := each i hi
            exact ⟨d, h2, cs', h1, h3⟩
        obtain ⟨xs, hxl, hxs⟩ := hxs
        refine ⟨xs, ⟨by omega, fun x hx => ?_⟩, .one rfl ?_⟩
        · obtain ⟨i, hi, rfl⟩ := List.mem_iff_getElem.1 hx
          exact (hxs i hi).1
        · by_cases h0 : len = 0
          · subst h0
            have : xs = [] := List.length_eq_zero_iff.1 hxl
            subst this
            exact .lst (f := fun _ _ => .bool false) rfl hl hm (by simp) (.inl rfl) (by simp) (by simp)
          · obtain ⟨b, off, spot⟩ := a
            have hcell : ∀ i j, i < xs.length → j < e.size → ∃ v y, w.cell? (((⟨b, off, spot⟩ : Addr).add (i * e.size)).add j) = some v ∧ (∀ (hi : i < xs.length), (e.enc xs[i])[j]? = some y) ∧ v.oneCell' = true ∧ Conc (fun b => b < w.heap.size) w noPlace v y := by
              intro i j hi hj
              obtain ⟨_, cs', h1, h2⟩ := hxs i hi
              obtain ⟨_, h3, h4⟩ := World.cells?_some h1
              have hj' : j < cs'.length := by omega
              have hj2 : j < (e.enc xs[i]).length := by rw [e.enc_len]; exact hj
              obtain ⟨h5, h6⟩ := h2.2 j _ _ (List.getElem?_eq_getElem hj') (List.getElem?_eq_getElem hj2)
              exact ⟨_, _, (h4 j hj).trans (List.getElem?_eq_getElem hj'), fun _ => List.getElem?_eq_getElem hj2, h5, h6⟩
            obtain ⟨v0, _, hc0, _⟩ := hcell 0 0 (by omega) hpos
            have hspot : spot = none := by simpa [Addr.add] using World.cell?_spot hc0
            subst hspot
            simp only [add_cell] at hcell hc0
            refine .lst (f := fun i j => (w.cell? ⟨b, off + i * e.size + j, none⟩).getD undef) (by simp [hxl]) hl hm (fun y hy => ?_) (.inr ⟨b, off, rfl, ?_, fun i j hi hj => ?_⟩) (fun i j hi hj => ?_) fun i j x y ex ey => ?_
            · obtain ⟨z, _, rfl⟩ := List.mem_map.1 hy
              exact e.enc_len z
            · rcases Nat.lt_or_ge b w.heap.size with h | h
              · exact h
              · simp [World.cell?, Array.getElem?_eq_none h] at hc0
            · rw [List.length_map] at hi
              obtain ⟨v, y, h1, _⟩ := hcell i j hi hj
              simp [h1]
            · rw [List.length_map] at hi
              obtain ⟨v, y, h1, _, h3, _⟩ := hcell i j hi hj
              simp [h1, h3]
            · rw [List.getElem?_map] at ex
              have hi : i < xs.length := by
                rcases Nat.lt_or_ge i xs.length with h | h
                · exact h
                · rw [List.getElem?_eq_none h] at ex; cases ex
              rw [List.getElem?_eq_getElem hi] at ex
              simp only [Option.map_some, Option.some.injEq] at ex
              subst ex
              have hj : j < e.size := by
                have := (List.getElem?_eq_some_iff.1 ey).1
                rwa [e.enc_len] at this
              obtain ⟨v, z, h1, h2, _, h4⟩ := hcell i j hi hj
              rw [h2 hi] at ey
              injection ey with ey
              subst ey
              simpa [h1] using h4
    · cases hf
  | pair a b iha ihb =>
    have fields : ∀ (fs : List Field) (off n : Nat) (cs : List Value), ((Sh.pair a b).fit P).2 fs off = true → cs.length = off + (a.size + b.size) →
        (∀ f, f ∈ fs → ∃ y, DataW.trod enc P w 0 spare true n f.type ((cs.drop f.offset).take (P.cellsOf f.type)) = some y) → ∃ d : (Sh.pair a b).Den, (Sh.pair a b).Ok d ∧ Opens w (cs.drop off) ((Sh.pair a b).enc d) := by
      intro fs off n cs hf hl h
      simp only [Sh.fit] at hf
      split at hf
      · rename_i f rest
        simp only [Bool.and_eq_true, beq_iff_eq] at hf
        obtain ⟨⟨⟨h1, h2⟩, h3⟩, h4⟩ := hf
        obtain ⟨y, hy⟩ := h f (List.mem_cons_self ..)
        obtain ⟨d, hd, ho⟩ := iha.1 _ _ _ _ h3 hy
        obtain ⟨d', hd', ho'⟩ := ihb.2 rest (off + a.size) n cs h4 (by omega) fun g hg => h g (List.mem_cons_of_mem _ hg)
        refine ⟨(d, d'), ⟨hd, hd'⟩, ?_⟩
        have := ho.append ho'
        rw [h1, h2, ← List.drop_drop, List.take_append_drop] at this
        exact this
      · cases hf
    refine ⟨fun t n cs x hf h => ?_, fields⟩
    simp only [Sh.fit] at hf
    split at hf
    · rename_i fs hu
      obtain ⟨xs, m, _, _, hl, hxl, hxs⟩ := DataW.trod_struct hu h
      simp only [Bool.and_eq_true, beq_iff_eq] at hf
      obtain ⟨hsz, hf⟩ := hf
      have := fields fs.toList 0 m cs (by simpa [Sh.fit] using hf) (by omega) fun f hfm => by
        obtain ⟨i, hi, rfl⟩ := List.mem_iff_getElem.1 hfm
        have hi' : i < fs.size := by simpa using hi
        have := hxs i _ (Array.getElem?_eq_getElem hi')
        rw [List.getElem?_eq_getElem (by omega)] at this
        exact ⟨_, by simpa using this⟩
      simpa using this
    · cases hf

/-- An argument, opened. -/
theorem open_arg {base : Nat} (s : Sh) {t : TypeId} {v : Value} {d : DataW H} {ps : List MemPlace} (hf : (s.fit P).1 t = true) (hv : Value.okWide P w .any base t v) (h : DataW.Trod enc P w 0 spare true t v d ps) :
    ∃ d : s.Den, s.Ok d ∧ Conc (fun b => b < w.heap.size) w noPlace v (s.av d) := by
  obtain ⟨n, h⟩ := h
  obtain ⟨d, hd, ho⟩ := (open_both s).1 t n _ _ hf h
  refine ⟨d, hd, ?_⟩
  have one : ∀ (a : AV), Opens w v.cells.toList [a] → (∀ cs, v ≠ .agg cs) → Conc (fun b => b < w.heap.size) w noPlace v a := by
    intro a h1 h2
    have : v.cells = #[v] := by cases v <;> first | rfl | (exact absurd rfl (h2 _))
    rw [this] at h1
    exact (h1.2 0 v a rfl rfl).2
  have noagg : (∀ fs, P.underlying t ≠ some (.struct fs)) → (∀ n e, P.underlying t ≠ some (.array n e)) → ∀ cs, v ≠ .agg cs := by
    intro h1 h2 cs e
    subst e
    unfold Value.okWide at hv
    split at hv
    · rename_i hu; exact h1 _ hu
    · rename_i hu; exact h2 _ _ hu
    · unfold Cell.okWide at hv
      split at hv <;> simp_all [Cell.ok]
  cases s with
  | int k =>
    refine one _ ho (noagg (fun fs e => ?_) fun n u e => ?_) <;> simp [Sh.fit, e] at hf
  | bool => refine one _ ho (noagg (fun fs e => ?_) fun n u e => ?_) <;> simp [Sh.fit, e] at hf
  | str => refine one _ ho (noagg (fun fs e => ?_) fun n u e => ?_) <;> simp [Sh.fit, e] at hf
  | slice e => refine one _ ho (noagg (fun fs e => ?_) fun n u e => ?_) <;> simp [Sh.fit, e] at hf
  | unit => cases hf
  | pair a b =>
    simp only [Sh.fit] at hf
    split at hf
    · rename_i fs hu
      unfold Value.okWide at hv
      rw [hu] at hv
      obtain ⟨cs, rfl, _⟩ := hv
      refine .agg (by simpa [Value.cells] using ho.1) (fun i u e => ?_) fun i u y e e' => ?_
      · have e2 : (Value.agg cs).cells.toList[i]? = some u := by simpa [Value.cells] using e
        have hi := (List.getElem?_eq_some_iff.1 e2).1
        exact (ho.2 i u _ e2 (List.getElem?_eq_getElem (by rw [ho.1]; exact hi))).1
      · exact (ho.2 i u y (by simpa [Value.cells] using e) e').2
    · cases hf
end
end Go.Proofs.YtmfgaefefgnhbaaGreatDoor.Abs
namespace Go.Proofs.YtmfgaefefgnhbaaGreatDoor.Abs
set_option linter.unusedSimpArgs false
set_option linter.unusedVariables false
open Go Go.RowKit

/-- The object j comes to stand where i stood, which is dead. -/
def St.reloc (s : St) (i j : Nat) : St :=
  { slots := AV.leafsL (AV.ren fun k => some (if k = j then i else k)) s.slots, objs := ((s.objs.map (Obj.leafs (AV.ren fun k => some (if k = j then i else k)))).set i ((s.obj j).leafs (AV.ren fun k => some (if k = j then i else k)))).set j .dead }

section
variable {GT : Ctx} {w0 : World} {G : Nat → Prop} {p : Place} {I : Nat → Prop} {s : St} {a : Act} {w : World}
theorem Sim.reloc (h : Sim GT w0 G p I s a w) {i0 j0 : Nat} (hi : s.obj i0 = .dead) (hij : i0 ≠ j0) (hil : i0 < s.objs.length) (hjl : j0 < s.objs.length) : Sim GT w0 G ((p.with j0 none).with i0 (p j0)) I (s.reloc i0 j0) a w := by
  have hpi : p i0 = none := by have := h.obj i0; rw [hi] at this; exact this
  have hp1 : ((p.with j0 none).with i0 (p j0)) i0 = p j0 := Place.with_same _ _ _
  have hp2 : ((p.with j0 none).with i0 (p j0)) j0 = none := by rw [Place.with_other _ _ (Ne.symm hij), Place.with_same]
  have hp3 : ∀ i, i ≠ j0 → i ≠ i0 → ((p.with j0 none).with i0 (p j0)) i = p i := fun i h1 h2 => by rw [Place.with_other _ _ h2, Place.with_other _ _ h1]
  have hg : ∀ i j r, (some (if i = j0 then i0 else i)) = some j → p i = some r → ((p.with j0 none).with i0 (p j0)) j = some r := fun i j r hg hr => by
    injection hg with hg
    subst hg
    split
    · rename_i hi; subst hi; rw [hp1]; exact hr
    · rename_i hne
      rw [hp3 i hne (by rintro rfl; rw [hpi] at hr; cases hr)]; exact hr
  have hinv : ∀ i r, ((p.with j0 none).with i0 (p j0)) i = some r → ∃ i', p i' = some r ∧ ((i = i0 ∧ i' = j0) ∨ (i ≠ i0 ∧ i ≠ j0 ∧ i' = i)) := fun i r hi => by
    by_cases h1 : i = i0
    · subst h1; rw [hp1] at hi; exact ⟨j0, hi, .inl ⟨rfl, rfl⟩⟩
    · by_cases h2 : i = j0
      · subst h2; rw [hp2] at hi; cases hi
      · rw [hp3 i h2 h1] at hi; exact ⟨i, hi, .inr ⟨h1, h2, rfl⟩⟩
  have hconc : ∀ (v : Value) (x : AV), Conc I w p v x → Conc I w ((p.with j0 none).with i0 (p j0)) v (x.leafs (AV.ren fun i => some (if i = j0 then i0 else i))) :=
    fun v x hx => hx.ren _ (fun _ _ => rfl) (fun _ h => h) hg
  refine ⟨by simp [St.reloc, AV.leafsL_eq, h.size], fun i v x e e' => ?_, h.defers, fun j => ?_, fun i j r r' hi hj hl hl' hb => ?_, fun i r hi hl => ?_, h.imm, h.frame, h.glob, by have := h.given; simp [St.reloc]; omega⟩
  · simp only [St.reloc, AV.leafsL_eq] at e'
    obtain ⟨y, hy, rfl⟩ := map_get e'
    exact hconc v y (h.slot i v y e hy)
  · have hren := fun i k => (h.obj i).ren (id' := k) (p' := (p.with j0 none).with i0 (p j0)) (fun i => some (if i = j0 then i0 else i)) (fun _ _ => rfl) (fun _ h => h) (fun _ _ _ => rfl)
    by_cases h1 : j = i0
    · subst h1
      have : (s.reloc j j0).obj j = (s.obj j0).leafs (AV.ren fun i => some (if i = j0 then j else i)) := by
        simp only [St.obj, St.reloc, List.getD_eq_getElem?_getD]
        rw [List.getElem?_set_ne (Ne.symm hij), List.getElem?_set_self (by simpa using hil)]
        rfl
      rw [this]
      exact hren j0 _ hp1 hg
    · by_cases h2 : j = j0
      · subst h2
        have : (s.reloc i0 j).obj j = .dead := by
          simp only [St.obj, St.reloc, List.getD_eq_getElem?_getD]
          rw [List.getElem?_set_self (by simpa using hjl)]
          rfl
        rw [this]
        exact hp2
      · have : (s.reloc i0 j0).obj j = (s.obj j).leafs (AV.ren fun i => some (if i = j0 then i0 else i)) := by
          simp only [St.obj, St.reloc, List.getD_eq_getElem?_getD]
          rw [List.getElem?_set_ne (Ne.symm h2), List.getElem?_set_ne (Ne.symm h1), List.getElem?_map]
          cases s.objs[j]? <;> rfl
        rw [this]
        exact hren j _ (hp3 j h2 h1) hg
  · obtain ⟨i', hi', hii⟩ := hinv i r hi
    obtain ⟨j', hj', hjj⟩ := hinv j r' hj
    have := h.inj i' j' r r' hi' hj' hl hl' hb
    subst this
    rcases hii with ⟨rfl, rfl⟩ | ⟨_, h1, rfl⟩ <;> rcases hjj with ⟨rfl, h2⟩ | ⟨_, h3, h4⟩
    · rfl
    · exact absurd h4.symm h3
    · exact absurd h2 h1
    · exact h4
  · obtain ⟨i', hi', _⟩ := hinv i r hi
    exact h.own i' r hi' hl

theorem SemLe.reloc {i j : Nat} (hi : s.obj i = .dead) (hij : i ≠ j) (hil : i < s.objs.length) (hjl : j < s.objs.length) (hgi : GT.given ≤ i) (hgj : GT.given ≤ j) : SemLe GT s (s.reloc i j) := fun B a w hs => by
  obtain ⟨p, I, hsim, h1, h2, h3⟩ := hs
  refine ⟨_, I, hsim.reloc hi hij hil hjl, h1, h2, fun k hk => ?_⟩
  rw [Place.with_other _ _ (by omega), Place.with_other _ _ (by omega)]
  exact h3 k hk

/-- A nil slice in a variable gets a name. -/
def St.nilBox (s : St) (id off el : Nat) : St := match s.obj id with
  | .box cs => { s with objs := s.objs.set id (.box (sset cs off (.own s.objs.length el 0 0))) ++ [Obj.arr el []] }
  | _ => s
theorem SemLe.nilBox (id off el : Nat) {cs : List AV} (hob : s.obj id = .box cs) (hc : sget cs off = .raw (.slice none 0 0)) : SemLe GT s (s.nilBox id off el) := fun B a w hs => by
  obtain ⟨p, I, hsim, h1, h2, h3⟩ := hs
  have hid : id < s.objs.length := obj_lt (by rw [hob]; simp)
  have hn := hsim.newNil el ⟨0, 0, 0, 0, true⟩ rfl
  have hst : s.nilBox id off el = { s with objs := (s.objs ++ [Obj.arr el []]).set id (.box (sset cs off (.own s.objs.length el 0 0))) } := by
    simp only [St.nilBox, hob]
    rw [List.set_append_left _ _ hid]
  have hcs : cs[off]? = some (.raw (.slice none 0 0)) := by
    rw [← sget_eq, List.getD_eq_getElem?_getD] at hc
    cases hq : cs[off]? with
    | none => rw [hq] at hc; cases hc
    | some x => rw [hq] at hc; exact congrArg some hc
  rw [hst]
  refine ⟨_, I, ⟨hn.size, hn.slot, hn.defers, fun j => ?_, hn.inj, hn.own, hn.imm, hn.frame, hn.glob, by simpa using hn.given⟩, h1, h2, fun i hi => ?_⟩
  · by_cases hj : j = id
    · subst hj
      have e : ({ s with objs := (s.objs ++ [Obj.arr el []]).set j (.box (sset cs off (.own s.objs.length el 0 0))) } : St).obj j = .box (sset cs off (.own s.objs.length el 0 0)) := by
        simp only [St.obj, List.getD_eq_getElem?_getD]
        rw [List.getElem?_set_self (by simp; omega)]
        rfl
      rw [e]
      have hb := hn.obj j
      have e2 : ({ s with objs := s.objs ++ [Obj.arr el []] } : St).obj j = .box cs := by
        rw [← hob]
        simp only [St.obj, List.getD_eq_getElem?_getD]
        rw [List.getElem?_append_left hid]
      rw [e2] at hb
      obtain ⟨r, c, E, g1, g2, g3, g4, g5⟩ := hb
      refine ⟨r, c, E, g1, g2, g3, by rw [← sset_eq]; simpa using g4, fun k y ey => ?_⟩
      rw [← sset_eq, List.getElem?_set] at ey
      split at ey
      · rename_i hk
        subst hk
        split at ey
        · injection ey with ey
          subst ey
          obtain ⟨v, q1, q2, q3⟩ := g5 off _ hcs
          have hv := conc_raw q3
          refine ⟨v, q1, q2, ?_⟩
          rw [hv]
          exact .own (Nat.le_refl _) (by simp [maxLen]) (Place.with_same _ _ _) (.inl ⟨rfl, rfl⟩)
        · cases ey
      · exact g5 k y ey
    · have e : ({ s with objs := (s.objs ++ [Obj.arr el []]).set id (.box (sset cs off (.own s.objs.length el 0 0))) } : St).obj j = ({ s with objs := s.objs ++ [Obj.arr el []] } : St).obj j := by
        simp only [St.obj, List.getD_eq_getElem?_getD]
        rw [List.getElem?_set_ne (Ne.symm hj)]
      rw [e]
      exact hn.obj j
  · have := hsim.given
    rw [Place.with_other _ _ (by omega)]
    exact h3 i hi
end
attribute [go_sem] St.reloc St.nilBox

/-- A new array that comes back, as an immutable slice. -/
def frzOwn (k : Nat) (xs : List (List AV)) : AV → AV
  | .own 0 k' lo n => if k' = k then .lst k ((xs.drop lo).take n) else .top
  | _ => .top
theorem Holds.lst {P : Program} {T : Globs} {f : FuncId} {args : List AV} {r : AV} (r' : AV) {k : Nat} {xs : List (List AV)} (h : Fn1 P T f args r [.arr k xs]) (hr : r.leafs (frzOwn k xs) = r') : Fn1 P T f args r' [] := by
  refine ⟨h.1, fun w I vs q0 h1 h2 h3 h4 h5 => (h.2 w I vs q0 h1 h2 h3 h4 h5).mono fun _ w' ⟨v, q, I', r1, os, ⟨e1, e2⟩, g1, g2, g3, g4, g5, g6, g7, _⟩ => ?_⟩
  subst e1; subst e2; subst hr
  have hob := g7.obj 0
  simp only [List.getD_cons_zero] at hob
  obtain ⟨r0, hr0, hcase⟩ := hob
  have hI : ∀ b, I' b → I' b ∨ (r0.nul = false ∧ r0.blk = b) := fun _ hb => .inl hb
  refine ⟨v, fun _ => none, fun b => I' b ∨ (r0.nul = false ∧ r0.blk = b), _, [], ⟨rfl, rfl⟩, g1, g2, fun b hb => .inl (g3 b hb), fun b hb => ?_, fun b hb => ?_, ?_, ⟨fun id => rfl, fun i j a b hi _ _ _ _ => (by cases hi), fun i a hi _ => (by cases hi)⟩, fun i hi => absurd hi (by simp)⟩
  · rcases hb with hb | ⟨hn, rfl⟩
    · exact g4 b hb
    · exact .inr (g7.own 0 r0 hr0 hn).1
  · rcases hb with hb | ⟨hn, rfl⟩
    · exact g5 b hb
    · exact (g7.own 0 r0 hr0 hn).2.1
  refine g6.leafs (fun _ _ => rfl) hI fun u x hx hc => ?_
  cases hc with
  | @own _ id k' lo m A c r2 hm hcm hr2 ho =>
    rcases id with _ | id
    · simp only [frzOwn]
      split
      · rename_i hkk
        subst hkk
        obtain rfl : r2 = r0 := Option.some.inj (hr2.symm.trans hr0)
        by_cases hm0 : m = 0
        · subst hm0
          exact .lst (f := fun _ _ => undef) (by simp) hm hcm (by simp) (.inl (by simp)) (by simp) (by simp)
        · obtain ⟨hnl, hA, hcap, hlen⟩ := ho.resolve_left fun h => by omega
          replace hA := hA.resolve_left (by omega)
          obtain ⟨hn, _⟩ | ⟨_, cs, E, hh, hl, hm', hsz, hk, hv⟩ := hcase
          · rw [hnl] at hn; cases hn
          have hyl : ((xs.drop lo).take m).length = m := by simp; omega
          have hcell : ∀ i j, i < m → j < k' → ∃ u, cs[r2.base + (lo + i) * k' + j]? = some u ∧ u.oneCell' = true := by
            intro i j hi hj
            have hlt : lo + i < xs.length := by omega
            have hkl := hk _ (List.getElem_mem hlt)
            obtain ⟨u, e1, e2, _⟩ := hv (lo + i) j _ _ (List.getElem?_eq_getElem hlt) (List.getElem?_eq_getElem (by omega))
            exact ⟨u, e1, e2⟩
          refine .lst (f := fun i j => (cs[r2.base + (lo + i) * k' + j]?).getD undef) hyl.symm hm hcm (fun y hy => hk y (List.mem_of_mem_drop (List.mem_of_mem_take hy))) (.inr ⟨r2.blk, r2.base + lo * k', hA, .inr ⟨hnl, rfl⟩, fun i j hi hj => ?_⟩) (fun i j hi hj => ?_) fun i j y z e e' => ?_
          · rw [hyl] at hi
            obtain ⟨u, e1, _⟩ := hcell i j hi hj
            have : r2.base + lo * k' + i * k' + j = r2.base + (lo + i) * k' + j := by rw [Nat.add_mul]; omega
            simp [World.cell?, hh, this, e1]
          · rw [hyl] at hi
            obtain ⟨u, e1, e2⟩ := hcell i j hi hj
            simp [e1, e2]
          · rw [List.getElem?_take] at e
            split at e
            · rw [List.getElem?_drop] at e
              obtain ⟨u, e1, _, e3⟩ := hv (lo + i) j y z e e'
              simpa [e1] using e3.mono (fun _ _ => rfl) hI fun _ _ h => h
            · cases e
      · exact .top
    · exact .top
  | ref h hl => exact .top
  | eref h hl => exact .top
  | mref h hl => exact .top
  | _ => cases hx
end Go.Proofs.YtmfgaefefgnhbaaGreatDoor.Abs
namespace Go.Proofs.YtmfgaefefgnhbaaGreatDoor.Abs
set_option linter.unusedSimpArgs false
set_option linter.unusedVariables false
open Go Go.RowKit

mutual
/-- The cells of a datum without memory of its own, at a type. -/
def fitD (P : Program) : Nat → TypeId → DataW Unit → Option (List Value)
  | 0, _, _ => none
  | n + 1, t, d => match P.underlying t with
    | some .bool => match d with
      | .lit (.bool b) => some [.bool b]
      | _ => none
    | some (.int k) => match d with
      | .lit (.int k' m) => if k' = k then some [.int k m] else none
      | _ => none
    | some .string => match d with
      | .lit (.string l) => some [.string ⟨l.toArray⟩]
      | _ => none
    | some (.struct fs) => match d with
      | .agg ds => (fitL P n (fs.toList.map fun f => (f.offset, f.type)) ds 0).bind fun vs => if vs.length = P.cellsOf t then some vs else none
      | _ => none
    | some (.array m e) => match d with
      | .agg ds => (fitL P n ((List.range m).map fun i => (i * P.cellsOf e, e)) ds 0).bind fun vs => if vs.length = P.cellsOf t then some vs else none
      | _ => none
    | _ => none
def fitL (P : Program) : Nat → List (Nat × TypeId) → List (DataW Unit) → Nat → Option (List Value)
  | 0, _, _, _ => none
  | _ + 1, [], [], _ => some []
  | n + 1, f :: fs, d :: ds, off => (fitD P n f.2 d).bind fun vs => (fitL P n fs ds (off + P.cellsOf f.2)).bind fun ws => if f.1 = off ∧ vs.length = P.cellsOf f.2 then some (vs ++ ws) else none
  | _ + 1, _, _, _ => none
end

section
variable {P : Program} {w : World}

theorem fit_sound (k : Nat) : (∀ (t : TypeId) (d : DataW Unit) (vs : List Value), fitD P k t d = some vs → ∀ (m : Nat) (cs : List Value) (ps : List MemPlace), DataW.trod (fun _ => ()) P w 0 (fun _ => true) false m t cs = some (d, ps) → cs = vs) ∧
    (∀ (fs : List (Nat × TypeId)) (ds : List (DataW Unit)) (off : Nat) (vs : List Value), fitL P k fs ds off = some vs → ∀ (m : Nat) (cs : List Value), off + vs.length = cs.length →
      (∀ (i : Nat) (f : Nat × TypeId) (d : DataW Unit), fs[i]? = some f → ds[i]? = some d → ∃ ps, DataW.trod (fun _ => ()) P w 0 (fun _ => true) false m f.2 ((cs.drop f.1).take (P.cellsOf f.2)) = some (d, ps)) → cs.drop off = vs) := by
  induction k with
  | zero => exact ⟨fun t d vs h => by simp [fitD] at h, fun fs ds off vs h => by simp [fitL] at h⟩
  | succ k ih =>
    constructor
    · intro t d vs h m cs ps ht
      unfold fitD at h
      split at h
      · rename_i hu
        obtain ⟨b, rfl, hx⟩ := DataW.trod_bool hu ht
        obtain ⟨rfl, _⟩ := Prod.mk.inj hx
        exact Option.some.inj h
      · rename_i k1 hu
        obtain ⟨b, rfl, hx, _⟩ := DataW.trod_int hu ht
        obtain ⟨rfl, _⟩ := Prod.mk.inj hx
        simp only [if_true] at h
        exact Option.some.inj h
      · rename_i hu
        obtain ⟨b, rfl, hx, _⟩ := DataW.trod_string hu ht
        obtain ⟨rfl, _⟩ := Prod.mk.inj hx
        simp only [Option.some.injEq] at h
        subst h
        rfl
      · rename_i fs hu
        obtain ⟨xs, n, _, hx, hl, hxl, hxs⟩ := DataW.trod_struct hu ht
        obtain ⟨rfl, _⟩ := Prod.mk.inj hx
        simp only [Option.bind_eq_some_iff] at h
        obtain ⟨ws, h1, h2⟩ := h
        split at h2
        · rename_i hlen
          obtain rfl := Option.some.inj h2
          have := ih.2 _ _ _ _ h1 n cs (by omega) fun i f d hf hd => by
            rw [List.getElem?_map] at hf hd
            cases hfi : fs.toList[i]? with
            | none => rw [hfi] at hf; cases hf
            | some g =>
              rw [hfi] at hf
              obtain rfl := Option.some.inj hf
              cases hdi : xs[i]? with
              | none => rw [hdi] at hd; cases hd
              | some y =>
                rw [hdi] at hd
                obtain rfl := Option.some.inj hd
                exact ⟨y.2, (hxs i g (by simpa using hfi)).trans hdi⟩
          simpa using this
        · cases h2
      · rename_i m' e hu
        obtain ⟨xs, n, _, hx, hl, hxl, hxs⟩ := DataW.trod_array hu ht
        obtain ⟨rfl, _⟩ := Prod.mk.inj hx
        simp only [Option.bind_eq_some_iff] at h
        obtain ⟨ws, h1, h2⟩ := h
        split at h2
        · rename_i hlen
          obtain rfl := Option.some.inj h2
          have := ih.2 _ _ _ _ h1 n cs (by omega) fun i f d hf hd => by
            rw [List.getElem?_map] at hf hd
            cases hfi : (List.range m')[i]? with
            | none => rw [hfi] at hf; cases hf
            | some g =>
              rw [hfi] at hf
              obtain rfl := Option.some.inj hf
              have hi : i < m' := by simpa using (List.getElem?_eq_some_iff.1 hfi).1
              have hg : g = i := by rw [List.getElem?_range hi] at hfi; exact (Option.some.inj hfi).symm
              subst hg
              cases hdi : xs[g]? with
              | none => rw [hdi] at hd; cases hd
              | some y =>
                rw [hdi] at hd
                obtain rfl := Option.some.inj hd
                exact ⟨y.2, (hxs g hi).trans hdi⟩
          simpa using this
        · cases h2
      · cases h
    · intro fs ds off vs h m cs hl hall
      cases fs with
      | nil =>
        cases ds with
        | nil =>
          simp only [fitL, Option.some.injEq] at h
          subst h
          exact List.drop_eq_nil_of_le (by simp at hl; omega)
        | cons d ds => simp [fitL] at h
      | cons f fs =>
        cases ds with
        | nil => simp [fitL] at h
        | cons d ds =>
          simp only [fitL, Option.bind_eq_some_iff] at h
          obtain ⟨v1, h1, v2, h2, h3⟩ := h
          split at h3
          · rename_i hc
            obtain rfl := Option.some.inj h3
            obtain ⟨ps, hp⟩ := hall 0 f d rfl rfl
            have e1 := ih.1 _ _ _ h1 _ _ _ hp
            have e2 := ih.2 _ _ _ _ h2 m cs (by simp at hl; omega) fun i f' d' hf hd => hall (i + 1) f' d' (by simpa using hf) (by simpa using hd)
            rw [hc.1] at e1
            rw [← e2, ← e1, ← List.drop_drop, List.take_append_drop]
          · cases h3
theorem lits_one : ∀ (k : Nat), (∀ (t : TypeId) (d : DataW Unit) (vs : List Value), fitD P k t d = some vs → ∀ v, v ∈ vs → v.oneCell' = true) ∧ (∀ (fs : List (Nat × TypeId)) (ds : List (DataW Unit)) (off : Nat) (vs : List Value), fitL P k fs ds off = some vs → ∀ v, v ∈ vs → v.oneCell' = true)
  | 0 => ⟨fun t d vs h => by simp [fitD] at h, fun fs ds off vs h => by simp [fitL] at h⟩
  | k + 1 => by
    have ih := lits_one k
    constructor
    · intro t d vs h v hv
      unfold fitD at h
      split at h
      · split at h
        · obtain rfl := Option.some.inj h; simp at hv; subst hv; rfl
        · cases h
      · split at h
        · split at h
          · obtain rfl := Option.some.inj h; simp at hv; subst hv; rfl
          · cases h
        · cases h
      · split at h
        · obtain rfl := Option.some.inj h; simp at hv; subst hv; rfl
        · cases h
      · split at h
        · simp only [Option.bind_eq_some_iff] at h
          obtain ⟨ws, h1, h2⟩ := h
          split at h2
          · obtain rfl := Option.some.inj h2; exact ih.2 _ _ _ _ h1 v hv
          · cases h2
        · cases h
      · split at h
        · simp only [Option.bind_eq_some_iff] at h
          obtain ⟨ws, h1, h2⟩ := h
          split at h2
          · obtain rfl := Option.some.inj h2; exact ih.2 _ _ _ _ h1 v hv
          · cases h2
        · cases h
      · cases h
    · intro fs ds off vs h v hv
      cases fs with
      | nil =>
        cases ds with
        | nil => simp only [fitL, Option.some.injEq] at h; subst h; cases hv
        | cons d ds => simp [fitL] at h
      | cons f fs =>
        cases ds with
        | nil => simp [fitL] at h
        | cons d ds =>
          simp only [fitL, Option.bind_eq_some_iff] at h
          obtain ⟨v1, h1, v2, h2, h3⟩ := h
          split at h3
          · obtain rfl := Option.some.inj h3
            rcases List.mem_append.1 hv with hv | hv
            · exact ih.1 _ _ _ h1 v hv
            · exact ih.2 _ _ _ _ h2 v hv
          · cases h3

/-- What is asked of package-level variables, out of what the row says that they read as. -/
theorem globs_of (laid : List (String × DataW Unit)) (GT : Globs) (hpl : (laid.all fun x => x.2.handleName?.isNone) = true) (h : laidMetH P laid w)
    (hgt : ∀ g cs, (g, cs) ∈ GT → ∃ n d t k vs, (n, d) ∈ laid ∧ P.globalNamed n = some g ∧ (P.globals[g]?).map (·.type) = some t ∧ fitD P k t d = some vs ∧ vs ≠ [] ∧ cs = vs.map .raw) :
    ∀ g cs, (g, cs) ∈ GT → Conc (fun b => b < w.heap.size) w noPlace (.pointer (some ⟨g, 0, none⟩)) (.cptr cs) := by
  rw [MakeChecks.laidMetH_plain _ _ _ hpl] at h
  obtain ⟨ps, h, _⟩ := h
  have key : ∀ (laid : List (String × DataW Unit)) (ps : List MemPlace), DataW.LaidVars P w laid ps → ∀ n d, (n, d) ∈ laid → ∃ g t cs fuel p, P.globalNamed n = some g ∧ (P.globals[g]?).map (·.type) = some t ∧ w.var? P n = some cs ∧ DataW.trod (fun _ => ()) P w 0 (fun _ => true) false fuel t cs.toList = some (d, p) := by
    intro laid
    induction laid with
    | nil => intro ps _ n d hm; cases hm
    | cons x laid ih =>
      intro ps hl n d hm
      obtain ⟨g, t, cs, fuel, p, q, h1, h2, h3, h4, h5, _⟩ := hl
      rcases List.mem_cons.1 hm with e | hm
      · subst e; exact ⟨g, t, cs, fuel, p, h1, h2, h3, h4⟩
      · exact ih q h5 n d hm
  intro g cs hm
  obtain ⟨n, d, t, k, vs, hl, hg, ht, hf, hne, rfl⟩ := hgt g cs hm
  obtain ⟨g', t', cs', fuel, p, h1, h2, h3, h4⟩ := key laid ps h n d hl
  obtain rfl := Option.some.inj (hg.symm.trans h1)
  obtain rfl := Option.some.inj (ht.symm.trans h2)
  have e := (fit_sound k).1 _ _ _ hf _ _ _ h4
  have one := (lits_one k).1 _ _ _ hf
  have hcell : ∀ j, j < vs.length → w.cell? ⟨g, 0 + j, none⟩ = some (vs.getD j undef) := fun j hj => by
    rw [World.var?_cell h1 h3, Nat.zero_add, ← Array.getElem?_toList, e, List.getElem?_eq_getElem hj]
    simp [List.getD_eq_getElem?_getD, hj]
  have hlt : g < w.heap.size := by
    have := hcell 0 (List.length_pos_iff.2 hne)
    rcases Nat.lt_or_ge g w.heap.size with h | h
    · exact h
    · simp [World.cell?, Array.getElem?_eq_none h] at this
  refine .cptr (f := fun j => vs.getD j undef) hlt (fun j hj => hcell j (by simpa using hj)) (fun j hj => ?_) fun j a ea => ?_
  · have hj' : j < vs.length := by simpa using hj
    simp only [List.getD_eq_getElem?_getD, List.getElem?_eq_getElem hj', Option.getD_some]
    exact one _ (List.getElem_mem hj')
  · rw [List.getElem?_map] at ea
    cases hj : vs[j]? with
    | none => rw [hj] at ea; cases ea
    | some v =>
      rw [hj] at ea
      obtain rfl := Option.some.inj ea
      simp only [List.getD_eq_getElem?_getD, hj, Option.getD_some]
      exact .raw

/-- A function that returns one value and writes nothing that was there. -/
theorem below_ofG {GT : Globs} {f : FuncId} {args : List AV} {u : Value} (h : Fn1 P GT f args (.raw u) []) {vs : Array Value} (hsz : vs.size = args.length)
    (hargs : ∀ (i : Nat) (v : Value) (a : AV), vs[i]? = some v → args[i]? = some a → Conc (fun b => b < w.heap.size) w noPlace v a)
    (hg : ∀ g cs, (g, cs) ∈ GT → Conc (fun b => b < w.heap.size) w noPlace (.pointer (some ⟨g, 0, none⟩)) (.cptr cs)) :
    Calls P f vs w fun e w' => e = .returned u ∧ Below w.heap.size w w' := by
  refine (h.2 w (fun b => b < w.heap.size) vs noPlace hsz hargs ?_ (fun _ h => h) hg).mono ?_
  · refine ⟨fun id => ?_, fun i j r r' e => ?_, fun i r e => ?_⟩
    · simp [ObjConc, noPlace]
    · cases e
    · cases e
  · rintro e w' ⟨v, q, I', r, os, ⟨rfl, rfl⟩, rfl, hf, _, _, _, hc, _, _⟩
    refine ⟨by rw [conc_raw_eq hc], hf.os, hf.tape, hf.output, hf.size, fun k hk => hf.block k hk ?_⟩
    rintro ⟨i, r, e, _⟩
    cases e
end
end Go.Proofs.YtmfgaefefgnhbaaGreatDoor.Abs
namespace Go.Proofs.YtmfgaefefgnhbaaGreatDoor.Abs
set_option linter.unusedSimpArgs false
set_option linter.unusedVariables false
open Go Go.RowKit

section
variable {P : Program} {GT : Ctx} {s : St} {k : List Item} {Q : Exit → St → Prop}
/-- The first n things to do by themselves, then the others. -/
theorem J_cutL (n : Nat) (R : St → Prop) (h : J P GT (k.take n) s (endQ P GT (k.drop n) Q R)) (hk : ∀ s, R s → J P GT (k.drop n) s Q) : J P GT k s Q := by
  intro B a w hs b k0 cs
  have hh := h B a w hs b (k.drop n ++ k0) cs
  rw [← List.append_assoc, List.take_append_drop] at hh
  obtain ⟨e, a1, w1, s1, hq, hs1, harr⟩ := hh
  cases e with
  | normal =>
    obtain ⟨e2, a2, w2, s2, q2, hs2, harr2⟩ := hk s1 hq B a1 w1 hs1 b k0 cs
    exact ⟨e2, a2, w2, s2, q2, hs2, .of_steps harr harr2⟩
  | exit id =>
    simp only [endQ] at hq
    split at hq
    · rename_i k' hk'
      obtain ⟨e2, a2, w2, s2, q2, hs2, harr2⟩ := hq B a1 w1 hs1 b k0 cs
      exact ⟨e2, a2, w2, s2, q2, hs2, .of_steps (harr (k' ++ k0) (exitTo_append k0 hk')) harr2⟩
    · rename_i hk'
      exact ⟨.exit id, a1, w1, s1, hq, hs1, fun k2 hk2 => harr k2 (by rw [exitTo_none k0 hk']; exact hk2)⟩
  | ret => exact ⟨.ret, a1, w1, s1, hq, hs1, harr⟩
  | goto l => exact hq.elim
  | panic ch => exact hq.elim
  | outgrown => exact hq.elim
/-- What the ways end in. -/
def MergeEnd {ι : Type} (GT : Ctx) (S : ι → St) (ok : ι → Prop) (s' : St) : Prop := ∃ x, ok x ∧ SemLe GT s' (S x)
theorem MergeEnd.mk {ι : Type} {S : ι → St} {ok : ι → Prop} {s' : St} (x : ι) (hok : ok x) (hle : s'.le (S x)) (hg : GT.given ≤ (S x).objs.length) : MergeEnd GT S ok s' := ⟨x, hok, .le hle hg⟩
/-- The first n things to do; their ways meet in one of some states. -/
theorem J_mergeN {ι : Type} (n : Nat) {sl : List AV} {os : List Obj} (forget : List Nat) (vars : ι → List (Nat × AV)) (objs : ι → List Obj) (ok : ι → Prop)
    (h : J P GT (k.take n) ⟨sl, os⟩ (endQ P GT (k.drop n) Q (MergeEnd GT (fun x => ⟨headS forget (vars x) sl, objs x⟩) ok)))
    (hk : ∀ x, ok x → J P GT (k.drop n) ⟨headS forget (vars x) sl, objs x⟩ Q) : J P GT k ⟨sl, os⟩ Q :=
  J_cutL n _ h fun s ⟨x, hx, hs⟩ => J_sem hs (hk x hx)
end
end Go.Proofs.YtmfgaefefgnhbaaGreatDoor.Abs
