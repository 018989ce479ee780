/- Bounds that come with arguments; less said of a state; loops. -/
import Derived.Test.YtangkndckghblaaDoorAbsJ
namespace Go.Proofs.YtangkndckghblaaDoor.Abs
set_option linter.unusedSimpArgs false
set_option linter.unusedVariables false
open Go Go.RowKit

/-- How long the slices in a value can be. -/
inductive Bnd : AV → Prop
  | top : Bnd .top
  | raw {v} : Bnd (.raw v)
  | agg {cs : List AV} (h : ∀ a, a ∈ cs → Bnd a) : Bnd (.agg cs)
  | tup {cs : List AV} (h : ∀ a, a ∈ cs → Bnd a) : Bnd (.tup cs)
  | lst {k : Nat} {xs : List (List AV)} (hl : xs.length ≤ maxLen) (h : ∀ x, x ∈ xs → ∀ a, a ∈ x → Bnd a) : Bnd (.lst k xs)
  | cptr {cs : List AV} (h : ∀ a, a ∈ cs → Bnd a) : Bnd (.cptr cs)
  | own {i k l n} : Bnd (.own i k l n)
  | ref {i o} : Bnd (.ref i o)
  | eref {i k j o} : Bnd (.eref i k j o)
  | mref {i} : Bnd (.mref i)
  | clo {fn as bs} (h : ∀ a, a ∈ as → Bnd a) (h' : ∀ a, a ∈ bs → Bnd a) : Bnd (.clo fn as bs)

theorem Conc.bnd {I : Nat → Prop} {w : World} {p : Place} {v : Value} {x : AV} (h : Conc I w p v x) : Bnd x := by
  induction h with
  | top => exact .top
  | raw => exact .raw
  | @agg _ cs as hl _ _ ih =>
    refine .agg fun a ha => ?_
    obtain ⟨i, hi⟩ := List.getElem?_of_mem ha
    have hlt : i < cs.size := by rw [← hl]; exact (List.getElem?_eq_some_iff.1 hi).1
    exact ih i _ a (Array.getElem?_eq_getElem hlt) hi
  | @tup _ cs as hl _ ih =>
    refine .tup fun a ha => ?_
    obtain ⟨i, hi⟩ := List.getElem?_of_mem ha
    have hlt : i < cs.size := by rw [← hl]; exact (List.getElem?_eq_some_iff.1 hi).1
    exact ih i _ a (Array.getElem?_eq_getElem hlt) hi
  | lst hn hc hm hk hx h1 _ ih =>
    refine .lst (by omega) fun x hx a ha => ?_
    obtain ⟨i, hi⟩ := List.getElem?_of_mem hx
    obtain ⟨j, hj⟩ := List.getElem?_of_mem ha
    exact ih i j x a hi hj
  | cptr hb hx h1 _ ih =>
    refine .cptr fun a ha => ?_
    obtain ⟨j, hj⟩ := List.getElem?_of_mem ha
    exact ih j a hj
  | own => exact .own
  | ref => exact .ref
  | eref => exact .eref
  | mref => exact .mref
  | @clo _ fn fs cs as bs hl hl' _ _ ih ih' =>
    refine .clo (fun a ha => ?_) fun a ha => ?_
    · obtain ⟨i, hi⟩ := List.getElem?_of_mem ha
      have hlt : i < fs.size := by rw [← hl]; exact (List.getElem?_eq_some_iff.1 hi).1
      exact ih i _ a (Array.getElem?_eq_getElem hlt) hi
    · obtain ⟨i, hi⟩ := List.getElem?_of_mem ha
      have hlt : i < cs.size := by rw [← hl']; exact (List.getElem?_eq_some_iff.1 hi).1
      exact ih' i _ a (Array.getElem?_eq_getElem hlt) hi

theorem Bnd.agg_mem {cs : List AV} (h : Bnd (.agg cs)) {a : AV} (ha : a ∈ cs) : Bnd a := by cases h with | agg h => exact h a ha
theorem Bnd.len {k : Nat} {xs : List (List AV)} (h : Bnd (.lst k xs)) : xs.length ≤ maxLen := by cases h with | lst hl _ => exact hl
theorem Bnd.elem {k : Nat} {xs : List (List AV)} (h : Bnd (.lst k xs)) {x : List AV} (hx : x ∈ xs) {a : AV} (ha : a ∈ x) : Bnd a := by cases h with | lst _ h => exact h x hx a ha
theorem Bnd.cptr_mem {cs : List AV} (h : Bnd (.cptr cs)) {a : AV} (ha : a ∈ cs) : Bnd a := by cases h with | cptr h => exact h a ha

/-- How long arrays are. -/
def ObjBnd : Obj → Prop
  | .dead => True
  | .box cs => ∀ a, a ∈ cs → Bnd a
  | .arr _ xs => xs.length ≤ maxLen ∧ ∀ x, x ∈ xs → ∀ a, a ∈ x → Bnd a
  | .mp _ _ => True
theorem ObjConc.bnd {I : Nat → Prop} {w : World} {p : Place} {id : Nat} {o : Obj} (h : ObjConc I w p id o) : ObjBnd o := by
  cases o with
  | dead => trivial
  | box cs =>
    obtain ⟨r, c, E, _, _, _, _, hv⟩ := h
    intro a ha
    obtain ⟨j, hj⟩ := List.getElem?_of_mem ha
    obtain ⟨v, _, _, h3⟩ := hv j a hj
    exact h3.bnd
  | arr k xs =>
    obtain ⟨r, _, ⟨_, hx⟩ | ⟨_, c, E, _, hl, hm, _, _, hv⟩⟩ := h
    · subst hx; exact ⟨by simp, by simp⟩
    · refine ⟨by omega, fun x hx a ha => ?_⟩
      obtain ⟨i, hi⟩ := List.getElem?_of_mem hx
      obtain ⟨j, hj⟩ := List.getElem?_of_mem ha
      obtain ⟨v, _, _, h3⟩ := hv i j x a hi hj
      exact h3.bnd
  | mp kd m => trivial

/-- A contract may lean on the bounds of its arguments. -/
theorem holds_bnd {P : Program} {GT : Globs} {f : FuncId} {args : List AV} {objs : List Obj} {R : AV → List Obj → Prop} (he : Enters P f) (h : (∀ a, a ∈ args → Bnd a) → (∀ o, o ∈ objs → ObjBnd o) → Holds P GT f args objs R) : Holds P GT f args objs R := by
  refine ⟨he, fun w I vs q0 hsz hargs hgiven => ?_⟩
  have hb : ∀ a, a ∈ args → Bnd a := fun a ha => by
    obtain ⟨i, hi⟩ := List.getElem?_of_mem ha
    have hlt : i < vs.size := by rw [hsz]; exact (List.getElem?_eq_some_iff.1 hi).1
    exact (hargs i _ a (Array.getElem?_eq_getElem hlt) hi).bnd
  have hb' : ∀ o, o ∈ objs → ObjBnd o := fun o ho => by
    obtain ⟨i, hi⟩ := List.getElem?_of_mem ho
    have := hgiven.obj i
    rw [List.getD_eq_getElem?_getD, hi] at this
    exact this.bnd
  exact (h hb hb').2 w I vs q0 hsz hargs hgiven
theorem enters_of {P : Program} {f : FuncId} {fn : Func} (hf : P.funcs[f]? = some fn) (hb : fn.body.isSome = true) (hname : (fn.name == "runtime.NumGoroutine") = false) : Enters P f := ⟨fn, hf, hb, hname⟩

/- What names only objects that are there. -/
mutual
def AV.keeps (s : St) : AV → Bool
  | .agg cs => AV.keepsL s cs
  | .tup cs => AV.keepsL s cs
  | .clo _ as bs => AV.keepsL s as && AV.keepsL s bs
  | .own id _ _ _ => !(s.obj id).isDead
  | .ref id _ => !(s.obj id).isDead
  | .eref id _ _ _ => !(s.obj id).isDead
  | .mref id => !(s.obj id).isDead
  | .top => true
  | .raw _ => true
  | .lst _ _ => true
  | .cptr _ => true
def AV.keepsL (s : St) : List AV → Bool
  | [] => true
  | a :: as => AV.keeps s a && AV.keepsL s as
end
theorem AV.keepsL_mem {s : St} {l : List AV} (h : AV.keepsL s l = true) : ∀ a, a ∈ l → a.keeps s = true := by
  induction l with
  | nil => intro a ha; cases ha
  | cons b l ih =>
    simp only [AV.keepsL, Bool.and_eq_true] at h
    intro a ha
    rcases List.mem_cons.1 ha with rfl | ha
    · exact h.1
    · exact ih h.2 a ha

/-- The places of the objects that are there. -/
def Place.those (p : Place) (s : St) : Place := fun i => if (s.obj i).isDead then none else p i

theorem Place.those_live {p : Place} {s : St} {i : Nat} (h : (s.obj i).isDead = false) : p.those s i = p i := by simp [Place.those, h]
theorem Place.those_dead {p : Place} {s : St} {i : Nat} (h : (s.obj i).isDead = true) : p.those s i = none := by simp [Place.those, h]

theorem Conc.those {I : Nat → Prop} {w : World} {p : Place} {v : Value} {x : AV} {s : St} (h : Conc I w p v x) (hk : x.keeps s = true) : Conc I w (p.those s) v x := by
  have hp : ∀ i r, p i = some r → (!(s.obj i).isDead) = true → p.those s i = some r := fun i r hi hd => by
    simp only [Place.those]
    rw [if_neg (by simpa using hd)]
    exact hi
  induction h with
  | top => exact .top
  | raw => exact .raw
  | agg hl h1 _ ih => exact .agg hl h1 fun i v a e e' => ih i v a e e' (AV.keepsL_mem (by simpa [AV.keeps] using hk) a (List.mem_of_getElem? e')) hp
  | tup hl _ ih => exact .tup hl fun i v a e e' => ih i v a e e' (AV.keepsL_mem (by simpa [AV.keeps] using hk) a (List.mem_of_getElem? e')) hp
  | lst hn hc hm hkk hx h1 h _ => exact .lst hn hc hm hkk hx h1 h
  | cptr hb hx h1 h _ => exact .cptr hb hx h1 h
  | own hn hm h hr => exact .own hn hm (hp _ _ h hk) hr
  | ref h hl => exact .ref (hp _ _ h hk) hl
  | eref h hl => exact .eref (hp _ _ h hk) hl
  | mref h hl => exact .mref (hp _ _ h hk) hl
  | clo hl hl' _ _ ih ih' =>
    simp only [AV.keeps, Bool.and_eq_true] at hk
    exact .clo hl hl' (fun i v a e e' => ih i v a e e' (AV.keepsL_mem hk.1 a (List.mem_of_getElem? e')) hp) fun i v a e e' => ih' i v a e e' (AV.keepsL_mem hk.2 a (List.mem_of_getElem? e')) hp

/-- Less is said: of slots, of objects. -/
def leSlots (s' : St) : List AV → List AV → Prop
  | [], [] => True
  | a :: l, b :: m => (b = .top ∨ (a = b ∧ b.keeps s' = true)) ∧ leSlots s' l m
  | _, _ => False
def Obj.le (s' : St) (a : Obj) : Obj → Prop
  | .dead => True
  | .box cs => a = .box cs ∧ AV.keepsL s' cs = true
  | .arr k xs => a = .arr k xs
  | .mp kd m => a = .mp kd m
def leObjs (s' : St) : List Obj → List Obj → Prop
  | _, [] => True
  | a :: l, b :: m => a.le s' b ∧ leObjs s' l m
  | [], _ :: _ => False
def St.le (s s' : St) : Prop := leSlots s' s.slots s'.slots ∧ leObjs s' s.objs s'.objs

theorem leSlots_get {s' : St} : ∀ {l m : List AV}, leSlots s' l m → l.length = m.length ∧ ∀ (i : Nat) (a b : AV), l[i]? = some a → m[i]? = some b → b = .top ∨ (a = b ∧ b.keeps s' = true)
  | [], [], _ => ⟨rfl, fun i a b h => by simp at h⟩
  | a :: l, b :: m, h => by
    obtain ⟨h1, h2⟩ := h
    obtain ⟨h3, h4⟩ := leSlots_get h2
    refine ⟨by simp [h3], fun i x y e e' => ?_⟩
    cases i with
    | zero => simp at e e'; subst e; subst e'; exact h1
    | succ i => exact h4 i x y (by simpa using e) (by simpa using e')
  | [], _ :: _, h => h.elim
  | _ :: _, [], h => h.elim
theorem leObjs_get {s' : St} : ∀ {l m : List Obj} (i : Nat), leObjs s' l m → (l.getD i .dead).le s' (m.getD i .dead)
  | _, [], i, _ => by simp [Obj.le]
  | a :: l, b :: m, i, h => by
    cases i with
    | zero => exact h.1
    | succ i => simpa using leObjs_get i h.2
  | [], _ :: _, _, h => h.elim

theorem SemLe.le {GT : Ctx} {s s' : St} (hle : s.le s') (hgv : GT.given ≤ s'.objs.length) : SemLe GT s s' := fun B a w h => by
  obtain ⟨p, I, h, h1, h2, h3⟩ := h
  obtain ⟨hlen, hsl⟩ := leSlots_get hle.1
  have hq : ∀ i r, p.those s' i = some r → p i = some r := fun i r hi => by
    simp only [Place.those] at hi
    split at hi
    · cases hi
    · exact hi
  refine ⟨p.those s', I, ⟨by rw [h.size, hlen], fun i v x e e' => ?_, h.defers, fun i => ?_, fun i j r r' hi hj hl hl' hb => h.inj i j r r' (hq i r hi) (hq j r' hj) hl hl' hb, fun i r hi hl => h.own i r (hq i r hi) hl, h.imm, h.frame, h.glob, hgv⟩, h1, h2, fun i hi => ?_⟩
  · have hi : i < s.slots.length := by rw [hlen]; exact (List.getElem?_eq_some_iff.1 e').1
    rcases hsl i _ x (List.getElem?_eq_getElem hi) e' with rfl | ⟨hx, hk⟩
    · exact .top
    · have := h.slot i v _ e (List.getElem?_eq_getElem hi)
      rw [hx] at this
      exact this.those hk
  · have hol : (s.obj i).le s' (s'.obj i) := leObjs_get i hle.2
    have hob := h.obj i
    have hpi : (s'.obj i).isDead = false → p.those s' i = p i := Place.those_live
    cases ho : s'.obj i with
    | dead => exact Place.those_dead (by rw [ho]; rfl)
    | box cs =>
      rw [ho] at hol hpi
      obtain ⟨hx, hk⟩ := hol
      rw [hx] at hob
      obtain ⟨r, c, E, hr, hn, hh, hl, hv⟩ := hob
      refine ⟨r, c, E, (hpi rfl).trans hr, hn, hh, hl, fun j a e => ?_⟩
      obtain ⟨v, e1, e2, e3⟩ := hv j a e
      exact ⟨v, e1, e2, e3.those (AV.keepsL_mem hk a (List.mem_of_getElem? e))⟩
    | arr k xs =>
      rw [ho] at hol hpi
      rw [show s.obj i = .arr k xs from hol] at hob
      obtain ⟨r, hr, rest⟩ := hob
      exact ⟨r, (hpi rfl).trans hr, rest⟩
    | mp kd m =>
      rw [ho] at hol hpi
      rw [show s.obj i = .mp kd m from hol] at hob
      obtain ⟨r, es, hr, rest⟩ := hob
      exact ⟨r, es, (hpi rfl).trans hr, rest⟩
  · simp only [Place.those]
    split
    · exact .inr rfl
    · exact h3 i hi

section
variable {P : Program} {GT : Ctx} {s : St} {k : List Item} {Q : Exit → St → Prop}

theorem J_le {s' : St} (hle : s.le s') (hgv : GT.given ≤ s'.objs.length) (h : J P GT k s' Q) : J P GT k s Q := J_sem (.le hle hgv) h

/-- What a piece of code in front of k may end in. -/
def endQ (P : Program) (GT : Ctx) (k : List Item) (Q : Exit → St → Prop) (R : St → Prop) : Exit → St → Prop
  | .normal, s => R s
  | .exit id, s => match exitTo id k with
    | some k' => J P GT k' s Q
    | none => Q (.exit id) s
  | .ret, s => Q .ret s
  | _, _ => False

/-- What a loop's round comes to. -/
def LoopEnd {ι : Type} (GT : Ctx) (S : ι → St) (ok : ι → Prop) (μ : ι → Nat) (i : ι) (s' : St) : Prop := ∃ j, ok j ∧ μ j < μ i ∧ SemLe GT s' (S j)

/-- A loop: the states at its head, one for each value of a ghost. -/
theorem J_loops {ι : Type} {c : Code} (S : ι → St) (ok : ι → Prop) (μ : ι → Nat) (i0 : ι) (hok : ok i0) (h0 : SemLe GT s (S i0))
    (hr : ∀ i, ok i → J P GT [.code c] (S i) (endQ P GT k Q (LoopEnd GT S ok μ i))) : J P GT (.code (.loop c) :: k) s Q := by
  intro B a w hs b k0 cs
  have key : ∀ n i a w, μ i = n → ok i → StC GT B (S i) a w → ∃ e a' w' s', Q e s' ∧ StC GT B s' a' w' ∧ Arrives P (lone (b.at a (.code c :: .inLoop c :: (k ++ k0))) cs w) b k0 cs e a' w' := by
    intro n
    induction n using Nat.strongRecOn with
    | _ n ih =>
      intro i a w hn hoki hs
      obtain ⟨e, a1, w1, s1, hq, hs1, harr⟩ := hr i hoki B a w hs b (.inLoop c :: (k ++ k0)) cs
      cases e with
      | normal =>
        obtain ⟨j, hokj, hlt, hle⟩ := hq
        obtain ⟨e2, a2, w2, s2, q2, hs2, harr2⟩ := ih _ (hn ▸ hlt) j a1 w1 rfl hokj (hle _ _ _ hs1)
        exact ⟨e2, a2, w2, s2, q2, hs2, .of_steps (Steps.trans harr (.one step_inLoop)) harr2⟩
      | exit id =>
        simp only [endQ] at hq
        split at hq
        · rename_i k' hk'
          obtain ⟨e2, a2, w2, s2, q2, hs2, harr2⟩ := hq B a1 w1 hs1 b k0 cs
          exact ⟨e2, a2, w2, s2, q2, hs2, .of_steps (harr (k' ++ k0) (by simp only [exitTo]; exact exitTo_append k0 hk')) harr2⟩
        · rename_i hk'
          exact ⟨.exit id, a1, w1, s1, hq, hs1, fun k2 hk2 => harr k2 (by simp only [exitTo]; rw [exitTo_none k0 hk']; exact hk2)⟩
      | ret => exact ⟨.ret, a1, w1, s1, hq, hs1, harr⟩
      | goto l => exact hq.elim
      | panic ch => exact hq.elim
      | outgrown => exact hq.elim
  obtain ⟨e, a', w', s', hq, hs', harr⟩ := key _ i0 a w rfl hok (h0 _ _ _ hs)
  exact ⟨e, a', w', s', hq, hs', .of_steps (.one step_loop) harr⟩

theorem endQ_normal {R : St → Prop} : endQ P GT k Q R .normal s = R s := rfl
theorem endQ_ret {R : St → Prop} : endQ P GT k Q R .ret s = Q .ret s := rfl
/-- The way behind an exit out of a piece of code. -/
def exitJ (P : Program) (GT : Ctx) (Q : Exit → St → Prop) (id : Nat) (s : St) : Option (List Item) → Prop
  | some k' => J P GT k' s Q
  | none => Q (.exit id) s
def exitD (P : Program) (GT : Ctx) (Q : Exit → St → Prop) (id : Nat) (k : List Item) (s : St) : Prop := exitJ P GT Q id s (exitTo id k)
theorem endQ_exit {R : St → Prop} {id : Nat} : endQ P GT k Q R (.exit id) s = exitD P GT Q id k s := rfl
theorem exitD_nil {id : Nat} : exitD P GT Q id [] s = Q (.exit id) s := rfl
theorem exitD_in {id id' : Nat} : exitD P GT Q id (.inBlock id' :: k) s = if id' = id then J P GT k s Q else exitD P GT Q id k s := by
  simp only [exitD, exitTo, beq_iff_eq]; split <;> rfl
theorem exitD_code {id : Nat} {c : Code} : exitD P GT Q id (.code c :: k) s = exitD P GT Q id k s := rfl
theorem exitD_loop {id : Nat} {c : Code} : exitD P GT Q id (.inLoop c :: k) s = exitD P GT Q id k s := rfl
theorem exitD_scope {id : Nat} {c : Code} : exitD P GT Q id (.inScope c :: k) s = exitD P GT Q id k s := rfl
@[congr] theorem exitD_congr {id : Nat} {k : List Item} {s s' : St} (h : s = s') : exitD P GT Q id k s = exitD P GT Q id k s' := by rw [h]
@[congr] theorem endQ_congr {R : St → Prop} {e : Exit} {s s' : St} (h : s = s') : endQ P GT k Q R e s = endQ P GT k Q R e s' := by rw [h]
@[congr] theorem LoopEnd_congr {ι : Type} {S : ι → St} {ok : ι → Prop} {μ : ι → Nat} {i : ι} {s s' : St} (h : s = s') : LoopEnd GT S ok μ i s = LoopEnd GT S ok μ i s' := by rw [h]
theorem exitJ_some {id : Nat} {k' : List Item} : exitJ P GT Q id s (some k') = J P GT k' s Q := rfl
theorem exitJ_none {id : Nat} : exitJ P GT Q id s none = Q (.exit id) s := rfl
theorem leSlots_nil {s' : St} : leSlots s' [] [] = True := rfl
theorem leSlots_top {s' : St} {a : AV} {l m : List AV} : leSlots s' (a :: l) (.top :: m) = leSlots s' l m := by simp [leSlots]
theorem leSlots_cons {s' : St} {a b : AV} {l m : List AV} : leSlots s' (a :: l) (b :: m) = ((b = .top ∨ (a = b ∧ b.keeps s' = true)) ∧ leSlots s' l m) := rfl
theorem leSlots_same {s' : St} {a : AV} {l m : List AV} (h : leSlots s' l m) (hk : a.keeps s' = true) : leSlots s' (a :: l) (a :: m) := ⟨.inr ⟨rfl, hk⟩, h⟩

end
attribute [go_sem] endQ_normal endQ_ret endQ_exit exitD_nil exitD_in exitD_code exitD_loop exitD_scope leSlots_nil leSlots_top leSlots_cons Obj.le St.le AV.keeps AV.keepsL Obj.isDead

section
variable {P : Program} {GT : Ctx} {s : St} {k : List Item} {Q : Exit → St → Prop} {R : AV → List Obj → Prop} {res : List ResultVar}
theorem NilReps.refl (n : Nat) : ∀ l : List AV, NilReps n l l
  | [] => .nil
  | a :: l => .cons (.same a) (NilReps.refl n l)
theorem NilReps.set (n el : Nat) : ∀ (l : List AV) (t : Nat), sget l t = .raw (.slice none 0 0) → NilReps n l (sset l t (.own n el 0 0))
  | [], _, _ => .nil
  | a :: l, 0, h => by simp only [sget] at h; subst h; exact .cons (.nil el) (NilReps.refl n l)
  | a :: l, t + 1, h => .cons (.same a) (NilReps.set n el l t h)
/-- A slot that holds a nil slice: it gets a name. -/
def St.nilName (s : St) (t el : Nat) : St := ⟨sset s.slots t (.own s.objs.length el 0 0), s.objs ++ [.arr el []]⟩
theorem SemLe.nilName (t el : Nat) (h : sget s.slots t = .raw (.slice none 0 0)) : SemLe GT s (s.nilName t el) := SemLe.nil GT s el (NilReps.set _ el _ t h)
theorem FinQ.nilName (t el : Nat) (h : sget s.slots t = .raw (.slice none 0 0)) (h' : FinQ P GT res R .ret (s.nilName t el)) : FinQ P GT res R .ret s := h'.le (.nilName t el h)
theorem FinQ.frz (T : List Nat) (h : FinQ P GT res R .ret (s.frz T)) : FinQ P GT res R .ret s := h.le (.frz _ _ T)
theorem J_nilName (t el : Nat) (h : sget s.slots t = .raw (.slice none 0 0)) (h' : J P GT k (s.nilName t el) Q) : J P GT k s Q := J_sem (.nilName t el h) h'
/-- Of the array in a slot the part that the slot names is left. -/
def St.cutAt (s : St) (t id k lo n : Nat) (xs : List (List AV)) : St := { s.relay id (.arr k ((xs.drop lo).take n)) with slots := sset (s.relay id (.arr k ((xs.drop lo).take n))).slots t (.own id k 0 n) }
theorem SemLe.cutAt {t id el lo n : Nat} {xs : List (List AV)} (hg : ¬ id < GT.given) (hob : s.obj id = .arr el xs) (ht : sget s.slots t = .own id el lo n) (hn : lo + n ≤ xs.length) : SemLe GT s (s.cutAt t id el lo n xs) := by
  have := SemLe.cut GT s (t := t) hg hob (by rw [sget_eq]; exact ht) hn
  rw [sset_eq] at this
  exact this
end
theorem toNat_add_nat {i n : Nat} : ((i : Int) + (n : Int)).toNat = i + n := by omega
theorem toNat_add_one {i : Nat} : ((i : Int) + 1).toNat = i + 1 := by omega
theorem toNat_add_two {i : Nat} : ((i : Int) + 2).toNat = i + 2 := by omega
attribute [go_sem] toNat_add_nat toNat_add_one toNat_add_two Nat.sub_zero List.length_take List.length_drop List.length_append List.length_map List.length_set List.length_replicate Nat.min_self Nat.sub_self
attribute [go_sem] or_true true_or or_false false_or AV.raw.injEq Value.bool.injEq Value.int.injEq Value.string.injEq AV.own.injEq AV.ref.injEq AV.lst.injEq AV.agg.injEq reduceCtorEq and_self true_and and_true
attribute [go_sem] St.nilName St.cutAt Nat.lt_irrefl Nat.not_lt_zero

/-- One value says no more than another one. -/
def VLe (x y : AV) : Prop := ∀ (I : Nat → Prop) (w : World) (p : Place) (v : Value), Conc I w p v x → Conc I w p v y
theorem VLe.refl (x : AV) : VLe x x := fun _ _ _ _ h => h
theorem VLe.top (x : AV) : VLe x .top := fun _ _ _ _ _ => .top
theorem VLe.nilLst (k : Nat) : VLe (.raw (.slice none 0 0)) (.lst k []) := fun _ _ _ v h => by
  have := h.raw_eq
  subst this
  exact .lst (f := fun _ _ => undef) rfl (Nat.le_refl _) (by simp [maxLen]) (by simp) (.inl rfl) (by simp) (by simp)
/-- Pointwise. -/
inductive VLes : List AV → List AV → Prop
  | nil : VLes [] []
  | cons {x y : AV} {xs ys : List AV} (h : VLe x y) (h' : VLes xs ys) : VLes (x :: xs) (y :: ys)
theorem VLes.get : ∀ {xs ys : List AV}, VLes xs ys → xs.length = ys.length ∧ ∀ (i : Nat) (y : AV), ys[i]? = some y → ∃ x, xs[i]? = some x ∧ VLe x y
  | [], _, h => by cases h; exact ⟨rfl, fun i y h => by simp at h⟩
  | x :: xs, _, h => by
    cases h with
    | cons h h' =>
      obtain ⟨h1, h2⟩ := h'.get
      refine ⟨by simp [h1], fun i z e => ?_⟩
      cases i with
      | zero => simp at e; subst e; exact ⟨x, rfl, h⟩
      | succ i => simpa using h2 i z (by simpa using e)
theorem VLes.refl : ∀ l : List AV, VLes l l
  | [] => .nil
  | a :: l => .cons (.refl a) (VLes.refl l)
theorem VLe.agg {xs ys : List AV} (h : VLes xs ys) : VLe (.agg xs) (.agg ys) := fun I w p v hc => by
  obtain ⟨g1, g2⟩ := h.get
  cases hc with
  | agg hl h1 h =>
    refine .agg (by rw [← g1, hl]) h1 fun i v y e e' => ?_
    obtain ⟨x, hx, hxy⟩ := g2 i y e'
    exact hxy _ _ _ _ (h i v x e hx)
theorem VLe.tup {xs ys : List AV} (h : VLes xs ys) : VLe (.tup xs) (.tup ys) := fun I w p v hc => by
  obtain ⟨g1, g2⟩ := h.get
  cases hc with
  | tup hl h =>
    refine .tup (by rw [← g1, hl]) fun i v y e e' => ?_
    obtain ⟨x, hx, hxy⟩ := g2 i y e'
    exact hxy _ _ _ _ (h i v x e hx)
theorem SemLe.vles {GT : Ctx} {sl sl' : List AV} {os : List Obj} (h : VLes sl sl') : SemLe GT ⟨sl, os⟩ ⟨sl', os⟩ := fun B a w hs => by
  obtain ⟨p, I, hsim, h1, h2, h3⟩ := hs
  obtain ⟨g1, g2⟩ := h.get
  refine ⟨p, I, { hsim with size := by rw [hsim.size]; exact g1, slot := fun i v y e e' => ?_, obj := hsim.obj }, h1, h2, h3⟩
  obtain ⟨x, hx, hxy⟩ := g2 i y e'
  exact hxy _ _ _ _ (hsim.slot i v x e hx)
theorem VLes.set : ∀ {l : List AV} (t : Nat) {y : AV}, VLe (sget l t) y → VLes l (sset l t y)
  | [], _, _, _ => .nil
  | _a :: l, 0, _, h => .cons h (VLes.refl l)
  | a :: _l, t + 1, _, h => .cons (.refl a) (VLes.set t h)
theorem SemLe.slot {GT : Ctx} {sl : List AV} {os : List Obj} (t : Nat) {y : AV} (h : VLe (sget sl t) y) : SemLe GT ⟨sl, os⟩ ⟨sset sl t y, os⟩ := SemLe.vles (VLes.set t h)

/-- Slots of which nothing is said any more. -/
def topL : List Nat → List AV → List AV
  | [], l => l
  | d :: ds, l => topL ds (sset l d .top)
/-- Slots that are given values. -/
def setL : List (Nat × AV) → List AV → List AV
  | [], l => l
  | (d, v) :: ds, l => setL ds (sset l d v)
/-- Numbers from a to b. -/
def upto (a b : Nat) : List Nat := List.range' a (b + 1 - a)
/-- The slots at a loop's head. -/
def headS (forget : List Nat) (vars : List (Nat × AV)) (sl : List AV) : List AV := setL vars (topL forget sl)

section
variable {P : Program} {GT : Ctx} {s : St} {k : List Item} {Q : Exit → St → Prop}
/-- A loop: what is forgotten of the state, what is known of some slots, and the objects. -/
theorem J_for {ι : Type} {c : Code} {sl : List AV} {os : List Obj} (forget : List Nat) (vars : ι → List (Nat × AV)) (objs : ι → List Obj) (ok : ι → Prop) (μ : ι → Nat) (i0 : ι) (hok : ok i0)
    (h0 : SemLe GT ⟨sl, os⟩ ⟨headS forget (vars i0) sl, objs i0⟩)
    (hr : ∀ i, ok i → J P GT [.code c] ⟨headS forget (vars i) sl, objs i⟩ (endQ P GT k Q (LoopEnd GT (fun j => ⟨headS forget (vars j) sl, objs j⟩) ok μ i))) : J P GT (.code (.loop c) :: k) ⟨sl, os⟩ Q :=
  J_loops (fun j => ⟨headS forget (vars j) sl, objs j⟩) ok μ i0 hok h0 hr
/-- A piece of code whose ways meet again behind it. -/
theorem J_merge {c : Code} {sl : List AV} {os : List Obj} (forget : List Nat) (vars : List (Nat × AV)) (objs : List Obj) (h : J P GT [.code c] ⟨sl, os⟩ (endQ P GT k Q (fun s' => SemLe GT s' ⟨headS forget vars sl, objs⟩)))
    (hk : J P GT k ⟨headS forget vars sl, objs⟩ Q) : J P GT (.code c :: k) ⟨sl, os⟩ Q :=
  J_cut (R := fun s' => SemLe GT s' ⟨headS forget vars sl, objs⟩) (h.mono fun e s hq => by cases e <;> first | exact hq | (simp only [endQ] at hq; exact hq)) fun s hs => J_sem hs hk
theorem LoopEnd.mk {ι : Type} {S : ι → St} {ok : ι → Prop} {μ : ι → Nat} {i : ι} {s' : St} (j : ι) (hok : ok j) (hμ : μ j < μ i) (hle : s'.le (S j)) (hg : GT.given ≤ (S j).objs.length) : LoopEnd GT S ok μ i s' := ⟨j, hok, hμ, .le hle hg⟩
end
theorem leSlots_take {s' : St} {a b : AV} {l m : List AV} (h1 : a = b) (h2 : b.keeps s' = true) : leSlots s' (a :: l) (b :: m) = leSlots s' l m := by
  simp [leSlots, h1, h2]
theorem leObjs_nil {s' : St} {l : List Obj} : leObjs s' l [] = True := by simp [leObjs]
theorem leObjs_cons {s' : St} {a b : Obj} {l m : List Obj} : leObjs s' (a :: l) (b :: m) = (a.le s' b ∧ leObjs s' l m) := rfl
attribute [go_sem] topL setL headS upto List.range'_succ List.range'_zero leObjs_nil leObjs_cons Int.natCast_add Int.cast_ofNat_Int

/-- Less said of a result. -/
def Weak (R : AV → List Obj → Prop) (r : AV) (os : List Obj) : Prop := ∃ r2, VLe r r2 ∧ R r2 os
theorem Holds.val {P : Program} {GT : Globs} {f : FuncId} {args : List AV} {objs : List Obj} {R : AV → List Obj → Prop} (h : Holds P GT f args objs (Weak R)) : Holds P GT f args objs R :=
  ⟨h.1, fun w I vs q0 h1 h2 h3 h4 h5 => (h.2 w I vs q0 h1 h2 h3 h4 h5).mono fun _ _ ⟨v, q, I', _r, os, ⟨r2, hv, hR⟩, g1, g2, g3, g4, g5, g6, rest⟩ => ⟨v, q, I', r2, os, hR, g1, g2, g3, g4, g5, hv _ _ _ _ g6, rest⟩⟩
/-- The contract of a function out of its body, where less may be said of the result. -/
theorem holds_ofV {P : Program} {tab : Globs} {f : FuncId} {fn : Func} {c : Code} {args : List AV} {objs : List Obj} {R : AV → List Obj → Prop} (hf : P.funcs[f]? = some fn) (hb : fn.body = some c) (hname : (fn.name == "runtime.NumGoroutine") = false)
    (h : J P ⟨tab, objs.length⟩ [.code c] ⟨args ++ List.replicate (fn.ntmps - args.length) .top, objs⟩ (FinQ P ⟨tab, objs.length⟩ fn.results.toList (Weak R))) : Holds P tab f args objs R :=
  (holds_of hf hb hname h).val

mutual
theorem AV.keeps_imm (s : St) : ∀ x : AV, x.imm = true → x.keeps s = true
  | .agg cs, h => by rw [AV.keeps]; exact AV.keepsL_imm s cs (by simpa [AV.imm] using h)
  | .tup cs, h => by rw [AV.keeps]; exact AV.keepsL_imm s cs (by simpa [AV.imm] using h)
  | .clo fn as bs, h => by
    simp only [AV.imm, Bool.and_eq_true] at h
    rw [AV.keeps, AV.keepsL_imm s as h.1, AV.keepsL_imm s bs h.2]; rfl
  | .own .., h => by cases h
  | .ref .., h => by cases h
  | .eref .., h => by cases h
  | .mref .., h => by cases h
  | .top, _ => rfl
  | .raw _, _ => rfl
  | .lst _ _, _ => rfl
  | .cptr _, _ => rfl
theorem AV.keepsL_imm (s : St) : ∀ l : List AV, AV.immL l = true → AV.keepsL s l = true
  | [], _ => rfl
  | a :: l, h => by
    simp only [AV.immL, Bool.and_eq_true] at h
    rw [AV.keepsL, AV.keeps_imm s a h.1, AV.keepsL_imm s l h.2]; rfl
end
theorem getD_map {α β : Type} {f : α → β} {l : List α} {i : Nat} {d : β} (h : i < l.length) : (l.map f).getD i d = f l[i] := by
  rw [List.getD_eq_getElem?_getD, List.getElem?_map, List.getElem?_eq_getElem h]; rfl
theorem getD_at {α : Type} {l : List α} {i : Nat} {d : α} (h : i < l.length) : l.getD i d = l[i] := by
  rw [List.getD_eq_getElem?_getD, List.getElem?_eq_getElem h]; rfl
theorem len_map {α β : Type} {f : α → β} {l : List α} : (l.map f).length = l.length := by simp

/- Short names, for walks. -/
section
variable {P : Program} {GT : Ctx} {Q : Exit → St → Prop} {n : Nat} {all : Array Oper} {i : Nat} {rest : List Oper} {k : List Item} {s : St}
theorem cB {c : Operand} {a b : Code} {t : Bool} (h1 : t = true → W P GT Q n (.code (.code a :: k)) (s.know c true)) (h2 : t = false → W P GT Q n (.code (.code b :: k)) (s.know c false)) : condW P GT Q n c a b k s (.raw (.bool t)) := condW_by h1 h2
theorem cD {c : Operand} {a b : Code} {t : Prop} {_ : Decidable t} (h1 : t → W P GT Q n (.code (.code a :: k)) (s.know c true)) (h2 : ¬ t → W P GT Q n (.code (.code b :: k)) (s.know c false)) : condW P GT Q n c a b k s (.raw (.bool (decide t))) := condW_dec h1 h2
theorem cN {c : Operand} {a b : Code} {t : Prop} {_ : Decidable t} (h1 : ¬ t → W P GT Q n (.code (.code a :: k)) (s.know c true)) (h2 : t → W P GT Q n (.code (.code b :: k)) (s.know c false)) : condW P GT Q n c a b k s (.raw (.bool (!decide t))) := condW_ndec h1 h2
theorem gB {o : Oper} {t : Nat} {want b : Bool} (h1 : b = want → guardW P GT Q n all i o rest k (s.know (.tmp t) want) t want (.raw (.bool want))) (h2 : b = (!want) → W P GT Q n (.ops all i rest k) ((s.know (.tmp t) (!want)).put o.dst (.raw undef))) : guardW P GT Q n all i o rest k s t want (.raw (.bool b)) := guardW_by h1 h2
theorem gDt {o : Oper} {t : Nat} {b : Prop} {_ : Decidable b} (h1 : b → guardW P GT Q n all i o rest k (s.know (.tmp t) true) t true (.raw (.bool true))) (h2 : ¬ b → W P GT Q n (.ops all i rest k) ((s.know (.tmp t) false).put o.dst (.raw undef))) : guardW P GT Q n all i o rest k s t true (.raw (.bool (decide b))) := guardW_dect h1 h2
theorem gDf {o : Oper} {t : Nat} {b : Prop} {_ : Decidable b} (h1 : ¬ b → guardW P GT Q n all i o rest k (s.know (.tmp t) false) t false (.raw (.bool false))) (h2 : b → W P GT Q n (.ops all i rest k) ((s.know (.tmp t) true).put o.dst (.raw undef))) : guardW P GT Q n all i o rest k s t false (.raw (.bool (decide b))) := guardW_decf h1 h2
theorem gNt {o : Oper} {t : Nat} {b : Prop} {_ : Decidable b} (h1 : ¬ b → guardW P GT Q n all i o rest k (s.know (.tmp t) true) t true (.raw (.bool true))) (h2 : b → W P GT Q n (.ops all i rest k) ((s.know (.tmp t) false).put o.dst (.raw undef))) : guardW P GT Q n all i o rest k s t true (.raw (.bool (!decide b))) := guardW_ndect h1 h2
theorem gNf {o : Oper} {t : Nat} {b : Prop} {_ : Decidable b} (h1 : b → guardW P GT Q n all i o rest k (s.know (.tmp t) false) t false (.raw (.bool false))) (h2 : ¬ b → W P GT Q n (.ops all i rest k) ((s.know (.tmp t) true).put o.dst (.raw undef))) : guardW P GT Q n all i o rest k s t false (.raw (.bool (!decide b))) := guardW_ndecf h1 h2
theorem rC {c : Operand} {a b : Code} (h : W P GT Q 200 (.code (.code (.cond c a b) :: k)) s) : J P GT (.code (.cond c a b) :: k) s Q := J_run 200 h
theorem rR (h : W P GT Q 200 (.code (.code .ret :: k)) s) : J P GT (.code .ret :: k) s Q := J_run 200 h
theorem rE {id : Nat} (h : W P GT Q 200 (.code (.code (.exit id) :: k)) s) : J P GT (.code (.exit id) :: k) s Q := J_run 200 h
theorem rG {id : Nat} {l : List Oper} (h : W P GT Q 200 (.ops l.toArray 0 l k) s) : J P GT (.code (.region id l.toArray false) :: k) s Q := J_reg 200 h
end
end Go.Proofs.YtangkndckghblaaDoor.Abs
