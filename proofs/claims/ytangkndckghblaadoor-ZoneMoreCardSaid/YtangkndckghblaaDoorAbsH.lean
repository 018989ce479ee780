/- The abstract machine: calls, control, loops; and that what it says of a function's body is the function's contract. -/
import Derived.Test.YtangkndckghblaaDoorAbsG
namespace Go.Proofs.YtangkndckghblaaDoor.Abs
set_option linter.unusedSimpArgs false
set_option linter.unusedVariables false
open Go Go.RowKit

/-- What was when a call began: the world, the blocks that were given to it, the blocks that nobody wrote any more, the places of the given objects. -/
structure Base where
  w0 : World
  G : Nat → Prop
  I0 : Nat → Prop
  q0 : Place

/-- A frame in a world, and an abstract state: whatever the places, and whatever has become unwritable since the call began. -/
def StC (GT : Ctx) (B : Base) (s : St) (a : Act) (w : World) : Prop :=
  ∃ p I, Sim GT B.w0 B.G p I s a w ∧ (∀ b, B.I0 b → I b) ∧ (∀ b, I b → B.I0 b ∨ B.w0.heap.size ≤ b ∨ B.G b) ∧ ∀ i, i < GT.given → p i = B.q0 i ∨ p i = none

def nodupB : List Nat → Bool
  | [] => true
  | a :: l => !l.contains a && nodupB l

theorem nodupB_inj : ∀ {K : List Nat}, nodupB K = true → ∀ (i j x : Nat), K[i]? = some x → K[j]? = some x → i = j
  | [], _, i, j, x, h, _ => by simp at h
  | a :: K, h, i, j, x, hi, hj => by
    simp only [nodupB, Bool.and_eq_true, Bool.not_eq_true', List.contains_eq_mem, decide_eq_false_iff_not] at h
    cases i with
    | zero =>
      cases j with
      | zero => rfl
      | succ j =>
        simp at hi hj
        subst hi
        exact absurd (List.mem_of_getElem? hj) h.1
    | succ i =>
      cases j with
      | zero =>
        simp at hi hj
        subst hj
        exact absurd (List.mem_of_getElem? hi) h.1
      | succ j =>
        simp at hi hj
        rw [nodupB_inj h.2 i j x hi hj]

/-- The place of a name in a list. -/
def idxIn : List Nat → Nat → Option Nat
  | [], _ => none
  | a :: l, i => if a = i then some 0 else (idxIn l i).map (· + 1)
theorem idxIn_get : ∀ {T : List Nat} {i j : Nat}, idxIn T i = some j → T[j]? = some i
  | [], i, j, h => by cases h
  | a :: l, i, j, h => by
    simp only [idxIn] at h
    split at h
    · injection h with h; subst h; simpa
    · cases hl : idxIn l i with
      | none => rw [hl] at h; cases h
      | some j' => rw [hl] at h; injection h with h; subst h; simpa using idxIn_get hl
theorem idxIn_none : ∀ {T : List Nat} {i : Nat}, idxIn T i = none → i ∉ T
  | [], i, h => by simp
  | a :: l, i, h => by
    simp only [idxIn] at h
    split at h
    · cases h
    · rename_i hne
      cases hl : idxIn l i with
      | none => simp [idxIn_none hl, Ne.symm hne]
      | some j' => rw [hl] at h; cases h
theorem idxIn_of {T : List Nat} (hnd : nodupB T = true) {i j : Nat} (h : T[j]? = some i) : idxIn T i = some j := by
  cases hi : idxIn T i with
  | none => exact absurd (List.mem_of_getElem? h) (idxIn_none hi)
  | some j' => rw [nodupB_inj hnd j' j i (idxIn_get hi) h]

/-- The names that the caller uses for the objects of a callee: those that were given to it, then new ones. -/
def backName (T : List Nat) (n : Nat) (j : Nat) : Option Nat := some (match T[j]? with
  | some i => i
  | none => n + (j - T.length))
def Obj.isDead : Obj → Bool
  | .dead => true
  | _ => false
/-- The names that are left to the caller. -/
def leftName (T : List Nat) (os : List Obj) (i : Nat) : Option Nat := match idxIn T i with
  | some j => if (os.getD j .dead).isDead then none else some i
  | none => some i
/-- What the caller has behind a call that handed back 'os', of which the first are those of T. -/
def St.back (s : St) (T : List Nat) (os : List Obj) : St :=
  { slots := AV.leafsL (AV.ren (leftName T os)) s.slots,
    objs := (s.objs.mapIdx fun i o => match idxIn T i with
      | some j => (os.getD j .dead).leafs (AV.ren (backName T s.objs.length))
      | none => o.leafs (AV.ren (leftName T os))) ++ (os.drop T.length).map (Obj.leafs (AV.ren (backName T s.objs.length))) }
def Place.back (p q : Place) (T : List Nat) (n : Nat) : Place := fun i => match idxIn T i with
  | some j => q j
  | none => if i < n then p i else q (T.length + (i - n))

section
variable {P : Program} {GT : Ctx} {B : Base} {w0 : World} {G : Nat → Prop} {p : Place} {I : Nat → Prop} {s : St} {a : Act} {w : World}

theorem St.back_obj (s : St) {T : List Nat} (os : List Obj) (hT : ∀ i, i ∈ T → i < s.objs.length) (i : Nat) : (s.back T os).obj i = match idxIn T i with
    | some j => (os.getD j .dead).leafs (AV.ren (backName T s.objs.length))
    | none => if i < s.objs.length then (s.obj i).leafs (AV.ren (leftName T os)) else (os.getD (T.length + (i - s.objs.length)) .dead).leafs (AV.ren (backName T s.objs.length)) := by
  simp only [St.back, St.obj, List.getD_eq_getElem?_getD, List.getElem?_append]
  have hlen : (s.objs.mapIdx fun i o => match idxIn T i with
      | some j => (os[j]?.getD .dead).leafs (AV.ren (backName T s.objs.length))
      | none => o.leafs (AV.ren (leftName T os))).length = s.objs.length := by simp
  rw [hlen]
  split
  · rename_i hi
    rw [List.getElem?_mapIdx, List.getElem?_eq_getElem hi]
    cases hx : idxIn T i with
    | none => simp []
    | some j => simp []
  · rename_i hi
    cases hx : idxIn T i with
    | some j => exact absurd (hT i (List.mem_of_getElem? (idxIn_get hx))) hi
    | none =>
      simp only [List.getElem?_map, List.getElem?_drop]
      cases os[T.length + (i - s.objs.length)]? with
      | none => rfl
      | some o => rfl

/-- The callee's objects beside the caller's. q: where they are; I': what is unwritable then. -/
theorem Sim.back (h : Sim GT w0 G p I s a w) {T : List Nat} (hnd : nodupB T = true) (hT : ∀ i, i ∈ T → i < s.objs.length) {w' : World} {q : Place} {I' : Nat → Prop} {os : List Obj}
    (hf : Frm w (blksAll fun j => (T[j]?).bind p) w') (hI : ∀ b, I b → I' b) (hI' : ∀ b, I' b → I b ∨ w.heap.size ≤ b ∨ blksAll (fun j => (T[j]?).bind p) b) (hlt : ∀ b, I' b → b < w'.heap.size)
    (hh : Handed I' (fun b => w.heap.size ≤ b ∨ blksAll (fun j => (T[j]?).bind p) b) w' q os) (hq : ∀ j, j < T.length → q j = (T[j]?).bind p ∨ q j = none) :
    Sim GT w0 G (p.back q T s.objs.length) I' (s.back T os) a w' ∧ (∀ (v : Value) (x : AV), Conc I' w' q v x → Conc I' w' (p.back q T s.objs.length) v (x.leafs (AV.ren (backName T s.objs.length)))) ∧
      ∀ i, i < GT.given → p.back q T s.objs.length i = p i ∨ p.back q T s.objs.length i = none := by
  have hTj : ∀ j, j < T.length → ∃ i, T[j]? = some i ∧ idxIn T i = some j ∧ i < s.objs.length := fun j hj => by
    refine ⟨T[j], List.getElem?_eq_getElem hj, idxIn_of hnd (List.getElem?_eq_getElem hj), hT _ (List.getElem_mem hj)⟩
  -- the blocks that were given
  have hG : ∀ b, blksAll (fun j => (T[j]?).bind p) b → ∃ i r, idxIn T i ≠ none ∧ p i = some r ∧ r.nul = false ∧ r.blk = b := fun b ⟨j, r, hj, hl, hb⟩ => by
    simp only [Option.bind_eq_some_iff] at hj
    obtain ⟨i, hi, hpi⟩ := hj
    exact ⟨i, r, by rw [idxIn_of hnd hi]; simp, hpi, hl, hb⟩
  have hGI : ∀ b, I b → ¬ blksAll (fun j => (T[j]?).bind p) b := fun b hb hg => by
    obtain ⟨i, r, _, hr, hl, rfl⟩ := hG b hg
    exact (h.own i r hr hl).2.2 hb
  have hGp : ∀ i r, idxIn T i = none → p i = some r → r.nul = false → ¬ blksAll (fun j => (T[j]?).bind p) r.blk := fun i r hi hr hl hg => by
    obtain ⟨i', r', h1, h2, h3, h4⟩ := hG _ hg
    have := h.inj i' i r' r h2 hr h3 hl h4
    subst this
    exact h1 hi
  have hw : ∀ b, b < w.heap.size → ¬ blksAll (fun j => (T[j]?).bind p) b → w'.heap[b]? = w.heap[b]? := fun b hb hg => hf.block b hb hg
  have hwI : ∀ b, I b → w'.heap[b]? = w.heap[b]? := fun b hb => hw b (h.imm b hb) (hGI b hb)
  -- what a place of the new ones is
  have hinv : ∀ i r, p.back q T s.objs.length i = some r → (∃ j, q j = some r ∧ backName T s.objs.length j = some i) ∨ (idxIn T i = none ∧ p i = some r) := fun i r hi => by
    simp only [Place.back] at hi
    cases hx : idxIn T i with
    | some j =>
      rw [hx] at hi
      exact .inl ⟨j, hi, by simp [backName, idxIn_get hx]⟩
    | none =>
      rw [hx] at hi
      simp only at hi
      split at hi
      · exact .inr ⟨rfl, hi⟩
      · rename_i hge
        refine .inl ⟨_, hi, ?_⟩
        have : T[T.length + (i - s.objs.length)]? = none := List.getElem?_eq_none (by omega)
        simp only [backName, this]
        congr 1
        omega
  have hbk : ∀ j i r, backName T s.objs.length j = some i → q j = some r → p.back q T s.objs.length i = some r := fun j i r hn hr => by
    simp only [backName, Option.some.injEq] at hn
    cases hj : T[j]? with
    | some i' =>
      rw [hj] at hn
      simp only at hn
      subst hn
      simp only [Place.back, idxIn_of hnd hj]
      exact hr
    | none =>
      rw [hj] at hn
      simp only at hn
      have hge : T.length ≤ j := by
        rcases Nat.lt_or_ge j T.length with h | h
        · rw [List.getElem?_eq_getElem h] at hj; cases hj
        · exact h
      have hx : idxIn T i = none := by
        cases hx : idxIn T i with
        | none => rfl
        | some j' => have := hT i (List.mem_of_getElem? (idxIn_get hx)); omega
      simp only [Place.back, hx]
      rw [if_neg (by omega), ← hn]
      rw [show T.length + (s.objs.length + (j - T.length) - s.objs.length) = j by omega]
      exact hr
  have hlf : ∀ i j r, leftName T os i = some j → p i = some r → p.back q T s.objs.length j = some r := fun i j r hn hr => by
    simp only [leftName] at hn
    cases hx : idxIn T i with
    | none =>
      rw [hx] at hn
      injection hn with hn
      subst hn
      simp only [Place.back, hx, if_pos (h.lt hr)]
      exact hr
    | some k =>
      rw [hx] at hn
      simp only at hn
      split at hn
      · cases hn
      · rename_i hd
        injection hn with hn
        subst hn
        simp only [Place.back, hx]
        have hk : k < T.length := by have := (List.getElem?_eq_some_iff.1 (idxIn_get hx)).1; exact this
        rcases hq k hk with h1 | h1
        · rw [h1, idxIn_get hx]; exact hr
        · have ho := hh.obj k
          cases hk' : os.getD k .dead with
          | dead => rw [hk'] at hd; exact absurd rfl hd
          | box cs => rw [hk'] at ho; obtain ⟨r', _, _, h2, _⟩ := ho; rw [h1] at h2; cases h2
          | arr k xs => rw [hk'] at ho; obtain ⟨r', h2, _⟩ := ho; rw [h1] at h2; cases h2
          | mp kd m => rw [hk'] at ho; obtain ⟨r', _, h2, _⟩ := ho; rw [h1] at h2; cases h2
  have hconc : ∀ (v : Value) (x : AV), Conc I' w' q v x → Conc I' w' (p.back q T s.objs.length) v (x.leafs (AV.ren (backName T s.objs.length))) :=
    fun v x hx => hx.ren _ (fun _ _ => rfl) (fun _ h => h) hbk
  refine ⟨⟨by simp [St.back, AV.leafsL_eq, h.size], fun i v x e e' => ?_, h.defers, fun i => ?_, fun i j r r' hi hj hl hl' hb => ?_, fun i r hi hl => ?_, hlt, ?_, fun g cs hg => (h.glob g cs hg).mono hwI hI fun _ _ h => h, by have := h.given; simp [St.back]; omega⟩, hconc, fun i hi => ?_⟩
  · simp only [St.back, AV.leafsL_eq] at e'
    obtain ⟨y, hy, rfl⟩ := map_get e'
    exact (h.slot i v y e hy).ren _ hwI hI hlf
  · rw [St.back_obj s os hT]
    cases hx : idxIn T i with
    | some j => exact (hh.obj j).ren _ (fun _ _ => rfl) (fun _ h => h) (fun _ _ _ => rfl) (by simp only [Place.back, hx]) hbk
    | none =>
      simp only
      split
      · rename_i hi
        exact (h.obj i).ren _ hwI hI (fun r hr hl => hw _ (h.own i r hr hl).2.1 (hGp i r hx hr hl)) (by simp only [Place.back, hx, if_pos hi]) hlf
      · rename_i hi
        exact (hh.obj _).ren _ (fun _ _ => rfl) (fun _ h => h) (fun _ _ _ => rfl) (by simp only [Place.back, hx, if_neg hi]) hbk
  · rcases hinv i r hi with ⟨i', g1, g2⟩ | ⟨g1, g2⟩ <;> rcases hinv j r' hj with ⟨j', g3, g4⟩ | ⟨g3, g4⟩
    · have := hh.inj i' j' r r' g1 g3 hl hl' hb
      subst this
      rw [g2] at g4
      exact Option.some.inj g4
    · rcases (hh.own i' r g1 hl).1 with hs | hs
      · have := (h.own j r' g4 hl').2.1; omega
      · rw [hb] at hs; exact absurd hs (hGp j r' g3 g4 hl')
    · rcases (hh.own j' r' g3 hl').1 with hs | hs
      · have := (h.own i r g2 hl).2.1; omega
      · rw [← hb] at hs; exact absurd hs (hGp i r g1 g2 hl)
    · exact h.inj i j r r' g2 g4 hl hl' hb
  · rcases hinv i r hi with ⟨i', g1, g2⟩ | ⟨g1, g2⟩
    · obtain ⟨h1, h2, h3⟩ := hh.own i' r g1 hl
      refine ⟨?_, h2, h3⟩
      rcases h1 with h1 | h1
      · exact .inl (by have := h.frame.size; omega)
      · obtain ⟨k, r', _, hk, hl', hb⟩ := hG _ h1
        rw [← hb]; exact (h.own k r' hk hl').1
    · obtain ⟨h1, h2, h3⟩ := h.own i r g2 hl
      refine ⟨h1, by have := hf.size; omega, fun hb => ?_⟩
      rcases hI' _ hb with hb | hb | hb
      · exact h3 hb
      · omega
      · exact hGp i r g1 g2 hl hb
  · refine ⟨hf.os.trans h.frame.os, hf.tape.trans h.frame.tape, hf.output.trans h.frame.output, by have := h.frame.size; have := hf.size; omega, fun k hk hg => ?_⟩
    rw [hw k (by have := h.frame.size; omega) fun hc => ?_]
    · exact h.frame.block k hk hg
    · obtain ⟨j, r', _, hj, hl', hb⟩ := hG _ hc
      rcases (h.own j r' hj hl').1 with h1 | h1
      · omega
      · rw [hb] at h1; exact hg h1
  · simp only [Place.back]
    cases hx : idxIn T i with
    | none => left; simp only; rw [if_pos (by have := h.given; omega)]
    | some j =>
      have hj : j < T.length := (List.getElem?_eq_some_iff.1 (idxIn_get hx)).1
      simp only
      rcases hq j hj with h1 | h1
      · left; rw [h1, idxIn_get hx]; rfl
      · exact .inr h1

/-- Objects handed back that hang on no memory but their own need nothing to be unwritable. -/
theorem Handed.ofFlat {I' I2 : Nat → Prop} {B : Nat → Prop} {w' : World} {q : Place} {os : List Obj} (h : Handed I' B w' q os) (hf : ∀ o, o ∈ os → o.flat) (hI : ∀ b, I2 b → ¬ B b) : Handed I2 B w' q os := by
  refine ⟨fun id => ?_, h.inj, fun i r hi hl => ?_⟩
  · have ho := h.obj id
    have hfl : (os.getD id .dead).flat := by
      rw [List.getD_eq_getElem?_getD]
      cases he : os[id]? with
      | none => trivial
      | some o => exact hf o (List.mem_of_getElem? he)
    generalize os.getD id .dead = o at ho hfl
    cases o with
    | dead => exact ho
    | box cs =>
      obtain ⟨r, c, E, hr, hn, hc, hl, hv⟩ := ho
      refine ⟨r, c, E, hr, hn, hc, hl, fun j x e => ?_⟩
      obtain ⟨u, e1, e2, e3⟩ := hv j x e
      exact ⟨u, e1, e2, e3.ofFlat (AV.flatL_mem hfl x (List.mem_of_getElem? e))⟩
    | arr k xs =>
      obtain ⟨r, hr, h1 | ⟨hn, c, E, hh, hl, hm, hs, hk, hv⟩⟩ := ho
      · exact ⟨r, hr, .inl h1⟩
      · refine ⟨r, hr, .inr ⟨hn, c, E, hh, hl, hm, hs, hk, fun i j x y e e' => ?_⟩⟩
        obtain ⟨u, e1, e2, e3⟩ := hv i j x y e e'
        exact ⟨u, e1, e2, e3.ofFlat (AV.flatL_mem (hfl x (List.mem_of_getElem? e)) y (List.mem_of_getElem? e'))⟩
    | mp kd m =>
      obtain ⟨r, es, hr, hn, hh, hl, hkd, hnd, hv⟩ := ho
      refine ⟨r, es, hr, hn, hh, hl, hkd, hnd, fun i e key x he hm => ?_⟩
      obtain ⟨h1, h2, h3⟩ := hv i e key x he hm
      exact ⟨h1, h2, h3.ofFlat (hfl _ (List.mem_of_getElem? hm))⟩
  · obtain ⟨h1, h2, _⟩ := h.own i r hi hl
    exact ⟨h1, h2, fun hb => hI _ hb h1⟩

/-- The arguments of a call: which function, and what it gets. -/
def callOf (GT : Ctx) (s : St) : Op → Option (FuncId × List AV)
  | .call { callee := .value f, args, .. } => match ev GT s f with
    | .clo (.func g) first captured => some (g, first ++ args.toList.map (ev GT s) ++ captured)
    | _ => none
  | _ => none

theorem callOf_run {o : Oper} {f : FuncId} {args : List AV} (h : callOf GT s o.op = some (f, args)) (hs : Sim GT w0 G p I s a w) (he : Enters P f) :
    ∃ vs : Array Value, (execOp a.eval o).run P w = .ok (.enter f vs) w ∧ vs.size = args.length ∧ ∀ (i : Nat) (v : Value) (x : AV), vs[i]? = some v → args[i]? = some x → Conc I w p v x := by
  unfold callOf at h
  split at h
  · rename_i fo argso ty ho
    split at h
    · rename_i g first captured hf
      simp only [Option.some.injEq, Prod.mk.injEq] at h
      obtain ⟨rfl, rfl⟩ := h
      have hc := hs.ev fo
      rw [hf] at hc
      generalize hfv : a.eval fo = fv at hc
      cases hc with
      | @clo _ _ fs cs _ _ hl hl' h1 h2 =>
        refine ⟨fs ++ argso.map a.eval ++ cs, ?_, by simp [hl, hl'], fun i v x e e' => ?_⟩
        · simp [execOp, ho, resolve, Deferred.ofValue, hfv, invoke, callFunc_run he]
        · rw [Array.getElem?_append] at e
          rw [List.getElem?_append] at e'
          simp only [Array.size_append, Array.size_map, List.length_append, List.length_map, Array.length_toList, hl] at e e'
          split at e
          · rename_i hlt
            rw [if_pos hlt] at e'
            rw [Array.getElem?_append] at e
            rw [List.getElem?_append] at e'
            rw [hl] at e'
            split at e
            · rename_i hlt2
              rw [if_pos hlt2] at e'
              exact h1 _ _ _ e e'
            · rename_i hlt2
              rw [if_neg hlt2] at e'
              obtain ⟨y, hy, rfl⟩ : ∃ y, argso[i - fs.size]? = some y ∧ x = ev GT s y := by
                rw [List.getElem?_map, Array.getElem?_toList] at e'
                cases hq : argso[i - fs.size]? with
                | none => rw [hq] at e'; cases e'
                | some y => rw [hq] at e'; injection e' with e'; exact ⟨y, rfl, e'.symm⟩
              rw [Array.getElem?_map, hy] at e
              injection e with e
              subst e
              exact hs.ev y
          · rename_i hlt
            rw [if_neg hlt] at e'
            exact h2 _ _ _ e e'
    · cases h
  · cases h

/-- Less is said of a state. -/
def SemLe (GT : Ctx) (s s' : St) : Prop := ∀ (B : Base) (a : Act) (w : World), StC GT B s a w → StC GT B s' a w
theorem SemLe.refl (GT : Ctx) (s : St) : SemLe GT s s := fun _ _ _ h => h

/-- A call. m: it may write what was there. F0: what is handed over for good, F: what is handed over until it returns (and nothing that comes back hangs on it), T: what it may write. -/
def CallG (P : Program) (GT : Ctx) (m : Bool) (s : St) (f : FuncId) (args : List AV) (d : Option Tmp) (K : St → Prop) : Prop :=
  ∃ (T F : List Nat) (R : AV → List Obj → Prop), (m = true ∨ T = []) ∧ nodupB T = true ∧ (T.all fun i => !(s.obj i).isDead && !F.contains i) = true ∧
    Holds P GT.tab f (args.map fun x => (x.leafs (frzF s F)).leafs (AV.ren (idxIn T))) (T.map fun i => ((s.obj i).leafs (frzF s F)).leafs (AV.ren (idxIn T))) R ∧
    ∀ r os, R r os → (F = [] ∨ flatRes r os) ∧ ∃ s2, SemLe GT ((s.back T os).put d (r.leafs (AV.ren (backName T s.objs.length)))) s2 ∧ K s2
def CallA (P : Program) (GT : Ctx) (m : Bool) (s : St) (f : FuncId) (args : List AV) (d : Option Tmp) (K : St → Prop) : Prop :=
  ∃ F0 : List Nat, CallG P GT m (s.frz F0) f (args.map (AV.leafs (frzF s F0))) d K

theorem StC.callG {o : Oper} {f : FuncId} {args : List AV} {m : Bool} {K : St → Prop} (_hent : Enters P f) {vs : Array Value} {p : Place} {I : Nat → Prop}
    (hrun : (execOp a.eval o).run P w = .ok (.enter f vs) w) (hsz : vs.size = args.length) (hargsC : ∀ (i : Nat) (v : Value) (x : AV), vs[i]? = some v → args[i]? = some x → Conc I w p v x)
    (hsim : Sim GT B.w0 B.G p I s a w) (hI0 : ∀ b, B.I0 b → I b) (hI1 : ∀ b, I b → B.I0 b ∨ B.w0.heap.size ≤ b ∨ B.G b) (hgv : ∀ i, i < GT.given → p i = B.q0 i ∨ p i = none)
    (hk : CallG P GT m s f args o.dst K) {next : Act → World → Prop} {Q : Exit → Act → World → Prop}
    (hnext : ∀ s' a' w', K s' → (m = false → Agree w w') → StC GT B s' a' w' → next a' w') : o.wp P a w next Q := by
  obtain ⟨T, F, R, hmT, hnd, hTa, ⟨_, hcontract⟩, hK⟩ := hk
  have hT1 : ∀ i, i ∈ T → i < s.objs.length ∧ F.contains i = false := fun i hi => by
    have := List.all_eq_true.1 hTa i hi
    simp only [Bool.and_eq_true, Bool.not_eq_true'] at this
    refine ⟨obj_lt fun h => ?_, this.2⟩
    rw [h] at this
    cases this.1
  -- what the callee sees
  have hfz := fun (v : Value) (x : AV) (hx : Conc I w p v x) => hx.leafs (I' := fun b => I b ∨ blksOf p F b) (w' := w) (p' := p.drop F) (fun _ _ => rfl) (fun _ h => .inl h) (frzF_conc hsim F)
  have hrenT : ∀ i j r, idxIn T i = some j → p.drop F i = some r → (fun j => (T[j]?).bind p) j = some r := fun i j r hj hr => by
    simp only [idxIn_get hj, Option.bind_some]
    rw [Place.drop_not (by rw [(hT1 i (List.mem_of_getElem? (idxIn_get hj))).2]; simp)] at hr
    exact hr
  have hq0 : ∀ (j : Nat) (r' : Real), (T[j]?).bind p = some r' → ∃ x, T[j]? = some x ∧ p x = some r' := fun j r' h => by
    simp only [Option.bind_eq_some_iff] at h
    exact h
  have hFT : ∀ b, blksOf p F b → ¬ blksAll (fun j => (T[j]?).bind p) b := fun b ⟨i, r, hi, hr, hl, hb⟩ ⟨j, r', hj, hl', hb'⟩ => by
    obtain ⟨x, hx, hpx⟩ := hq0 j r' hj
    have := hsim.inj i x r r' hr hpx hl hl' (hb.trans hb'.symm)
    subst this
    rw [(hT1 i (List.mem_of_getElem? hx)).2] at hi
    cases hi
  have hgiven : Given (fun b => I b ∨ blksOf p F b) w (fun j => (T[j]?).bind p) (T.map fun i => ((s.obj i).leafs (frzF s F)).leafs (AV.ren (idxIn T))) := by
    refine ⟨fun id => ?_, fun i j r1 r2 hi hj hl hl' hb => ?_, fun i r1 hi hl => ?_⟩
    · rw [List.getD_eq_getElem?_getD, List.getElem?_map]
      cases hx : T[id]? with
      | none => simp [ObjConc, hx]
      | some x =>
        have h1 := (hsim.obj x).leafs (I' := fun b => I b ∨ blksOf p F b) (w' := w) (p' := p.drop F) (id' := x) (fun _ _ => rfl) (fun _ h => .inl h) (fun _ _ _ => rfl) (Place.drop_not (by rw [(hT1 x (List.mem_of_getElem? hx)).2]; simp)) (frzF_conc hsim F)
        exact h1.ren (p' := fun j => (T[j]?).bind p) (id' := id) _ (fun _ _ => rfl) (fun _ h => h) (fun _ _ _ => rfl) (by simp only [hx, Option.bind_some]; rw [Place.drop_not (by rw [(hT1 x (List.mem_of_getElem? hx)).2]; simp)]) hrenT
    · obtain ⟨x, hx, hpx⟩ := hq0 i r1 hi
      obtain ⟨y, hy, hpy⟩ := hq0 j r2 hj
      obtain rfl := hsim.inj x y r1 r2 hpx hpy hl hl' hb
      exact nodupB_inj hnd i j x hx hy
    · obtain ⟨x, hx, hpx⟩ := hq0 i r1 hi
      obtain ⟨_, h2, h3⟩ := hsim.own x r1 hpx hl
      refine ⟨h2, ?_⟩
      rintro (h | h)
      · exact h3 h
      · exact hFT _ h ⟨i, r1, hi, hl, rfl⟩
  have hIb : ∀ b, I b ∨ blksOf p F b → b < w.heap.size := fun b hb => by
    rcases hb with hb | ⟨i, r, _, hr, hl, hb⟩
    · exact hsim.imm b hb
    · rw [← hb]; exact (hsim.own i r hr hl).2.1
  have hcall := hcontract w (fun b => I b ∨ blksOf p F b) vs (fun j => (T[j]?).bind p) (by simp [hsz]) (fun i v x e e' => by
    obtain ⟨y, hy, rfl⟩ := map_get e'
    exact (hfz v y (hargsC i v y e hy)).ren _ (fun _ _ => rfl) (fun _ h => h) hrenT) hgiven hIb fun g cs hg => (hsim.glob g cs hg).mono (fun _ _ => rfl) (fun _ h => .inl h) fun _ _ h => h
  unfold Oper.wp
  rw [hrun, Oper.upon_enter]
  refine hcall.mono ?_
  rintro e w' ⟨v, q, I', r, os, hR, rfl, hf, hI2, hI3, hI4, hv, hh, hq⟩
  obtain ⟨hflat, s2, hle2, hKs⟩ := hK r os hR
  have hlenT : (T.map fun i => ((s.obj i).leafs (frzF s F)).leafs (AV.ren (idxIn T))).length = T.length := by simp
  rw [hlenT] at hq
  have hag : m = false → Agree w w' := fun hm => by
    rcases hmT with h | h
    · rw [hm] at h; cases h
    · subst h
      refine ⟨hf.size, fun b hb => hf.block b hb fun ⟨j, r, hj, _⟩ => ?_⟩
      simp at hj
  -- what is unwritable for the caller
  obtain ⟨I'', k1, k2, k3, k4, k5⟩ : ∃ I'' : Nat → Prop, (∀ b, I b → I'' b) ∧ (∀ b, I'' b → I b ∨ w.heap.size ≤ b ∨ blksAll (fun j => (T[j]?).bind p) b) ∧ (∀ b, I'' b → b < w'.heap.size) ∧ Conc I'' w' q v r ∧ Handed I'' (fun b => w.heap.size ≤ b ∨ blksAll (fun j => (T[j]?).bind p) b) w' q os := by
    rcases hflat with hF | hflat
    · subst hF
      refine ⟨I', fun b hb => hI2 b (.inl hb), fun b hb => ?_, hI4, hv, hh⟩
      rcases hI3 b hb with (h | ⟨i, r, hi, _⟩) | h
      · exact .inl h
      · simp at hi
      · exact .inr h
    · refine ⟨I, fun _ h => h, fun _ h => .inl h, fun b hb => by have := hsim.imm b hb; have := hf.size; omega, hv.ofFlat hflat.1, hh.ofFlat hflat.2 fun b hb hB => ?_⟩
      rcases hB with hB | ⟨j, r', hj, hl', hb'⟩
      · have := hsim.imm b hb; omega
      · obtain ⟨x, hx, hpx⟩ := hq0 j r' hj
        rw [← hb'] at hb
        exact (hsim.own x r' hpx hl').2.2 hb
  obtain ⟨hsim', hconc, hgv'⟩ := hsim.back hnd (fun i hi => (hT1 i hi).1) hf k1 k2 k3 k5 hq
  refine hnext _ _ _ hKs hag (hle2 _ _ _ ⟨_, I'', hsim'.put o.dst (hconc v r k4), fun b hb => k1 b (hI0 b hb), fun b hb => ?_, fun i hi => ?_⟩)
  · rcases k2 b hb with h | h | ⟨j, r', hj, hl', hb'⟩
    · exact hI1 b h
    · exact .inr (.inl (by have := hsim.frame.size; omega))
    · obtain ⟨x, hx, hpx⟩ := hq0 j r' hj
      rw [← hb']
      exact .inr (hsim.own x r' hpx hl').1
  · rcases hgv' i hi with h | h
    · rw [h]; exact hgv i hi
    · exact .inr h

/-- What is handed over for good. -/
theorem StC.frz (hs : StC GT B s a w) (T : List Nat) : StC GT B (s.frz T) a w := by
  obtain ⟨p, I, hsim, h1, h2, h3⟩ := hs
  refine ⟨_, _, hsim.frz T, fun b hb => .inl (h1 b hb), fun b hb => ?_, fun i hi => ?_⟩
  · rcases hb with hb | ⟨i, r, _, hr, hl, hb⟩
    · exact h2 b hb
    · rw [← hb]; exact .inr (hsim.own i r hr hl).1
  · by_cases hT : T.contains i = true
    · exact .inr (Place.drop_yes hT)
    · rw [Place.drop_not hT]; exact h3 i hi

theorem StC.call {o : Oper} {f : FuncId} {args : List AV} {m : Bool} {K : St → Prop} (hc : callOf GT s o.op = some (f, args)) (hk : CallA P GT m s f args o.dst K) (hs : StC GT B s a w) {next : Act → World → Prop} {Q : Exit → Act → World → Prop}
    (hnext : ∀ s' a' w', K s' → (m = false → Agree w w') → StC GT B s' a' w' → next a' w') : o.wp P a w next Q := by
  obtain ⟨F0, hk⟩ := hk
  obtain ⟨p, I, hsim, h1, h2, h3⟩ := hs
  have hent : Enters P f := by obtain ⟨T, F, R, _, _, _, hh, _⟩ := hk; exact hh.1
  obtain ⟨vs, hrun, hsz, hargsC⟩ := callOf_run (P := P) hc hsim hent
  have hs1 : StC GT B (s.frz F0) a w := StC.frz ⟨p, I, hsim, h1, h2, h3⟩ F0
  have hsim1 := hsim.frz F0
  refine StC.callG (B := B) (vs := vs) (p := p.drop F0) (I := fun b => I b ∨ blksOf p F0 b) hent hrun (by simp [hsz]) (fun i v x e e' => ?_) hsim1 (fun b hb => .inl (h1 b hb)) (fun b hb => ?_) (fun i hi => ?_) hk hnext
  · obtain ⟨y, hy, rfl⟩ := map_get e'
    exact (hargsC i v y e hy).leafs (fun _ _ => rfl) (fun _ h => .inl h) (frzF_conc hsim F0)
  · rcases hb with hb | ⟨i, r, _, hr, hl, hb⟩
    · exact h2 b hb
    · rw [← hb]; exact .inr (hsim.own i r hr hl).1
  · by_cases hT : F0.contains i = true
    · exact .inr (Place.drop_yes hT)
    · rw [Place.drop_not hT]; exact h3 i hi

end
/-- What the abstract machine says of a stack of code: from every frame and world of which s is said, the machine comes to an exit at which Q is. -/
def J (P : Program) (GT : Ctx) (k : List Item) (s : St) (Q : Exit → St → Prop) : Prop :=
  ∀ (B : Base) (a : Act) (w : World), StC GT B s a w → ∀ (b : Frame) (k0 : List Item) (cs : List Frame),
    ∃ e a' w' s', Q e s' ∧ StC GT B s' a' w' ∧ Arrives P (lone (b.at a (k ++ k0)) cs w) b k0 cs e a' w'

section
variable {P : Program} {GT : Ctx} {s : St} {k : List Item} {Q : Exit → St → Prop}

theorem J.mono {Q' : Exit → St → Prop} (h : J P GT k s Q) (hq : ∀ e s, Q e s → Q' e s) : J P GT k s Q' := fun B a w hs b k0 cs =>
  let ⟨e, a', w', s', h1, h2, h3⟩ := h B a w hs b k0 cs
  ⟨e, a', w', s', hq _ _ h1, h2, h3⟩

theorem J_nil (h : Q .normal s) : J P GT [] s Q := fun _ a w hs _ _ _ => ⟨.normal, a, w, s, h, hs, Steps.refl _ _⟩

theorem J_step {k' : List Item} (hstep : ∀ (b : Frame) (a : Act) (w : World) (k0 : List Item) (cs : List Frame), step P (lone (b.at a (k ++ k0)) cs w) = .next (lone (b.at a (k' ++ k0)) cs w)) (h : J P GT k' s Q) : J P GT k s Q :=
  fun B a w hs b k0 cs =>
  let ⟨e, a', w', s', h1, h2, h3⟩ := h B a w hs b k0 cs
  ⟨e, a', w', s', h1, h2, .of_steps (.one (hstep b a w k0 cs)) h3⟩

theorem J_skip (h : J P GT k s Q) : J P GT (.code .skip :: k) s Q := J_step (fun _ _ _ _ _ => step_skip) h
theorem J_label {l : Nat} (h : J P GT k s Q) : J P GT (.code (.label l) :: k) s Q := J_step (fun _ _ _ _ _ => step_label) h
theorem J_inBlock {id : Nat} (h : J P GT k s Q) : J P GT (.inBlock id :: k) s Q := J_step (fun _ _ _ _ _ => step_inBlock) h
theorem J_seq {x y : Code} (h : J P GT (.code x :: .code y :: k) s Q) : J P GT (.code (.seq x y) :: k) s Q := J_step (fun _ _ _ _ _ => step_seq) h
theorem J_block {id : Nat} {c : Code} (h : J P GT (.code c :: .inBlock id :: k) s Q) : J P GT (.code (.block id c) :: k) s Q := J_step (fun _ _ _ _ _ => step_block) h

theorem exitTo_append {id : Nat} : ∀ {k k' : List Item} (k0 : List Item), exitTo id k = some k' → exitTo id (k ++ k0) = some (k' ++ k0)
  | [], _, _, h => by cases h
  | x :: k, k', k0, h => by
    have ih := fun h => exitTo_append (id := id) (k := k) (k' := k') k0 h
    cases x with
    | inBlock i =>
      simp only [exitTo, List.cons_append] at h ⊢
      split at h
      · rename_i hi
        injection h with h
        subst h
        rw [if_pos hi]
      · rename_i hi
        rw [if_neg hi]
        exact ih h
    | _ => exact ih h

theorem J_exit {id : Nat} {k' : List Item} (he : exitTo id k = some k') (h : J P GT k' s Q) : J P GT (.code (.exit id) :: k) s Q :=
  J_step (fun _b _a _w k0 _cs => step_exit (exitTo_append k0 he)) h

theorem exitTo_none {id : Nat} : ∀ {k : List Item} (k0 : List Item), exitTo id k = none → exitTo id (k ++ k0) = exitTo id k0
  | [], _, _ => rfl
  | x :: k, k0, h => by
    have ih := fun h => exitTo_none (id := id) (k := k) k0 h
    cases x with
    | inBlock i =>
      simp only [exitTo, List.cons_append] at h ⊢
      split at h
      · cases h
      · rename_i hi
        rw [if_neg hi]
        exact ih h
    | _ => exact ih h

theorem J_exitOut {id : Nat} (he : exitTo id k = none) (h : Q (.exit id) s) : J P GT (.code (.exit id) :: k) s Q :=
  fun _ a w hs _ k0 _ => ⟨.exit id, a, w, s, h, hs, fun _ hk => .one (step_exit ((exitTo_none k0 he).trans hk))⟩

theorem gotoIn_append {l : Nat} : ∀ {k k' : List Item} (k0 : List Item), gotoIn l k = some k' → gotoIn l (k ++ k0) = some (k' ++ k0)
  | [], _, _, h => by cases h
  | x :: k, k', k0, h => by
    have ih := fun h => gotoIn_append (l := l) (k := k) (k' := k') k0 h
    cases x with
    | inScope c =>
      simp only [gotoIn, List.cons_append] at h ⊢
      split at h
      · injection h with h
        subst h
        rfl
      · exact ih h
    | _ => exact ih h

theorem step_scope {b : Frame} {a : Act} {k : List Item} {cs : List Frame} {w : World} {c : Code} : step P (lone (b.at a (.code (.scope c) :: k)) cs w) = .next (lone (b.at a (.code c :: .inScope c :: k)) cs w) :=
  step_lone_go (by simp [stepG, stepG.exec, Frame.at])
theorem step_inScope {b : Frame} {a : Act} {k : List Item} {cs : List Frame} {w : World} {c : Code} : step P (lone (b.at a (.inScope c :: k)) cs w) = .next (lone (b.at a k) cs w) :=
  step_lone_go (by simp [stepG, stepG.exec, Frame.at])

theorem J_goto {l : Nat} {k' : List Item} (he : gotoIn l k = some k') (h : J P GT k' s Q) : J P GT (.code (.goto l) :: k) s Q :=
  J_step (fun _b _a _w k0 _cs => step_goto (gotoIn_append k0 he)) h
theorem J_scope {c : Code} (h : J P GT (.code c :: .inScope c :: k) s Q) : J P GT (.code (.scope c) :: k) s Q := J_step (fun _ _ _ _ _ => step_scope) h
theorem J_inScope {c : Code} (h : J P GT k s Q) : J P GT (.inScope c :: k) s Q := J_step (fun _ _ _ _ _ => step_inScope) h

theorem J_ret (h : Q .ret s) : J P GT (.code .ret :: k) s Q := fun _ a w hs _ _ _ => ⟨.ret, a, w, s, h, hs, _, .one step_ret⟩

/-- A slot that holds a Bool that is known. -/
def St.know (s : St) : Operand → Bool → St
  | .tmp t, b => { s with slots := s.slots.set t (.raw (.bool b)) }
  | _, _ => s

theorem StC.know {B : Base} {a : Act} {w : World} {c : Operand} {b : Bool} (hs : StC GT B s a w) (h : ev GT s c = .raw (.bool b)) : StC GT B (s.know c b) a w := by
  obtain ⟨p, I, hs, h1, h2⟩ := hs
  refine ⟨p, I, ?_, h1, h2⟩
  cases c with
  | tmp t =>
    refine { hs with size := by simp [St.know, hs.size], slot := fun i v x e e' => ?_, obj := hs.obj }
    simp only [St.know, List.getElem?_set] at e'
    split at e'
    · rename_i hti
      subst hti
      split at e'
      · injection e' with e'
        subst e'
        rename_i hlt
        have := hs.ev (.tmp t)
        rw [h] at this
        have := this.raw_eq
        simp only [Act.eval, Array.getD_eq_getD_getElem?, e] at this
        simp at this
        rw [this]
        exact .raw
      · cases e'
    · exact hs.slot i v x e e'
  | _ => exact hs

theorem J_cond {c : Operand} {x y : Code} {t : Bool} (hc : ev GT s c = .raw (.bool t)) (h : J P GT (.code (if t then x else y) :: k) (s.know c t) Q) : J P GT (.code (.cond c x y) :: k) s Q := by
  intro B a w hs b k0 cs
  have he : a.eval c = .bool t := by
    obtain ⟨p, I, hsim, _⟩ := hs
    have := hsim.ev c
    rw [hc] at this
    exact this.raw_eq
  obtain ⟨e, a', w', s', h1, h2, h3⟩ := h B a w (hs.know hc) b k0 cs
  exact ⟨e, a', w', s', h1, h2, .of_steps (.one (step_cond he)) h3⟩

/-- The operations of a region from number i on. -/
def RO (P : Program) (GT : Ctx) (all : Array Oper) (l : List Nat) (k : List Item) (s : St) (Q : Exit → St → Prop) : Prop :=
  ∀ (B : Base) (a : Act) (w : World), StC GT B s a w → wpOps P all (fun e a' w' => e = .normal ∧ ∀ (b : Frame) (k0 : List Item) (cs : List Frame),
    ∃ e a2 w2 s', Q e s' ∧ StC GT B s' a2 w2 ∧ Arrives P (lone (b.at a' (k ++ k0)) cs w') b k0 cs e a2 w2) l a w

theorem J_region {id : Nat} {ops : Array Oper} (h : RO P GT ops (List.range ops.size) k s Q) : J P GT (.code (.region id ops false) :: k) s Q := by
  intro B a w hs b k0 cs
  obtain ⟨e, a', w', ⟨rfl, hq⟩, harr⟩ := wp_ops _ a w (h B a w hs) b (k ++ k0) cs
  obtain ⟨e, a2, w2, s', h1, h2, h3⟩ := hq b k0 cs
  exact ⟨e, a2, w2, s', h1, h2, .of_steps (.head step_region harr) h3⟩

theorem RO_nil {all : Array Oper} (h : J P GT k s Q) : RO P GT all [] k s Q := fun B a w hs => ⟨rfl, h B a w hs⟩

theorem wpOps_cons {all : Array Oper} {i : Nat} {l : List Nat} {o : Oper} {a : Act} {w : World} {Q : Exit → Act → World → Prop} (ho : all[i]? = some o) (h : if Region.wanted o (yielded all a.tmps) = true then o.wp P a w (wpOps P all Q l) Q else wpOps P all Q l (a.put o.dst undef) w) :
    wpOps P all Q (i :: l) a w := by
  simp only [wpOps, ho]
  split
  · rename_i hw; rw [if_pos hw] at h; exact .inl h
  · rename_i hw; rw [if_neg hw] at h; exact h

/-- The Bool that a guard asks for. -/
def guardSlot (all : Array Oper) (j : Nat) : Option Nat := (all[j]?).bind (·.dst)

theorem yielded_of {all : Array Oper} {j t : Nat} {b : Bool} {B : Base} {a : Act} {w : World} (hs : StC GT B s a w) (hj : guardSlot all j = some t) (hb : s.slots[t]? = some (.raw (.bool b))) : yielded all a.tmps j = some b := by
  obtain ⟨p, I, hs, _⟩ := hs
  have hlt : t < a.tmps.size := by rw [hs.size]; exact (List.getElem?_eq_some_iff.1 hb).1
  have := (hs.slot t _ _ (Array.getElem?_eq_getElem hlt) hb).raw_eq
  unfold yielded
  rw [show (all[j]?).bind (·.dst) = some t from hj]
  simp [Array.getElem?_eq_getElem hlt, this]

theorem StC.put {B : Base} {a : Act} {w : World} (hs : StC GT B s a w) (d : Option Tmp) {v : Value} : StC GT B (s.put d (.raw v)) (a.put d v) w := by
  obtain ⟨p, I, hsim, h1, h2⟩ := hs
  exact ⟨p, I, hsim.put d .raw, h1, h2⟩
theorem yielded_undef {all : Array Oper} {j t : Nat} {vs : Array Value} {B : Base} {a : Act} {w : World} (hs : StC GT B s a w) (hj : guardSlot all j = some t) (hb : s.slots.getD t .top = .raw (.tuple vs)) : yielded all a.tmps j = none := by
  obtain ⟨p, I, hs, _⟩ := hs
  have hlt' : t < s.slots.length := by
    rcases Nat.lt_or_ge t s.slots.length with h | h
    · exact h
    · rw [List.getD_eq_getElem?_getD, List.getElem?_eq_none h] at hb; cases hb
  have hb' : s.slots[t]? = some (.raw (.tuple vs)) := by
    rw [List.getD_eq_getElem?_getD, List.getElem?_eq_getElem hlt'] at hb
    rw [List.getElem?_eq_getElem hlt']
    exact congrArg some hb
  have hlt : t < a.tmps.size := by rw [hs.size]; exact hlt'
  have := (hs.slot t _ _ (Array.getElem?_eq_getElem hlt) hb').raw_eq
  unfold yielded
  rw [show (all[j]?).bind (·.dst) = some t from hj]
  simp [Array.getElem?_eq_getElem hlt, this]
/-- An operation whose guard was not asked. -/
theorem RO_undef {all : Array Oper} {i j t : Nat} {l : List Nat} {o : Oper} {vs : Array Value} {want : Bool} (ho : all[i]? = some o) (hg : o.guard = some (j, want)) (hj : guardSlot all j = some t) (hb : s.slots.getD t .top = .raw (.tuple vs)) (h : RO P GT all l k (s.put o.dst (.raw undef)) Q) : RO P GT all (i :: l) k s Q := by
  intro B a w hs
  refine wpOps_cons ho ?_
  have hy := yielded_undef hs hj hb
  rw [if_neg (by simp [Region.wanted, hg, hy])]
  exact h B _ _ (hs.put o.dst)

/-- An operation whose guard says no. -/
theorem RO_pass {all : Array Oper} {i j t : Nat} {l : List Nat} {o : Oper} {b want : Bool} (ho : all[i]? = some o) (hg : o.guard = some (j, want)) (hj : guardSlot all j = some t) (hb : s.slots[t]? = some (.raw (.bool b))) (hne : b = !want) (h : RO P GT all l k (s.put o.dst (.raw undef)) Q) : RO P GT all (i :: l) k s Q := by
  intro B a w hs
  refine wpOps_cons ho ?_
  have hy := yielded_of hs hj hb
  rw [if_neg (by simp only [Region.wanted, hg, hy]; subst hne; cases want <;> simp)]
  exact h B _ _ (hs.put o.dst)

/-- The Bool in a slot is looked at. -/
theorem RO_know {all : Array Oper} {l : List Nat} {t : Nat} {b : Bool} (hb : s.slots[t]? = some (.raw (.bool b))) (h : RO P GT all l k (s.know (.tmp t) b) Q) : RO P GT all l k s Q := by
  intro B a w hs
  refine h B a w (hs.know ?_)
  simp [ev, List.getD_eq_getElem?_getD, hb]

/-- What is handed over for good. -/
theorem J_frz (T : List Nat) (h : J P GT k (s.frz T) Q) : J P GT k s Q := fun B a w hs b k0 cs => h B a w (hs.frz T) b k0 cs

/-- An object gets a new name. -/
theorem J_move (id : Nat) (hid : id < s.objs.length) (h : J P GT k (s.move id) Q) : J P GT k s Q := fun B a w hs b k0 cs => by
  obtain ⟨p, I, hsim, h1, h2, h3⟩ := hs
  refine h B a w ⟨_, I, (hsim.move hid).1, h1, h2, fun i hi => ?_⟩ b k0 cs
  have := hsim.given
  rw [Place.with_other _ _ (by omega)]
  by_cases hi' : i = id
  · subst hi'; exact .inr (Place.with_same _ _ _)
  · rw [Place.with_other _ _ hi']; exact h3 i hi

/-- A slot that holds a nil slice: it gets a name. -/
def St.nilAt (s : St) (t k : Nat) : St := { slots := s.slots.set t (.own s.objs.length k 0 0), objs := s.objs ++ [.arr k []] }
theorem J_nil_own (t el : Nat) (ht : s.slots.getD t .top = .raw (.slice none 0 0)) (h : J P GT k (s.nilAt t el) Q) : J P GT k s Q := fun B a w hs b k0 cs => by
  obtain ⟨p, I, hsim, h1, h2, h3⟩ := hs
  have hn := hsim.newNil el ⟨0, 0, 0, 0, true⟩ rfl
  refine h B a w ⟨_, I, ⟨by simp [St.nilAt, hsim.size], fun i v x e e' => ?_, hn.defers, hn.obj, hn.inj, hn.own, hn.imm, hn.frame, hn.glob, hn.given⟩, h1, h2, fun i hi => ?_⟩ b k0 cs
  · simp only [St.nilAt, List.getElem?_set] at e'
    split at e'
    · rename_i hti
      subst hti
      split at e'
      · rename_i hlt
        injection e' with e'
        subst e'
        have := hsim.slot t v _ e (List.getElem?_eq_getElem hlt)
        rw [List.getD_eq_getElem?_getD, List.getElem?_eq_getElem hlt] at ht
        simp only [Option.getD_some] at ht
        rw [ht] at this
        rw [this.raw_eq]
        exact .own (Nat.le_refl _) (by simp [maxLen]) (Place.with_same _ _ _) (.inl ⟨rfl, rfl⟩)
      · cases e'
    · exact hn.slot i v x e e'
  · have := hsim.given
    rw [Place.with_other _ _ (by omega)]
    exact h3 i hi

/-- A loop. -/
theorem J_loop {c : Code} (R : St → Prop) (μ : St → Nat) (h0 : R s) (hr : ∀ s, R s → J P GT [.code c] s fun e s' => match e with
    | .normal => R s' ∧ μ s' < μ s
    | .exit id => match exitTo id k with
      | some k' => J P GT k' s' Q
      | none => Q (.exit id) s'
    | .ret => Q .ret s'
    | _ => False) : J P GT (.code (.loop c) :: k) s Q := by
  intro B a w hs b k0 cs
  have key : ∀ n s a w, μ s = n → R s → StC GT B s a w → ∃ e a' w' s', Q e s' ∧ StC GT B s' a' w' ∧ Arrives P (lone (b.at a (.code c :: .inLoop c :: (k ++ k0))) cs w) b k0 cs e a' w' := by
    intro n
    induction n using Nat.strongRecOn with
    | _ n ih =>
      intro s a w hn hR hs
      obtain ⟨e, a1, w1, s1, hq, hs1, harr⟩ := hr s hR B a w hs b (.inLoop c :: (k ++ k0)) cs
      cases e with
      | normal =>
        obtain ⟨hR1, hlt⟩ := hq
        obtain ⟨e2, a2, w2, s2, q2, hs2, harr2⟩ := ih _ (hn ▸ hlt) s1 a1 w1 rfl hR1 hs1
        exact ⟨e2, a2, w2, s2, q2, hs2, .of_steps (Steps.trans harr (.one step_inLoop)) harr2⟩
      | exit id =>
        simp only at hq
        split at hq
        · rename_i k' hk'
          obtain ⟨e2, a2, w2, s2, q2, hs2, harr2⟩ := hq B a1 w1 hs1 b k0 cs
          exact ⟨e2, a2, w2, s2, q2, hs2, .of_steps (harr (k' ++ k0) (by simp only [exitTo]; exact exitTo_append k0 hk')) harr2⟩
        · rename_i hk'
          exact ⟨.exit id, a1, w1, s1, hq, hs1, fun k2 hk2 => harr k2 (by simp only [exitTo]; rw [exitTo_none k0 hk']; exact hk2)⟩
      | ret => exact ⟨.ret, a1, w1, s1, hq, hs1, harr⟩
      | goto l => exact hq.elim
      | panic ch => exact hq.elim
      | outgrown => exact hq.elim
  obtain ⟨e, a', w', s', hq, hs', harr⟩ := key _ s a w rfl h0 hs
  exact ⟨e, a', w', s', hq, hs', .of_steps (.one step_loop) harr⟩

/-- Code by itself, then what follows. -/
theorem J_cut {c : Code} (R : St → Prop) (h : J P GT [.code c] s fun e s' => match e with
    | .normal => R s'
    | .exit id => match exitTo id k with
      | some k' => J P GT k' s' Q
      | none => Q (.exit id) s'
    | .ret => Q .ret s'
    | _ => False) (hk : ∀ s, R s → J P GT k s Q) : J P GT (.code c :: k) s Q := by
  intro B a w hs b k0 cs
  obtain ⟨e, a1, w1, s1, hq, hs1, harr⟩ := h B a w hs b (k ++ k0) cs
  cases e with
  | normal =>
    obtain ⟨e2, a2, w2, s2, q2, hs2, harr2⟩ := hk s1 hq B a1 w1 hs1 b k0 cs
    exact ⟨e2, a2, w2, s2, q2, hs2, .of_steps harr harr2⟩
  | exit id =>
    simp only at hq
    split at hq
    · rename_i k' hk'
      obtain ⟨e2, a2, w2, s2, q2, hs2, harr2⟩ := hq B a1 w1 hs1 b k0 cs
      exact ⟨e2, a2, w2, s2, q2, hs2, .of_steps (harr (k' ++ k0) (exitTo_append k0 hk')) harr2⟩
    · rename_i hk'
      exact ⟨.exit id, a1, w1, s1, hq, hs1, fun k2 hk2 => harr k2 (by rw [exitTo_none k0 hk']; exact hk2)⟩
  | ret => exact ⟨.ret, a1, w1, s1, hq, hs1, harr⟩
  | goto l => exact hq.elim
  | panic ch => exact hq.elim
  | outgrown => exact hq.elim

end
end Go.Proofs.YtangkndckghblaaDoor.Abs
