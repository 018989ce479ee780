/- The abstract step of each operation that calls no Go function, and that it is what the machine does. -/
import Derived.Test.YtangkndckghblaaDoorAbsA
namespace Go.Proofs.YtangkndckghblaaDoor.Abs
set_option linter.unusedSimpArgs false
set_option linter.unusedVariables false
open Go Go.RowKit

/-- What is known of a type. -/
inductive TK where
  | bool | int (k : IntKind) | str | slice (e : Nat) | struct (fs : List (Nat × Nat)) | array (n e : Nat) | map (k e : Nat) | other
structure TD where
  size : Nat
  bytes : Nat
  isAgg : Bool
  zero : Option (List Value)
  kind : TK
def TK.of : TypeDesc → TK
  | .bool => .bool
  | .int k => .int k
  | .string => .str
  | .slice e => .slice e
  | .struct fs => .struct (fs.toList.map fun f => (f.offset, f.type))
  | .array n e => .array n e
  | .map k e => .map k e
  | _ => .other
def isAggD : TypeDesc → Bool
  | .struct _ | .array _ _ => true
  | _ => false
def td (P : Program) (t : TypeId) : Option TD :=
  match P.info? t, P.underlying t with
  | some i, some d => some { size := i.size, bytes := i.bytes, isAgg := isAggD d, zero := i.zero.map (·.cells.toList), kind := TK.of d }
  | _, _ => none

section
variable {P : Program} {t : TypeId} {d : TD}
theorem td_info (h : td P t = some d) : ∃ i desc, P.info? t = some i ∧ P.underlying t = some desc ∧ i.size = d.size ∧ i.bytes = d.bytes ∧ isAggD desc = d.isAgg ∧ i.zero.map (·.cells.toList) = d.zero ∧ TK.of desc = d.kind := by
  unfold td at h
  split at h
  · rename_i i desc h1 h2
    injection h with h
    subst h
    exact ⟨i, desc, h1, h2, rfl, rfl, rfl, rfl, rfl⟩
  · cases h
theorem run_sizeOf (h : td P t = some d) (w : World) : (sizeOf t).run P w = .ok d.size w := by
  obtain ⟨i, desc, h1, _, h2, _⟩ := td_info h
  simp [sizeOf, typeInfo, h1, h2]
theorem run_isAgg (h : td P t = some d) (w : World) : (isAgg t).run P w = .ok d.isAgg w := by
  obtain ⟨i, desc, h1, h2, _, _, h3, _⟩ := td_info h
  rw [← h3]
  simp only [isAgg, Sem.run_bind, run_underlying h2, Result.andThen_ok]
  cases desc <;> simp [isAggD]
theorem run_zeroValue (h : td P t = some d) {z : List Value} (hz : d.zero = some z) (w : World) : ∃ v : Value, (zeroValue t).run P w = .ok v w ∧ v.cells.toList = z := by
  obtain ⟨i, desc, h1, h2, _, _, _, h3, _⟩ := td_info h
  rw [hz] at h3
  cases hv : i.zero with
  | none => rw [hv] at h3; cases h3
  | some v =>
    rw [hv] at h3
    injection h3 with h3
    exact ⟨v, by simp [zeroValue, typeInfo, h1, hv], h3⟩
theorem td_slice {e : Nat} (h : td P t = some d) (hk : d.kind = .slice e) : P.underlying t = some (.slice e) := by
  obtain ⟨i, desc, h1, h2, _, _, _, _, h3⟩ := td_info h
  rw [hk] at h3
  cases desc <;> simp [TK.of] at h3
  subst h3
  exact h2
theorem td_array {n e : Nat} (h : td P t = some d) (hk : d.kind = .array n e) : P.underlying t = some (.array n e) := by
  obtain ⟨i, desc, h1, h2, _, _, _, _, h3⟩ := td_info h
  rw [hk] at h3
  cases desc <;> simp [TK.of] at h3
  obtain ⟨rfl, rfl⟩ := h3
  exact h2
theorem td_struct {fs : List (Nat × Nat)} (h : td P t = some d) (hk : d.kind = .struct fs) : ∃ fields : Array Field, P.underlying t = some (.struct fields) ∧ fields.toList.map (fun f => (f.offset, f.type)) = fs := by
  obtain ⟨i, desc, h1, h2, _, _, _, _, h3⟩ := td_info h
  rw [hk] at h3
  cases desc <;> simp [TK.of] at h3
  exact ⟨_, h2, h3⟩
theorem td_str (h : td P t = some d) (hk : d.kind = .str) : P.underlying t = some .string := by
  obtain ⟨i, desc, h1, h2, _, _, _, _, h3⟩ := td_info h
  rw [hk] at h3
  cases desc <;> simp [TK.of] at h3
  exact h2
theorem td_int {k : IntKind} (h : td P t = some d) (hk : d.kind = .int k) : P.underlying t = some (.int k) := by
  obtain ⟨i, desc, h1, h2, _, _, _, _, h3⟩ := td_info h
  rw [hk] at h3
  cases desc <;> simp [TK.of] at h3
  subst h3
  exact h2
theorem td_bool (h : td P t = some d) (hk : d.kind = .bool) : P.underlying t = some .bool := by
  obtain ⟨i, desc, h1, h2, _, _, _, _, h3⟩ := td_info h
  rw [hk] at h3
  cases desc <;> simp [TK.of] at h3
  exact h2
theorem td_map {k e : Nat} (h : td P t = some d) (hk : d.kind = .map k e) : P.underlying t = some (.map k e) := by
  obtain ⟨i, desc, h1, h2, _, _, _, _, h3⟩ := td_info h
  rw [hk] at h3
  cases desc <;> simp [TK.of] at h3
  obtain ⟨rfl, rfl⟩ := h3
  exact h2
end

/-- The cells of an abstract value; none where it says too little. -/
def cellsOf : AV → Option (List AV)
  | .agg cs => some cs
  | .raw v => if v.oneCell' then some [.raw v] else none
  | .top => none
  | .tup _ => none
  | .lst k xs => some [.lst k xs]
  | .cptr cs => some [.cptr cs]
  | .own i k lo n => some [.own i k lo n]
  | .ref i o => some [.ref i o]
  | .eref i k j o => some [.eref i k j o]
  | .mref i => some [.mref i]
  | .clo f as bs => some [.clo f as bs]

section
variable {GT : Ctx} {w0 : World} {G : Nat → Prop} {p : Place} {I : Nat → Prop} {s : St} {a : Act} {w : World}

theorem one_of {v : Value} {x : AV} (h : v.oneCell' = true) (hc : Conc I w p v x) : v.cells.size = [x].length ∧ ∀ (j : Nat) (c : AV), [x][j]? = some c → ∃ u, v.cells[j]? = some u ∧ u.oneCell' = true ∧ Conc I w p u c := by
  have hcell : v.cells = #[v] := by cases v <;> simp [Value.oneCell'] at h <;> rfl
  refine ⟨by simp [hcell], fun j c e => ?_⟩
  cases j with
  | zero => simp at e; subst e; exact ⟨v, by simp [hcell], h, hc⟩
  | succ j => simp at e

theorem cellsOf_conc {v : Value} {x : AV} {cs : List AV} (h : Conc I w p v x) (e : cellsOf x = some cs) :
    v.cells.size = cs.length ∧ ∀ (j : Nat) (c : AV), cs[j]? = some c → ∃ u, v.cells[j]? = some u ∧ u.oneCell' = true ∧ Conc I w p u c := by
  cases h with
  | top => cases e
  | raw =>
    simp only [cellsOf] at e
    split at e
    · rename_i h1
      injection e with e
      subst e
      exact one_of h1 .raw
    · cases e
  | @agg _ cs' as hl h1 h =>
    injection e with e
    subst e
    refine ⟨hl.symm, fun j c e => ?_⟩
    have hj : j < cs'.size := by rw [← hl]; exact (List.getElem?_eq_some_iff.1 e).1
    exact ⟨cs'[j], Array.getElem?_eq_getElem hj, h1 _ _ (Array.getElem?_eq_getElem hj), h _ _ _ (Array.getElem?_eq_getElem hj) e⟩
  | tup => cases e
  | lst hn hc hm hk hx h1 h => injection e with e; subst e; exact one_of rfl (.lst hn hc hm hk hx h1 h)
  | cptr hb hx h1 h => injection e with e; subst e; exact one_of rfl (.cptr hb hx h1 h)
  | own hn hm hp h => injection e with e; subst e; exact one_of rfl (.own hn hm hp h)
  | ref h hl => injection e with e; subst e; exact one_of rfl (.ref h hl)
  | eref h hl => injection e with e; subst e; exact one_of rfl (.eref h hl)
  | mref h hl => injection e with e; subst e; exact one_of rfl (.mref h hl)
  | clo hl hl' h h' => injection e with e; subst e; exact one_of rfl (.clo hl hl' h h')

/-- The cells behind a pointer, from there on. -/
def memAt (s : St) : AV → Option (List AV)
  | .cptr cs => some cs
  | .ref id off => match s.obj id with
    | .box cs => some (cs.drop off)
    | _ => none
  | .eref id k i off => match s.obj id with
    | .arr k' xs => if k' = k then some ((xs.getD i []).drop off) else none
    | _ => none
  | _ => none

theorem getD_some {xs : List (List AV)} {i j : Nat} {c : AV} (e : (xs.getD i [])[j]? = some c) : xs[i]? = some (xs.getD i []) ∧ i < xs.length := by
  have hi : i < xs.length := by
    rcases Nat.lt_or_ge i xs.length with h | h
    · exact h
    · rw [List.getD_eq_getElem?_getD, List.getElem?_eq_none h] at e; simp at e
  exact ⟨by rw [List.getD_eq_getElem?_getD, List.getElem?_eq_getElem hi]; rfl, hi⟩

theorem memAt_conc (hs : Sim GT w0 G p I s a w) {v : Value} {x : AV} {L : List AV} (h : Conc I w p v x) (e : memAt s x = some L) :
    ∃ b off, v = .pointer (some ⟨b, off, none⟩) ∧ ∀ (j : Nat) (c : AV), L[j]? = some c → ∃ u, w.cell? ⟨b, off + j, none⟩ = some u ∧ u.oneCell' = true ∧ Conc I w p u c := by
  cases h with
  | @cptr _ cs b off f hb hx h1 h =>
    injection e with e
    subst e
    refine ⟨b, off, rfl, fun j c e => ?_⟩
    have hj : j < cs.length := (List.getElem?_eq_some_iff.1 e).1
    exact ⟨f j, hx j hj, h1 j hj, (h j c e).anyPlace⟩
  | @ref _ id off r hr hnl =>
    simp only [memAt] at e
    have ho := hs.obj id
    split at e
    · rename_i cs heq
      injection e with e
      subst e
      rw [heq] at ho
      obtain ⟨r', c, E, hr', _, hh, hl, hv⟩ := ho
      obtain rfl : r = r' := Option.some.inj (hr.symm.trans hr')
      refine ⟨r.blk, r.base + off, rfl, fun j x' e => ?_⟩
      rw [List.getElem?_drop] at e
      obtain ⟨u, h1, h2, h3⟩ := hv _ _ e
      exact ⟨u, by simp [World.cell?, hh]; rw [← h1]; congr 1; omega, h2, h3⟩
    · cases e
  | @eref _ id k i off r hr hnl =>
    simp only [memAt] at e
    have ho := hs.obj id
    split at e
    · rename_i k' xs heq
      split at e
      · rename_i hk
        subst hk
        injection e with e
        subst e
        rw [heq] at ho
        refine ⟨r.blk, _, rfl, fun j x' e => ?_⟩
        obtain ⟨r', hr', ⟨hn, _⟩ | ⟨_, c, E, hh, hl, hm, hsz, hk, hv⟩⟩ := ho
        · obtain rfl : r = r' := Option.some.inj (hr.symm.trans hr')
          rw [hnl] at hn; cases hn
        · obtain rfl : r = r' := Option.some.inj (hr.symm.trans hr')
          rw [List.getElem?_drop] at e
          obtain ⟨u, h1, h2, h3⟩ := hv i (off + j) _ _ (getD_some e).1 e
          exact ⟨u, by simp [World.cell?, hh]; rw [← h1]; congr 1; omega, h2, h3.anyPlace⟩
      · cases e
    · cases e
  | _ => cases e

/- What names no object. -/
mutual
def AV.imm : AV → Bool
  | .agg cs => AV.immL cs
  | .tup cs => AV.immL cs
  | .clo _ as bs => AV.immL as && AV.immL bs
  | .own .. => false
  | .ref .. => false
  | .eref .. => false
  | .mref .. => false
  | .top => true
  | .raw _ => true
  | .lst _ _ => true
  | .cptr _ => true
def AV.immL : List AV → Bool
  | [] => true
  | a :: as => AV.imm a && AV.immL as
end
theorem AV.immL_mem {l : List AV} (h : AV.immL l = true) : ∀ a, a ∈ l → a.imm = true := by
  induction l with
  | nil => intro a ha; cases ha
  | cons b l ih =>
    simp only [AV.immL, Bool.and_eq_true] at h
    intro a ha
    rcases List.mem_cons.1 ha with rfl | ha
    · exact h.1
    · exact ih h.2 a ha
theorem AV.immL_of {l : List AV} (h : ∀ a, a ∈ l → a.imm = true) : AV.immL l = true := by
  induction l with
  | nil => rfl
  | cons b l ih =>
    simp only [AV.immL, Bool.and_eq_true]
    exact ⟨h b List.mem_cons_self, ih fun a ha => h a (List.mem_cons_of_mem _ ha)⟩
mutual
theorem AV.leafs_imm (f : AV → AV) : ∀ x : AV, x.imm = true → x.leafs f = x
  | .agg cs, h => by rw [AV.leafs, AV.leafsL_imm f cs (by simpa [AV.imm] using h)]
  | .tup cs, h => by rw [AV.leafs, AV.leafsL_imm f cs (by simpa [AV.imm] using h)]
  | .clo fn as bs, h => by
    simp only [AV.imm, Bool.and_eq_true] at h
    rw [AV.leafs, AV.leafsL_imm f as h.1, AV.leafsL_imm f bs h.2]
  | .own .., h => by cases h
  | .ref .., h => by cases h
  | .eref .., h => by cases h
  | .mref .., h => by cases h
  | .top, _ => rfl
  | .raw _, _ => rfl
  | .lst _ _, _ => rfl
  | .cptr _, _ => rfl
theorem AV.leafsL_imm (f : AV → AV) : ∀ l : List AV, AV.immL l = true → AV.leafsL f l = l
  | [], _ => rfl
  | a :: l, h => by
    simp only [AV.immL, Bool.and_eq_true] at h
    rw [AV.leafsL, AV.leafs_imm f a h.1, AV.leafsL_imm f l h.2]
end
theorem Conc.ofImm {p' : Place} {v : Value} {x : AV} (h : Conc I w p v x) (hi : x.imm = true) : Conc I w p' v x := by
  have := h.ren (p' := p') (fun _ => none) (fun _ _ => rfl) (fun _ h => h) fun i j r hg => by cases hg
  rwa [AV.leafs_imm _ _ hi] at this

theorem Place.fresh {p : Place} {n : Nat} (hn : p n = none) {ro : Option Real} : ∀ i r, p i = some r → p.with n ro i = some r := fun i r hr => by
  rw [Place.with_other]
  · exact hr
  · rintro rfl; rw [hn] at hr; cases hr

/-- A new block, and the object that it is. -/
theorem Sim.new (h : Sim GT w0 G p I s a w) (r0 : Real) (hb0 : r0.blk = w.heap.size) (_hn0 : r0.nul = false) (b0 : Go.Obj) (o : Obj) {w' : World} (hw : w'.heap = w.heap.push b0) (hos : w'.os = w.os) (htape : w'.tape = w.tape) (hout : w'.output = w.output)
    (ho : ObjConc I w' (p.with s.objs.length (some r0)) s.objs.length o) :
    Sim GT w0 G (p.with s.objs.length (some r0)) I { s with objs := s.objs ++ [o] } a w' := by
  have hn : p s.objs.length = none := h.unplaced (Nat.le_refl _)
  have hpp := Place.fresh hn (ro := some r0)
  have hheap : ∀ b, b < w.heap.size → w'.heap[b]? = w.heap[b]? := fun b hb => by
    rw [hw, Array.getElem?_push, if_neg (by omega)]
  have hI : ∀ b, I b → w'.heap[b]? = w.heap[b]? := fun b hb => hheap b (h.imm b hb)
  have hsz : w'.heap.size = w.heap.size + 1 := by rw [hw]; simp
  refine ⟨h.size, fun i v x e e' => (h.slot i v x e e').mono hI (fun _ h => h) hpp, h.defers, fun id => ?_, fun i j r r' hi hj hl hl' hb => ?_, fun i r hi hl => ?_, fun b hb => ?_, ?_, fun g cs hg => (h.glob g cs hg).mono hI (fun _ h => h) fun _ _ h => h, by have := h.given; simp; omega⟩
  · by_cases hid : id = s.objs.length
    · subst hid
      simpa [St.obj] using ho
    · have hob : ({ s with objs := s.objs ++ [o] } : St).obj id = s.obj id := by
        simp only [St.obj, List.getD_eq_getElem?_getD, List.getElem?_append]
        split
        · rfl
        · rename_i hge
          rw [List.getElem?_eq_none (l := s.objs) (by omega)]
          rw [List.getElem?_eq_none]
          simp; omega
      rw [hob]
      have h1 := (h.obj id).mono hI (fun _ h => h) fun r hr hl => hheap _ (h.own id r hr hl).2.1
      exact h1.place hpp fun hn' => by rw [Place.with_other _ _ hid]; exact hn'
  · by_cases h1 : i = s.objs.length <;> by_cases h2 : j = s.objs.length
    · rw [h1, h2]
    · subst h1
      rw [Place.with_same] at hi
      rw [Place.with_other _ _ h2] at hj
      injection hi with hi
      subst hi
      have := (h.own j r' hj hl').2.1
      omega
    · subst h2
      rw [Place.with_same] at hj
      rw [Place.with_other _ _ h1] at hi
      injection hj with hj
      subst hj
      have := (h.own i r hi hl).2.1
      omega
    · rw [Place.with_other _ _ h1] at hi
      rw [Place.with_other _ _ h2] at hj
      exact h.inj i j r r' hi hj hl hl' hb
  · by_cases h1 : i = s.objs.length
    · subst h1
      rw [Place.with_same] at hi
      injection hi with hi
      subst hi
      have := h.frame.size
      exact ⟨.inl (by omega), by omega, fun hb => by have := h.imm _ hb; omega⟩
    · rw [Place.with_other _ _ h1] at hi
      obtain ⟨h1, h2, h3⟩ := h.own i r hi hl
      exact ⟨h1, by omega, h3⟩
  · have := h.imm b hb
    omega
  · refine ⟨hos.trans h.frame.os, htape.trans h.frame.tape, hout.trans h.frame.output, by have := h.frame.size; omega, fun k hk hg => ?_⟩
    rw [hheap k (by have := h.frame.size; omega)]
    exact h.frame.block k hk hg

/-- A nil slice gets a name. -/
theorem Sim.newNil (h : Sim GT w0 G p I s a w) (k : Nat) (r0 : Real) (hn0 : r0.nul = true) :
    Sim GT w0 G (p.with s.objs.length (some r0)) I { s with objs := s.objs ++ [.arr k []] } a w := by
  have hn : p s.objs.length = none := h.unplaced (Nat.le_refl _)
  have hpp := Place.fresh hn (ro := some r0)
  refine ⟨h.size, fun i v x e e' => (h.slot i v x e e').mono (fun _ _ => rfl) (fun _ h => h) hpp, h.defers, fun id => ?_, fun i j r r' hi hj hl hl' hb => ?_, fun i r hi hl => ?_, h.imm, h.frame, h.glob, by have := h.given; simp; omega⟩
  · by_cases hid : id = s.objs.length
    · subst hid
      have : ({ s with objs := s.objs ++ [.arr k []] } : St).obj s.objs.length = .arr k [] := by simp [St.obj]
      rw [this]
      exact ⟨r0, Place.with_same _ _ _, .inl ⟨hn0, rfl⟩⟩
    · have hob : ({ s with objs := s.objs ++ [.arr k []] } : St).obj id = s.obj id := by
        simp only [St.obj, List.getD_eq_getElem?_getD, List.getElem?_append]
        split
        · rfl
        · rename_i hge
          rw [List.getElem?_eq_none (l := s.objs) (by omega)]
          rw [List.getElem?_eq_none]
          simp; omega
      rw [hob]
      exact (h.obj id).place hpp fun hn' => by rw [Place.with_other _ _ hid]; exact hn'
  · have h1 : i ≠ s.objs.length := by rintro rfl; rw [Place.with_same] at hi; injection hi with hi; rw [← hi, hn0] at hl; cases hl
    have h2 : j ≠ s.objs.length := by rintro rfl; rw [Place.with_same] at hj; injection hj with hj; rw [← hj, hn0] at hl'; cases hl'
    rw [Place.with_other _ _ h1] at hi
    rw [Place.with_other _ _ h2] at hj
    exact h.inj i j r r' hi hj hl hl' hb
  · have h1 : i ≠ s.objs.length := by rintro rfl; rw [Place.with_same] at hi; injection hi with hi; rw [← hi, hn0] at hl; cases hl
    rw [Place.with_other _ _ h1] at hi
    exact h.own i r hi hl

/-- A block of the call's own is written. -/
theorem Sim.write (h : Sim GT w0 G p I s a w) {id : Nat} {r : Real} (hr : p id = some r) (hl : r.nul = false) (o : Obj) {w' : World} (hsz : w'.heap.size = w.heap.size) (hw : ∀ b, b ≠ r.blk → w'.heap[b]? = w.heap[b]?) (hos : w'.os = w.os) (htape : w'.tape = w.tape) (hout : w'.output = w.output)
    (ho : ObjConc I w' p id o) : Sim GT w0 G p I { s with objs := s.objs.set id o } a w' := by
  have hid : id < s.objs.length := h.lt hr
  have hown := h.own id r hr hl
  have hI : ∀ b, I b → w'.heap[b]? = w.heap[b]? := fun b hb => hw b (by rintro rfl; exact hown.2.2 hb)
  refine ⟨h.size, fun i v x e e' => (h.slot i v x e e').mono hI (fun _ h => h) fun _ _ h => h, h.defers, fun j => ?_, h.inj, fun i r hi hl => ?_, fun b hb => ?_, ?_, fun g cs hg => (h.glob g cs hg).mono hI (fun _ h => h) fun _ _ h => h, by simpa using h.given⟩
  · by_cases hj : j = id
    · subst hj
      simpa [St.obj, hid] using ho
    · have hob : ({ s with objs := s.objs.set id o } : St).obj j = s.obj j := by
        simp only [St.obj, List.getD_eq_getElem?_getD, List.getElem?_set]
        rw [if_neg (fun e => hj e.symm)]
      rw [hob]
      exact (h.obj j).mono hI (fun _ h => h) fun r' hr' hl' => hw _ fun e => hj (h.inj _ _ _ _ hr' hr hl' hl e)
  · obtain ⟨h1, h2, h3⟩ := h.own i r hi hl
    exact ⟨h1, by omega, h3⟩
  · have := h.imm b hb
    omega
  · refine ⟨hos.trans h.frame.os, htape.trans h.frame.tape, hout.trans h.frame.output, by have := h.frame.size; omega, fun k hk hg => ?_⟩
    rw [hw k]
    · exact h.frame.block k hk hg
    · rintro rfl
      rcases hown.1 with h1 | h1
      · omega
      · exact hg h1
end

end Go.Proofs.YtangkndckghblaaDoor.Abs
