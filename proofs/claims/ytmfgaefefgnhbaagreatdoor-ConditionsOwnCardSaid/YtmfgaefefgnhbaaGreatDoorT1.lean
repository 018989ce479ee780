/- Abstract values, what they say of the machine's values and memory, and the relation between an abstract state and a frame in a world. No program in sight. The abstract step of each operation that calls no Go function, and that it is what the machine does. The abstract step, operation by operation. The abstract step, operation by operation: addresses, arithmetic, comparisons, cuts. The abstract step: append, make, len, built structs. The abstract step: structs and slices that are built, make, len, min, max. -/
import Derived.WalkKit
namespace Go.Proofs.YtmfgaefefgnhbaaGreatDoor.Abs
set_option linter.unusedSimpArgs false
set_option linter.unusedVariables false
open Go Go.RowKit

/-- Where an abstract object lies: its block, the cell at which it begins, how many elements it has room for. nul: it is a nil slice, and lies nowhere. -/
structure Real where
  blk : Nat
  base : Nat
  cap : Nat
  len : Nat
  nul : Bool

/-- Abstract values. -/
inductive AV where
  | top
  | raw (v : Value)
  | agg (cs : List AV)
  | tup (vs : List AV)
  | lst (k : Nat) (xs : List (List AV))
  | cptr (cs : List AV)
  | own (id k lo n : Nat)
  | ref (id off : Nat)
  | eref (id k i off : Nat)
  | mref (id : Nat)
  | clo (fn : Fn) (first captured : List AV)

/-- Keys of maps. -/
inductive MKey where
  | str (b : ByteArray)
  | int (k : IntKind) (n : Int)
  | ints (l : List (IntKind × Int))
  deriving DecidableEq
/-- Kinds of keys. -/
inductive MKind where
  | str
  | int (k : IntKind)
  | ints (l : List IntKind)
  deriving DecidableEq
def MKey.kind : MKey → MKind
  | .str _ => .str
  | .int k _ => .int k
  | .ints l => .ints (l.map (·.1))
def MKey.val : MKey → Value
  | .str b => .string b
  | .int k n => .int k n
  | .ints l => .agg (l.map fun x => Value.int x.1 x.2).toArray

/-- Abstract objects: what the call owns and may write. -/
inductive Obj where
  | dead
  | box (cs : List AV)
  | arr (k : Nat) (xs : List (List AV))
  | mp (kd : MKind) (m : List (MKey × AV))

abbrev Place := Nat → Option Real
def noPlace : Place := fun _ => none

/-- What is said of a slice that lies in an array. -/
def OwnAt (r : Real) (k lo n : Nat) (A : Option Addr) (c : Nat) : Prop :=
  (r.nul = true ∧ c = 0) ∨ (r.nul = false ∧ (c = 0 ∨ A = some ⟨r.blk, r.base + lo * k, none⟩) ∧ lo + c = r.cap ∧ lo + n ≤ r.len)

/-- What an abstract value says of a value: I the blocks that nobody writes any more, p where the objects lie. -/
inductive Conc (I : Nat → Prop) (w : World) : Place → Value → AV → Prop
  | top {p v} : Conc I w p v .top
  | raw {p v} : Conc I w p v (.raw v)
  | agg {p} {cs : Array Value} {as : List AV} (hl : as.length = cs.size) (h1 : ∀ (i : Nat) (v : Value), cs[i]? = some v → v.oneCell' = true)
      (h : ∀ (i : Nat) (v : Value) (a : AV), cs[i]? = some v → as[i]? = some a → Conc I w p v a) : Conc I w p (.agg cs) (.agg as)
  | tup {p} {cs : Array Value} {as : List AV} (hl : as.length = cs.size)
      (h : ∀ (i : Nat) (v : Value) (a : AV), cs[i]? = some v → as[i]? = some a → Conc I w p v a) : Conc I w p (.tuple cs) (.tup as)
  | lst {p k xs A c n} {f : Nat → Nat → Value} (hn : n = xs.length) (hc : n ≤ c) (hm : c ≤ maxLen) (hk : ∀ x : List AV, x ∈ xs → x.length = k)
      (hx : xs = [] ∨ ∃ b off, A = some ⟨b, off, none⟩ ∧ I b ∧ ∀ i j, i < xs.length → j < k → w.cell? ⟨b, off + i * k + j, none⟩ = some (f i j))
      (h1 : ∀ i j, i < xs.length → j < k → (f i j).oneCell' = true)
      (h : ∀ (i j : Nat) (x : List AV) (a : AV), xs[i]? = some x → x[j]? = some a → Conc I w noPlace (f i j) a) : Conc I w p (.slice A n c) (.lst k xs)
  | cptr {p cs b off} {f : Nat → Value} (hb : I b) (hx : ∀ j, j < cs.length → w.cell? ⟨b, off + j, none⟩ = some (f j))
      (h1 : ∀ j, j < cs.length → (f j).oneCell' = true)
      (h : ∀ (j : Nat) (a : AV), cs[j]? = some a → Conc I w noPlace (f j) a) : Conc I w p (.pointer (some ⟨b, off, none⟩)) (.cptr cs)
  | own {p : Place} {id k lo n A c} {r : Real} (hn : n ≤ c) (hm : c ≤ maxLen) (hp : p id = some r) (h : OwnAt r k lo n A c) : Conc I w p (.slice A n c) (.own id k lo n)
  | ref {p : Place} {id off} {r : Real} (h : p id = some r) (hl : r.nul = false) : Conc I w p (.pointer (some ⟨r.blk, r.base + off, none⟩)) (.ref id off)
  | eref {p : Place} {id k i off} {r : Real} (h : p id = some r) (hl : r.nul = false) : Conc I w p (.pointer (some ⟨r.blk, r.base + i * k + off, none⟩)) (.eref id k i off)
  | mref {p : Place} {id} {r : Real} (h : p id = some r) (hl : r.nul = false) : Conc I w p (.map (some r.blk)) (.mref id)
  | clo {p} {fn : Fn} {fs cs : Array Value} {as bs : List AV} (hl : as.length = fs.size) (hl' : bs.length = cs.size)
      (h : ∀ (i : Nat) (v : Value) (a : AV), fs[i]? = some v → as[i]? = some a → Conc I w p v a)
      (h' : ∀ (i : Nat) (v : Value) (a : AV), cs[i]? = some v → bs[i]? = some a → Conc I w p v a) : Conc I w p (.func fn fs cs) (.clo fn as bs)

theorem cell?_of_heap {w w' : World} {b o : Nat} (h : w'.heap[b]? = w.heap[b]?) : w'.cell? ⟨b, o, none⟩ = w.cell? ⟨b, o, none⟩ := by
  simp [World.cell?, h]

/- The names of objects in a value, given others. -/
mutual
def AV.leafs (f : AV → AV) : AV → AV
  | .agg cs => .agg (AV.leafsL f cs)
  | .tup vs => .tup (AV.leafsL f vs)
  | .clo fn as bs => .clo fn (AV.leafsL f as) (AV.leafsL f bs)
  | .own i k lo n => f (.own i k lo n)
  | .ref i o => f (.ref i o)
  | .eref i k j o => f (.eref i k j o)
  | .mref i => f (.mref i)
  | .top => .top
  | .raw v => .raw v
  | .lst k xs => .lst k xs
  | .cptr cs => .cptr cs
def AV.leafsL (f : AV → AV) : List AV → List AV
  | [] => []
  | a :: as => AV.leafs f a :: AV.leafsL f as
end

theorem AV.leafsL_eq (f : AV → AV) (l : List AV) : AV.leafsL f l = l.map (AV.leafs f) := by
  induction l with
  | nil => rfl
  | cons a l ih => simp [AV.leafsL, ih]

theorem map_get {f : AV → AV} {l : List AV} {j : Nat} {x : AV} (h : (l.map f)[j]? = some x) : ∃ y, l[j]? = some y ∧ x = f y := by
  rw [List.getElem?_map] at h
  cases hj : l[j]? with
  | none => rw [hj] at h; cases h
  | some y => rw [hj] at h; injection h with h; exact ⟨y, rfl, h.symm⟩

/-- Values that name an object. -/
def AV.isLeaf : AV → Bool
  | .own .. => true
  | .ref .. => true
  | .eref .. => true
  | .mref .. => true
  | _ => false

/-- What is said of a value, its names given others: it is enough to look at the names. -/
theorem Conc.leafs {I I' : Nat → Prop} {w w' : World} {p p' : Place} {v : Value} {x : AV} {f : AV → AV} (h : Conc I w p v x)
    (hw : ∀ b, I b → w'.heap[b]? = w.heap[b]?) (hI : ∀ b, I b → I' b)
    (hf : ∀ (v : Value) (x : AV), x.isLeaf = true → Conc I w p v x → Conc I' w' p' v (f x)) : Conc I' w' p' v (x.leafs f) := by
  have mono : ∀ {p : Place} {v : Value} {x : AV}, Conc I w p v x → (∀ i, p i = none) → Conc I' w' noPlace v x := by
    intro p v x h
    induction h with
    | top => exact fun _ => .top
    | raw => exact fun _ => .raw
    | agg hl h1 _ ih => exact fun hp => .agg hl h1 fun i v a e e' => ih i v a e e' hp
    | tup hl _ ih => exact fun hp => .tup hl fun i v a e e' => ih i v a e e' hp
    | lst hn hc hm hk hx h1 _ ih =>
      intro hp
      refine .lst hn hc hm hk ?_ h1 fun i j x a e e' => ih i j x a e e' fun _ => rfl
      rcases hx with hx | ⟨b, off, hA, hb, hx⟩
      · exact .inl hx
      · exact .inr ⟨b, off, hA, hI b hb, fun i j hi hj => (cell?_of_heap (hw b hb)).trans (hx i j hi hj)⟩
    | cptr hb hx h1 _ ih =>
      exact fun hp => .cptr (hI _ hb) (fun j hj => (cell?_of_heap (hw _ hb)).trans (hx j hj)) h1 fun j a e => ih j a e fun _ => rfl
    | own _ _ h => intro hp; rw [hp] at h; cases h
    | ref h => intro hp; rw [hp] at h; cases h
    | eref h => intro hp; rw [hp] at h; cases h
    | mref h => intro hp; rw [hp] at h; cases h
    | clo hl hl' _ _ ih ih' => exact fun hp => .clo hl hl' (fun i v a e e' => ih i v a e e' hp) (fun i v a e e' => ih' i v a e e' hp)
  induction h generalizing p' with
  | top => exact .top
  | raw => exact .raw
  | agg hl h1 _ ih =>
    simp only [AV.leafs, AV.leafsL_eq]
    refine .agg (by simpa using hl) h1 fun i v a e e' => ?_
    obtain ⟨y, hy, rfl⟩ := map_get e'
    exact ih i v y e hy hf
  | tup hl _ ih =>
    simp only [AV.leafs, AV.leafsL_eq]
    refine .tup (by simpa using hl) fun i v a e e' => ?_
    obtain ⟨y, hy, rfl⟩ := map_get e'
    exact ih i v y e hy hf
  | lst hn hc hm hk hx h1 h _ =>
    simp only [AV.leafs]
    refine .lst hn hc hm hk ?_ h1 fun i j x a e e' => mono (h i j x a e e') fun _ => rfl
    rcases hx with hx | ⟨b, off, hA, hb, hx⟩
    · exact .inl hx
    · exact .inr ⟨b, off, hA, hI b hb, fun i j hi hj => (cell?_of_heap (hw b hb)).trans (hx i j hi hj)⟩
  | cptr hb hx h1 h _ =>
    exact .cptr (hI _ hb) (fun j hj => (cell?_of_heap (hw _ hb)).trans (hx j hj)) h1 fun j a e => mono (h j a e) fun _ => rfl
  | own hn hm hp h => exact hf _ _ rfl (.own hn hm hp h)
  | ref h hl => exact hf _ _ rfl (.ref h hl)
  | eref h hl => exact hf _ _ rfl (.eref h hl)
  | mref h hl => exact hf _ _ rfl (.mref h hl)
  | clo hl hl' _ _ ih ih' =>
    simp only [AV.leafs, AV.leafsL_eq]
    refine .clo (by simpa using hl) (by simpa using hl') (fun i v a e e' => ?_) fun i v a e e' => ?_
    · obtain ⟨y, hy, rfl⟩ := map_get e'
      exact ih i v y e hy hf
    · obtain ⟨y, hy, rfl⟩ := map_get e'
      exact ih' i v y e hy hf

mutual
theorem AV.leafs_self (f : AV → AV) (hf : ∀ x, x.isLeaf = true → f x = x) : ∀ x : AV, x.leafs f = x
  | .agg cs => by rw [AV.leafs, AV.leafsL_self f hf cs]
  | .tup cs => by rw [AV.leafs, AV.leafsL_self f hf cs]
  | .clo fn as bs => by rw [AV.leafs, AV.leafsL_self f hf as, AV.leafsL_self f hf bs]
  | .own .. => hf _ rfl
  | .ref .. => hf _ rfl
  | .eref .. => hf _ rfl
  | .mref .. => hf _ rfl
  | .top => rfl
  | .raw _ => rfl
  | .lst _ _ => rfl
  | .cptr _ => rfl
theorem AV.leafsL_self (f : AV → AV) (hf : ∀ x, x.isLeaf = true → f x = x) : ∀ l : List AV, AV.leafsL f l = l
  | [] => rfl
  | a :: l => by rw [AV.leafsL, AV.leafs_self f hf a, AV.leafsL_self f hf l]
end

/-- What is said holds on: in a world in which the unwritten blocks are as they were, of more unwritten blocks, of more objects. -/
theorem Conc.mono {I I' : Nat → Prop} {w w' : World} {p p' : Place} {v : Value} {a : AV} (h : Conc I w p v a)
    (hw : ∀ b, I b → w'.heap[b]? = w.heap[b]?) (hI : ∀ b, I b → I' b) (hp : ∀ i r, p i = some r → p' i = some r) : Conc I' w' p' v a := by
  have := h.leafs (f := fun x => x) (p' := p') hw hI fun v x hx hc => by
    cases hc with
    | own hn hm h hr => exact .own hn hm (hp _ _ h) hr
    | ref h hl => exact .ref (hp _ _ h) hl
    | eref h hl => exact .eref (hp _ _ h) hl
    | mref h hl => exact .mref (hp _ _ h) hl
    | _ => cases hx
  rwa [AV.leafs_self _ fun _ _ => rfl] at this

/-- What is said without objects holds whatever the objects. -/
theorem Conc.anyPlace {I : Nat → Prop} {w : World} {p : Place} {v : Value} {a : AV} (h : Conc I w noPlace v a) : Conc I w p v a :=
  h.mono (fun _ _ => rfl) (fun _ h => h) (fun _ _ h => by cases h)

/-- The object that a value names. -/
def AV.nameOf : AV → Option Nat
  | .own i _ _ _ => some i
  | .ref i _ => some i
  | .eref i _ _ _ => some i
  | .mref i => some i
  | _ => none
def AV.withName (j : Nat) : AV → AV
  | .own _ k lo n => .own j k lo n
  | .ref _ o => .ref j o
  | .eref _ k i o => .eref j k i o
  | .mref _ => .mref j
  | x => x
/-- Names that are given others; those without one say nothing any more. -/
def AV.ren (g : Nat → Option Nat) (x : AV) : AV := match x.nameOf with
  | some i => match g i with
    | some j => x.withName j
    | none => .top
  | none => x

theorem Conc.ren {I I' : Nat → Prop} {w w' : World} {p p' : Place} {v : Value} {x : AV} (g : Nat → Option Nat) (h : Conc I w p v x)
    (hw : ∀ b, I b → w'.heap[b]? = w.heap[b]?) (hI : ∀ b, I b → I' b) (hg : ∀ i j r, g i = some j → p i = some r → p' j = some r) : Conc I' w' p' v (x.leafs (AV.ren g)) := by
  refine h.leafs hw hI fun v x hx hc => ?_
  cases hc with
  | own hn hm h hr =>
    simp only [AV.ren, AV.nameOf]
    split
    · rename_i j hj; exact .own hn hm (hg _ _ _ hj h) hr
    · exact .top
  | ref h hl =>
    simp only [AV.ren, AV.nameOf]
    split
    · rename_i j hj; exact .ref (hg _ _ _ hj h) hl
    · exact .top
  | eref h hl =>
    simp only [AV.ren, AV.nameOf]
    split
    · rename_i j hj; exact .eref (hg _ _ _ hj h) hl
    · exact .top
  | mref h hl =>
    simp only [AV.ren, AV.nameOf]
    split
    · rename_i j hj; exact .mref (hg _ _ _ hj h) hl
    · exact .top
  | _ => cases hx

/-- Objects that are gone: whatever named them says nothing any more. -/
def AV.kill (id : Nat) (x : AV) : AV := x.leafs (AV.ren fun i => if i = id then none else some i)

theorem Conc.kill {I I' : Nat → Prop} {w w' : World} {p p' : Place} {v : Value} {a : AV} (id : Nat) (h : Conc I w p v a) (hw : ∀ b, I b → w'.heap[b]? = w.heap[b]?) (hI : ∀ b, I b → I' b)
    (hp : ∀ i, i ≠ id → p' i = p i) : Conc I' w' p' v (a.kill id) := by
  refine h.ren _ hw hI fun i j r hg hr => ?_
  split at hg
  · cases hg
  · injection hg with hg; subst hg; rw [hp _ (by assumption)]; exact hr

/-- What an abstract object says. -/
def ObjConc (I : Nat → Prop) (w : World) (p : Place) (id : Nat) : Obj → Prop
  | .dead => p id = none
  | .box cs => ∃ (r : Real) (c : Array Value) (E : TypeId), p id = some r ∧ r.nul = false ∧ w.heap[r.blk]? = some (.cells c E (0, 0)) ∧ r.base + cs.length ≤ c.size ∧
      ∀ j a, cs[j]? = some a → ∃ v, c[r.base + j]? = some v ∧ v.oneCell' = true ∧ Conc I w p v a
  | .arr k xs => ∃ r : Real, p id = some r ∧ ((r.nul = true ∧ xs = []) ∨ (r.nul = false ∧ ∃ (c : Array Value) (E : TypeId), w.heap[r.blk]? = some (.cells c E (0, 0)) ∧
      (xs.length ≤ r.cap ∧ xs.length = r.len) ∧ r.cap ≤ maxLen ∧ r.base + r.cap * k ≤ c.size ∧ (∀ x, x ∈ xs → x.length = k) ∧
      ∀ i j x a, xs[i]? = some x → x[j]? = some a → ∃ v, c[r.base + i * k + j]? = some v ∧ v.oneCell' = true ∧ Conc I w noPlace v a))
  | .mp kd m => ∃ (r : Real) (es : Array MapEntry), p id = some r ∧ r.nul = false ∧ w.heap[r.blk]? = some (.map es es.size) ∧ m.length = es.size ∧ (∀ x, x ∈ m → x.1.kind = kd) ∧ (m.map (·.1)).Nodup ∧
      ∀ (i : Nat) (e : MapEntry) (key : MKey) (a : AV), es[i]? = some e → m[i]? = some (key, a) → e.key = key.val ∧ e.born = i ∧ Conc I w noPlace e.val a

/-- What a call leaves of what was there: G the blocks that were given to it. -/
structure Frm (w0 : World) (G : Nat → Prop) (w : World) : Prop where
  os : w.os = w0.os
  tape : w.tape = w0.tape
  output : w.output = w0.output
  size : w0.heap.size ≤ w.heap.size
  block : ∀ k, k < w0.heap.size → ¬ G k → w.heap[k]? = w0.heap[k]?

theorem Frm.refl (w : World) (G : Nat → Prop) : Frm w G w := ⟨rfl, rfl, rfl, Nat.le_refl _, fun _ _ _ => rfl⟩

structure St where
  slots : List AV
  objs : List Obj

def St.obj (s : St) (id : Nat) : Obj := s.objs.getD id .dead
def St.put (s : St) (d : Option Tmp) (v : AV) : St :=
  match d with
  | some d => { s with slots := s.slots.set d v }
  | none => s

/-- What is known of package-level variables. -/
abbrev Globs := List (Nat × List AV)
/-- What stays in a call: what is known of package-level variables, and how many objects were given to it. -/
structure Ctx where
  tab : Globs
  given : Nat

/-- The relation between an abstract state and a frame in a world. w0: the world in which the call began. -/
structure Sim (GT : Ctx) (w0 : World) (G : Nat → Prop) (p : Place) (I : Nat → Prop) (s : St) (a : Act) (w : World) : Prop where
  size : a.tmps.size = s.slots.length
  slot : ∀ (i : Nat) (v : Value) (x : AV), a.tmps[i]? = some v → s.slots[i]? = some x → Conc I w p v x
  defers : a.defers = []
  obj : ∀ id, ObjConc I w p id (s.obj id)
  inj : ∀ i j r r', p i = some r → p j = some r' → r.nul = false → r'.nul = false → r.blk = r'.blk → i = j
  own : ∀ i r, p i = some r → r.nul = false → (w0.heap.size ≤ r.blk ∨ G r.blk) ∧ r.blk < w.heap.size ∧ ¬ I r.blk
  imm : ∀ b, I b → b < w.heap.size
  frame : Frm w0 G w
  glob : ∀ g cs, (g, cs) ∈ GT.tab → Conc I w noPlace (.pointer (some ⟨g, 0, none⟩)) (.cptr cs)
  given : GT.given ≤ s.objs.length

def lookupG (GT : Globs) (g : Nat) : AV :=
  match GT.find? (fun x => x.1 == g) with
  | some (_, cs) => .cptr cs
  | none => .raw (.pointer (some ⟨g, 0, none⟩))

/-- The abstract value of an operand. -/
def ev (GT : Ctx) (s : St) : Operand → AV
  | .tmp t => s.slots.getD t .top
  | .const v => .raw v
  | .global g => lookupG GT.tab g
  | .func f => .clo (.func f) [] []

section
variable {GT : Ctx} {w0 : World} {G : Nat → Prop} {p : Place} {I : Nat → Prop} {s : St} {a : Act} {w : World}

theorem Sim.ev (h : Sim GT w0 G p I s a w) (o : Operand) : Conc I w p (a.eval o) (ev GT s o) := by
  cases o with
  | tmp t =>
    simp only [Act.eval, Abs.ev, List.getD_eq_getElem?_getD, Array.getD_eq_getD_getElem?]
    rcases Nat.lt_or_ge t s.slots.length with ht | ht
    · have ht' : t < a.tmps.size := by rw [h.size]; exact ht
      rw [List.getElem?_eq_getElem ht, Array.getElem?_eq_getElem ht']
      exact h.slot t _ _ (Array.getElem?_eq_getElem ht') (List.getElem?_eq_getElem ht)
    · rw [List.getElem?_eq_none ht]
      exact .top
  | const v => exact .raw
  | global g =>
    simp only [Act.eval, Abs.ev, lookupG]
    split
    · rename_i x cs he
      have hm := List.mem_of_find?_eq_some he
      have hg := List.find?_some he
      simp at hg
      subst hg
      exact (h.glob _ _ hm).anyPlace
    · exact .raw
  | func f => exact .clo (by simp) (by simp) (fun i v a e _ => by simp at e) (fun i v a e _ => by simp at e)

theorem Sim.put (h : Sim GT w0 G p I s a w) (d : Option Tmp) {v : Value} {x : AV} (hv : Conc I w p v x) : Sim GT w0 G p I (s.put d x) (a.put d v) w := by
  cases d with
  | none => exact h
  | some d =>
    refine { h with size := ?_, slot := ?_, obj := h.obj, defers := h.defers, given := h.given }
    · simp [Act.put, St.put, h.size]
    · intro i v' x' e e'
      simp only [Act.put, St.put, Array.getElem?_setIfInBounds, List.getElem?_set] at e e'
      by_cases hd : d = i
      · subst hd
        have hs := h.size
        by_cases hlt : d < a.tmps.size
        · simp [hlt, ← hs] at e e'
          subst e; subst e'
          exact hv
        · simp [hlt] at e
      · simp [hd] at e e'
        exact h.slot i v' x' e e'

theorem Sim.unplaced (h : Sim GT w0 G p I s a w) {i : Nat} (hi : s.objs.length ≤ i) : p i = none := by
  have := h.obj i
  simpa [St.obj, List.getElem?_eq_none hi, ObjConc] using this

theorem Sim.lt (h : Sim GT w0 G p I s a w) {i : Nat} {r : Real} (hi : p i = some r) : i < s.objs.length := by
  rcases Nat.lt_or_ge i s.objs.length with h' | h'
  · exact h'
  · rw [h.unplaced h'] at hi; cases hi

theorem obj_lt {id : Nat} (h : s.obj id ≠ .dead) : id < s.objs.length := by
  rcases Nat.lt_or_ge id s.objs.length with h' | h'
  · exact h'
  · simp [St.obj, List.getElem?_eq_none h'] at h

/-- The same world, another set of objects: by the parts that hang on it. -/
theorem ObjConc.mono {I' : Nat → Prop} {w' : World} {id : Nat} {o : Obj} (h : ObjConc I w p id o) (hw : ∀ b, I b → w'.heap[b]? = w.heap[b]?) (hI : ∀ b, I b → I' b)
    (hb : ∀ r, p id = some r → r.nul = false → w'.heap[r.blk]? = w.heap[r.blk]?) : ObjConc I' w' p id o := by
  cases o with
  | dead => exact h
  | box cs =>
    obtain ⟨r, c, E, hp, hn, hh, hl, hv⟩ := h
    refine ⟨r, c, E, hp, hn, (hb r hp hn).trans hh, hl, fun j a e => ?_⟩
    obtain ⟨v, h1, h2, h3⟩ := hv j a e
    exact ⟨v, h1, h2, h3.mono hw hI fun _ _ h => h⟩
  | arr k xs =>
    obtain ⟨r, hp, h | ⟨hn, c, E, hh, hl, hm, hs, hk, hv⟩⟩ := h
    · exact ⟨r, hp, .inl h⟩
    · refine ⟨r, hp, .inr ⟨hn, c, E, (hb r hp hn).trans hh, hl, hm, hs, hk, fun i j x a e e' => ?_⟩⟩
      obtain ⟨v, h1, h2, h3⟩ := hv i j x a e e'
      exact ⟨v, h1, h2, h3.mono hw hI fun _ _ h => h⟩
  | mp kd m =>
    obtain ⟨r, es, hp, hn, hh, hl, hkd, hnd, hv⟩ := h
    refine ⟨r, es, hp, hn, (hb r hp hn).trans hh, hl, hkd, hnd, fun i e key a he hm => ?_⟩
    obtain ⟨h1, h2, h3⟩ := hv i e key a he hm
    exact ⟨h1, h2, h3.mono hw hI fun _ _ h => h⟩

/-- Placing one more object. -/
def Place.with (p : Place) (id : Nat) (r : Option Real) : Place := fun i => if i = id then r else p i
theorem Place.with_same (p : Place) (id : Nat) (r : Option Real) : p.with id r id = r := by simp [Place.with]
theorem Place.with_other (p : Place) {id i : Nat} (r : Option Real) (h : i ≠ id) : p.with id r i = p i := by simp [Place.with, h]

/-- Names in an object. -/
def Obj.leafs (f : AV → AV) : Obj → Obj
  | .box cs => .box (AV.leafsL f cs)
  | .dead => .dead
  | .arr k xs => .arr k xs
  | .mp kd m => .mp kd m

theorem ObjConc.leafs {I' : Nat → Prop} {w' : World} {p' : Place} {id id' : Nat} {o : Obj} {f : AV → AV} (h : ObjConc I w p id o) (hw : ∀ b, I b → w'.heap[b]? = w.heap[b]?) (hI : ∀ b, I b → I' b)
    (hb : ∀ r, p id = some r → r.nul = false → w'.heap[r.blk]? = w.heap[r.blk]?) (hp : p' id' = p id)
    (hf : ∀ (v : Value) (x : AV), x.isLeaf = true → Conc I w p v x → Conc I' w' p' v (f x)) : ObjConc I' w' p' id' (o.leafs f) := by
  cases o with
  | dead => exact hp.trans h
  | box cs =>
    obtain ⟨r, c, E, hr, hn, hh, hl, hv⟩ := h
    refine ⟨r, c, E, hp.trans hr, hn, (hb r hr hn).trans hh, by simpa [AV.leafsL_eq] using hl, fun j a e => ?_⟩
    rw [AV.leafsL_eq] at e
    obtain ⟨y, hy, rfl⟩ := map_get e
    obtain ⟨v, h1, h2, h3⟩ := hv j y hy
    exact ⟨v, h1, h2, h3.leafs hw hI hf⟩
  | arr k xs =>
    obtain ⟨r, hr, h | ⟨hn, c, E, hh, hl, hm, hs, hk, hv⟩⟩ := h
    · exact ⟨r, hp.trans hr, .inl h⟩
    · refine ⟨r, hp.trans hr, .inr ⟨hn, c, E, (hb r hr hn).trans hh, hl, hm, hs, hk, fun i j x a e e' => ?_⟩⟩
      obtain ⟨v, h1, h2, h3⟩ := hv i j x a e e'
      exact ⟨v, h1, h2, h3.mono hw hI fun _ _ h => h⟩
  | mp kd m =>
    obtain ⟨r, es, hr, hn, hh, hl, hkd, hnd, hv⟩ := h
    refine ⟨r, es, hp.trans hr, hn, (hb r hr hn).trans hh, hl, hkd, hnd, fun i e key a he hm => ?_⟩
    obtain ⟨h1, h2, h3⟩ := hv i e key a he hm
    exact ⟨h1, h2, h3.mono hw hI fun _ _ h => h⟩

theorem Obj.leafs_self (f : AV → AV) (hf : ∀ x, x.isLeaf = true → f x = x) (o : Obj) : o.leafs f = o := by
  cases o <;> simp [Obj.leafs, AV.leafsL_self f hf]

theorem ObjConc.place {p' : Place} {id : Nat} {o : Obj} (h : ObjConc I w p id o) (hp : ∀ i r, p i = some r → p' i = some r) (hn : p id = none → p' id = none) : ObjConc I w p' id o := by
  have hid : p' id = p id := by
    cases hp' : p id with
    | none => exact hn hp'
    | some r => exact hp _ _ hp'
  have := h.leafs (f := fun x => x) (p' := p') (id' := id) (fun _ _ => rfl) (fun _ h => h) (fun _ _ _ => rfl) hid fun v x hx hc => hc.mono (fun _ _ => rfl) (fun _ h => h) hp
  rwa [Obj.leafs_self _ fun _ _ => rfl] at this

end

end Go.Proofs.YtmfgaefefgnhbaaGreatDoor.Abs
namespace Go.Proofs.YtmfgaefefgnhbaaGreatDoor.Abs
set_option linter.unusedSimpArgs false
set_option linter.unusedVariables false
open Go Go.RowKit

/-- What is known of a type. -/
inductive TK where
  | bool | int (k : IntKind) | str | slice (e : Nat) | struct (fs : List (Nat × Nat)) | array (n e : Nat) | map (k e : Nat) | other
structure TD where
  size : Nat
  bytes : Nat
  isAgg : Bool
  zero : Option (List Value)
  kind : TK
def TK.of : TypeDesc → TK
  | .bool => .bool
  | .int k => .int k
  | .string => .str
  | .slice e => .slice e
  | .struct fs => .struct (fs.toList.map fun f => (f.offset, f.type))
  | .array n e => .array n e
  | .map k e => .map k e
  | _ => .other
def isAggD : TypeDesc → Bool
  | .struct _ | .array _ _ => true
  | _ => false
def td (P : Program) (t : TypeId) : Option TD :=
  match P.info? t, P.underlying t with
  | some i, some d => some { size := i.size, bytes := i.bytes, isAgg := isAggD d, zero := i.zero.map (·.cells.toList), kind := TK.of d }
  | _, _ => none

section
variable {P : Program} {t : TypeId} {d : TD}
theorem td_info (h : td P t = some d) : ∃ i desc, P.info? t = some i ∧ P.underlying t = some desc ∧ i.size = d.size ∧ i.bytes = d.bytes ∧ isAggD desc = d.isAgg ∧ i.zero.map (·.cells.toList) = d.zero ∧ TK.of desc = d.kind := by
  unfold td at h
  split at h
  · rename_i i desc h1 h2
    injection h with h
    subst h
    exact ⟨i, desc, h1, h2, rfl, rfl, rfl, rfl, rfl⟩
  · cases h
theorem run_sizeOf (h : td P t = some d) (w : World) : (sizeOf t).run P w = .ok d.size w := by
  obtain ⟨i, desc, h1, _, h2, _⟩ := td_info h
  simp [sizeOf, typeInfo, h1, h2]
theorem run_isAgg (h : td P t = some d) (w : World) : (isAgg t).run P w = .ok d.isAgg w := by
  obtain ⟨i, desc, h1, h2, _, _, h3, _⟩ := td_info h
  rw [← h3]
  simp only [isAgg, Sem.run_bind, run_underlying h2, Result.andThen_ok]
  cases desc <;> simp [isAggD]
theorem run_zeroValue (h : td P t = some d) {z : List Value} (hz : d.zero = some z) (w : World) : ∃ v : Value, (zeroValue t).run P w = .ok v w ∧ v.cells.toList = z := by
  obtain ⟨i, desc, h1, h2, _, _, _, h3, _⟩ := td_info h
  rw [hz] at h3
  cases hv : i.zero with
  | none => rw [hv] at h3; cases h3
  | some v =>
    rw [hv] at h3
    injection h3 with h3
    exact ⟨v, by simp [zeroValue, typeInfo, h1, hv], h3⟩
theorem td_slice {e : Nat} (h : td P t = some d) (hk : d.kind = .slice e) : P.underlying t = some (.slice e) := by
  obtain ⟨i, desc, h1, h2, _, _, _, _, h3⟩ := td_info h
  rw [hk] at h3
  cases desc <;> simp [TK.of] at h3
  subst h3
  exact h2
theorem td_array {n e : Nat} (h : td P t = some d) (hk : d.kind = .array n e) : P.underlying t = some (.array n e) := by
  obtain ⟨i, desc, h1, h2, _, _, _, _, h3⟩ := td_info h
  rw [hk] at h3
  cases desc <;> simp [TK.of] at h3
  obtain ⟨rfl, rfl⟩ := h3
  exact h2
theorem td_struct {fs : List (Nat × Nat)} (h : td P t = some d) (hk : d.kind = .struct fs) : ∃ fields : Array Field, P.underlying t = some (.struct fields) ∧ fields.toList.map (fun f => (f.offset, f.type)) = fs := by
  obtain ⟨i, desc, h1, h2, _, _, _, _, h3⟩ := td_info h
  rw [hk] at h3
  cases desc <;> simp [TK.of] at h3
  exact ⟨_, h2, h3⟩
theorem td_str (h : td P t = some d) (hk : d.kind = .str) : P.underlying t = some .string := by
  obtain ⟨i, desc, h1, h2, _, _, _, _, h3⟩ := td_info h
  rw [hk] at h3
  cases desc <;> simp [TK.of] at h3
  exact h2
theorem td_int {k : IntKind} (h : td P t = some d) (hk : d.kind = .int k) : P.underlying t = some (.int k) := by
  obtain ⟨i, desc, h1, h2, _, _, _, _, h3⟩ := td_info h
  rw [hk] at h3
  cases desc <;> simp [TK.of] at h3
  subst h3
  exact h2
theorem td_bool (h : td P t = some d) (hk : d.kind = .bool) : P.underlying t = some .bool := by
  obtain ⟨i, desc, h1, h2, _, _, _, _, h3⟩ := td_info h
  rw [hk] at h3
  cases desc <;> simp [TK.of] at h3
  exact h2
theorem td_map {k e : Nat} (h : td P t = some d) (hk : d.kind = .map k e) : P.underlying t = some (.map k e) := by
  obtain ⟨i, desc, h1, h2, _, _, _, _, h3⟩ := td_info h
  rw [hk] at h3
  cases desc <;> simp [TK.of] at h3
  obtain ⟨rfl, rfl⟩ := h3
  exact h2
end

/-- The cells of an abstract value; none where it says too little. -/
def cellsOf : AV → Option (List AV)
  | .agg cs => some cs
  | .raw v => if v.oneCell' then some [.raw v] else none
  | .top => none
  | .tup _ => none
  | .lst k xs => some [.lst k xs]
  | .cptr cs => some [.cptr cs]
  | .own i k lo n => some [.own i k lo n]
  | .ref i o => some [.ref i o]
  | .eref i k j o => some [.eref i k j o]
  | .mref i => some [.mref i]
  | .clo f as bs => some [.clo f as bs]

section
variable {GT : Ctx} {w0 : World} {G : Nat → Prop} {p : Place} {I : Nat → Prop} {s : St} {a : Act} {w : World}

theorem one_of {v : Value} {x : AV} (h : v.oneCell' = true) (hc : Conc I w p v x) : v.cells.size = [x].length ∧ ∀ (j : Nat) (c : AV), [x][j]? = some c → ∃ u, v.cells[j]? = some u ∧ u.oneCell' = true ∧ Conc I w p u c := by
  have hcell : v.cells = #[v] := by cases v <;> simp [Value.oneCell'] at h <;> rfl
  refine ⟨by simp [hcell], fun j c e => ?_⟩
  cases j with
  | zero => simp at e; subst e; exact ⟨v, by simp [hcell], h, hc⟩
  | succ j => simp at e

theorem cellsOf_conc {v : Value} {x : AV} {cs : List AV} (h : Conc I w p v x) (e : cellsOf x = some cs) :
    v.cells.size = cs.length ∧ ∀ (j : Nat) (c : AV), cs[j]? = some c → ∃ u, v.cells[j]? = some u ∧ u.oneCell' = true ∧ Conc I w p u c := by
  cases h with
  | top => cases e
  | raw =>
    simp only [cellsOf] at e
    split at e
    · rename_i h1
      injection e with e
      subst e
      exact one_of h1 .raw
    · cases e
  | @agg _ cs' as hl h1 h =>
    injection e with e
    subst e
    refine ⟨hl.symm, fun j c e => ?_⟩
    have hj : j < cs'.size := by rw [← hl]; exact (List.getElem?_eq_some_iff.1 e).1
    exact ⟨cs'[j], Array.getElem?_eq_getElem hj, h1 _ _ (Array.getElem?_eq_getElem hj), h _ _ _ (Array.getElem?_eq_getElem hj) e⟩
  | tup => cases e
  | lst hn hc hm hk hx h1 h => injection e with e; subst e; exact one_of rfl (.lst hn hc hm hk hx h1 h)
  | cptr hb hx h1 h => injection e with e; subst e; exact one_of rfl (.cptr hb hx h1 h)
  | own hn hm hp h => injection e with e; subst e; exact one_of rfl (.own hn hm hp h)
  | ref h hl => injection e with e; subst e; exact one_of rfl (.ref h hl)
  | eref h hl => injection e with e; subst e; exact one_of rfl (.eref h hl)
  | mref h hl => injection e with e; subst e; exact one_of rfl (.mref h hl)
  | clo hl hl' h h' => injection e with e; subst e; exact one_of rfl (.clo hl hl' h h')

/-- The cells behind a pointer, from there on. -/
def memAt (s : St) : AV → Option (List AV)
  | .cptr cs => some cs
  | .ref id off => match s.obj id with
    | .box cs => some (cs.drop off)
    | _ => none
  | .eref id k i off => match s.obj id with
    | .arr k' xs => if k' = k then some ((xs.getD i []).drop off) else none
    | _ => none
  | _ => none

theorem getD_some {xs : List (List AV)} {i j : Nat} {c : AV} (e : (xs.getD i [])[j]? = some c) : xs[i]? = some (xs.getD i []) ∧ i < xs.length := by
  have hi : i < xs.length := by
    rcases Nat.lt_or_ge i xs.length with h | h
    · exact h
    · rw [List.getD_eq_getElem?_getD, List.getElem?_eq_none h] at e; simp at e
  exact ⟨by rw [List.getD_eq_getElem?_getD, List.getElem?_eq_getElem hi]; rfl, hi⟩

theorem memAt_conc (hs : Sim GT w0 G p I s a w) {v : Value} {x : AV} {L : List AV} (h : Conc I w p v x) (e : memAt s x = some L) :
    ∃ b off, v = .pointer (some ⟨b, off, none⟩) ∧ ∀ (j : Nat) (c : AV), L[j]? = some c → ∃ u, w.cell? ⟨b, off + j, none⟩ = some u ∧ u.oneCell' = true ∧ Conc I w p u c := by
  cases h with
  | @cptr _ cs b off f hb hx h1 h =>
    injection e with e
    subst e
    refine ⟨b, off, rfl, fun j c e => ?_⟩
    have hj : j < cs.length := (List.getElem?_eq_some_iff.1 e).1
    exact ⟨f j, hx j hj, h1 j hj, (h j c e).anyPlace⟩
  | @ref _ id off r hr hnl =>
    simp only [memAt] at e
    have ho := hs.obj id
    split at e
    · rename_i cs heq
      injection e with e
      subst e
      rw [heq] at ho
      obtain ⟨r', c, E, hr', _, hh, hl, hv⟩ := ho
      obtain rfl : r = r' := Option.some.inj (hr.symm.trans hr')
      refine ⟨r.blk, r.base + off, rfl, fun j x' e => ?_⟩
      rw [List.getElem?_drop] at e
      obtain ⟨u, h1, h2, h3⟩ := hv _ _ e
      exact ⟨u, by simp [World.cell?, hh]; rw [← h1]; congr 1; omega, h2, h3⟩
    · cases e
  | @eref _ id k i off r hr hnl =>
    simp only [memAt] at e
    have ho := hs.obj id
    split at e
    · rename_i k' xs heq
      split at e
      · rename_i hk
        subst hk
        injection e with e
        subst e
        rw [heq] at ho
        refine ⟨r.blk, _, rfl, fun j x' e => ?_⟩
        obtain ⟨r', hr', ⟨hn, _⟩ | ⟨_, c, E, hh, hl, hm, hsz, hk, hv⟩⟩ := ho
        · obtain rfl : r = r' := Option.some.inj (hr.symm.trans hr')
          rw [hnl] at hn; cases hn
        · obtain rfl : r = r' := Option.some.inj (hr.symm.trans hr')
          rw [List.getElem?_drop] at e
          obtain ⟨u, h1, h2, h3⟩ := hv i (off + j) _ _ (getD_some e).1 e
          exact ⟨u, by simp [World.cell?, hh]; rw [← h1]; congr 1; omega, h2, h3.anyPlace⟩
      · cases e
    · cases e
  | _ => cases e

/- What names no object. -/
mutual
def AV.imm : AV → Bool
  | .agg cs => AV.immL cs
  | .tup cs => AV.immL cs
  | .clo _ as bs => AV.immL as && AV.immL bs
  | .own .. => false
  | .ref .. => false
  | .eref .. => false
  | .mref .. => false
  | .top => true
  | .raw _ => true
  | .lst _ _ => true
  | .cptr _ => true
def AV.immL : List AV → Bool
  | [] => true
  | a :: as => AV.imm a && AV.immL as
end
theorem AV.immL_mem {l : List AV} (h : AV.immL l = true) : ∀ a, a ∈ l → a.imm = true := by
  induction l with
  | nil => intro a ha; cases ha
  | cons b l ih =>
    simp only [AV.immL, Bool.and_eq_true] at h
    intro a ha
    rcases List.mem_cons.1 ha with rfl | ha
    · exact h.1
    · exact ih h.2 a ha
theorem AV.immL_of {l : List AV} (h : ∀ a, a ∈ l → a.imm = true) : AV.immL l = true := by
  induction l with
  | nil => rfl
  | cons b l ih =>
    simp only [AV.immL, Bool.and_eq_true]
    exact ⟨h b List.mem_cons_self, ih fun a ha => h a (List.mem_cons_of_mem _ ha)⟩
mutual
theorem AV.leafs_imm (f : AV → AV) : ∀ x : AV, x.imm = true → x.leafs f = x
  | .agg cs, h => by rw [AV.leafs, AV.leafsL_imm f cs (by simpa [AV.imm] using h)]
  | .tup cs, h => by rw [AV.leafs, AV.leafsL_imm f cs (by simpa [AV.imm] using h)]
  | .clo fn as bs, h => by
    simp only [AV.imm, Bool.and_eq_true] at h
    rw [AV.leafs, AV.leafsL_imm f as h.1, AV.leafsL_imm f bs h.2]
  | .own .., h => by cases h
  | .ref .., h => by cases h
  | .eref .., h => by cases h
  | .mref .., h => by cases h
  | .top, _ => rfl
  | .raw _, _ => rfl
  | .lst _ _, _ => rfl
  | .cptr _, _ => rfl
theorem AV.leafsL_imm (f : AV → AV) : ∀ l : List AV, AV.immL l = true → AV.leafsL f l = l
  | [], _ => rfl
  | a :: l, h => by
    simp only [AV.immL, Bool.and_eq_true] at h
    rw [AV.leafsL, AV.leafs_imm f a h.1, AV.leafsL_imm f l h.2]
end
theorem Conc.ofImm {p' : Place} {v : Value} {x : AV} (h : Conc I w p v x) (hi : x.imm = true) : Conc I w p' v x := by
  have := h.ren (p' := p') (fun _ => none) (fun _ _ => rfl) (fun _ h => h) fun i j r hg => by cases hg
  rwa [AV.leafs_imm _ _ hi] at this

theorem Place.fresh {p : Place} {n : Nat} (hn : p n = none) {ro : Option Real} : ∀ i r, p i = some r → p.with n ro i = some r := fun i r hr => by
  rw [Place.with_other]
  · exact hr
  · rintro rfl; rw [hn] at hr; cases hr

/-- A new block, and the object that it is. -/
theorem Sim.new (h : Sim GT w0 G p I s a w) (r0 : Real) (hb0 : r0.blk = w.heap.size) (_hn0 : r0.nul = false) (b0 : Go.Obj) (o : Obj) {w' : World} (hw : w'.heap = w.heap.push b0) (hos : w'.os = w.os) (htape : w'.tape = w.tape) (hout : w'.output = w.output)
    (ho : ObjConc I w' (p.with s.objs.length (some r0)) s.objs.length o) :
    Sim GT w0 G (p.with s.objs.length (some r0)) I { s with objs := s.objs ++ [o] } a w' := by
  have hn : p s.objs.length = none := h.unplaced (Nat.le_refl _)
  have hpp := Place.fresh hn (ro := some r0)
  have hheap : ∀ b, b < w.heap.size → w'.heap[b]? = w.heap[b]? := fun b hb => by
    rw [hw, Array.getElem?_push, if_neg (by omega)]
  have hI : ∀ b, I b → w'.heap[b]? = w.heap[b]? := fun b hb => hheap b (h.imm b hb)
  have hsz : w'.heap.size = w.heap.size + 1 := by rw [hw]; simp
  refine ⟨h.size, fun i v x e e' => (h.slot i v x e e').mono hI (fun _ h => h) hpp, h.defers, fun id => ?_, fun i j r r' hi hj hl hl' hb => ?_, fun i r hi hl => ?_, fun b hb => ?_, ?_, fun g cs hg => (h.glob g cs hg).mono hI (fun _ h => h) fun _ _ h => h, by have := h.given; simp; omega⟩
  · by_cases hid : id = s.objs.length
    · subst hid
      simpa [St.obj] using ho
    · have hob : ({ s with objs := s.objs ++ [o] } : St).obj id = s.obj id := by
        simp only [St.obj, List.getD_eq_getElem?_getD, List.getElem?_append]
        split
        · rfl
        · rename_i hge
          rw [List.getElem?_eq_none (l := s.objs) (by omega)]
          rw [List.getElem?_eq_none]
          simp; omega
      rw [hob]
      have h1 := (h.obj id).mono hI (fun _ h => h) fun r hr hl => hheap _ (h.own id r hr hl).2.1
      exact h1.place hpp fun hn' => by rw [Place.with_other _ _ hid]; exact hn'
  · by_cases h1 : i = s.objs.length <;> by_cases h2 : j = s.objs.length
    · rw [h1, h2]
    · subst h1
      rw [Place.with_same] at hi
      rw [Place.with_other _ _ h2] at hj
      injection hi with hi
      subst hi
      have := (h.own j r' hj hl').2.1
      omega
    · subst h2
      rw [Place.with_same] at hj
      rw [Place.with_other _ _ h1] at hi
      injection hj with hj
      subst hj
      have := (h.own i r hi hl).2.1
      omega
    · rw [Place.with_other _ _ h1] at hi
      rw [Place.with_other _ _ h2] at hj
      exact h.inj i j r r' hi hj hl hl' hb
  · by_cases h1 : i = s.objs.length
    · subst h1
      rw [Place.with_same] at hi
      injection hi with hi
      subst hi
      have := h.frame.size
      exact ⟨.inl (by omega), by omega, fun hb => by have := h.imm _ hb; omega⟩
    · rw [Place.with_other _ _ h1] at hi
      obtain ⟨h1, h2, h3⟩ := h.own i r hi hl
      exact ⟨h1, by omega, h3⟩
  · have := h.imm b hb
    omega
  · refine ⟨hos.trans h.frame.os, htape.trans h.frame.tape, hout.trans h.frame.output, by have := h.frame.size; omega, fun k hk hg => ?_⟩
    rw [hheap k (by have := h.frame.size; omega)]
    exact h.frame.block k hk hg

/-- A nil slice gets a name. -/
theorem Sim.newNil (h : Sim GT w0 G p I s a w) (k : Nat) (r0 : Real) (hn0 : r0.nul = true) :
    Sim GT w0 G (p.with s.objs.length (some r0)) I { s with objs := s.objs ++ [.arr k []] } a w := by
  have hn : p s.objs.length = none := h.unplaced (Nat.le_refl _)
  have hpp := Place.fresh hn (ro := some r0)
  refine ⟨h.size, fun i v x e e' => (h.slot i v x e e').mono (fun _ _ => rfl) (fun _ h => h) hpp, h.defers, fun id => ?_, fun i j r r' hi hj hl hl' hb => ?_, fun i r hi hl => ?_, h.imm, h.frame, h.glob, by have := h.given; simp; omega⟩
  · by_cases hid : id = s.objs.length
    · subst hid
      have : ({ s with objs := s.objs ++ [.arr k []] } : St).obj s.objs.length = .arr k [] := by simp [St.obj]
      rw [this]
      exact ⟨r0, Place.with_same _ _ _, .inl ⟨hn0, rfl⟩⟩
    · have hob : ({ s with objs := s.objs ++ [.arr k []] } : St).obj id = s.obj id := by
        simp only [St.obj, List.getD_eq_getElem?_getD, List.getElem?_append]
        split
        · rfl
        · rename_i hge
          rw [List.getElem?_eq_none (l := s.objs) (by omega)]
          rw [List.getElem?_eq_none]
          simp; omega
      rw [hob]
      exact (h.obj id).place hpp fun hn' => by rw [Place.with_other _ _ hid]; exact hn'
  · have h1 : i ≠ s.objs.length := by rintro rfl; rw [Place.with_same] at hi; injection hi with hi; rw [← hi, hn0] at hl; cases hl
    have h2 : j ≠ s.objs.length := by rintro rfl; rw [Place.with_same] at hj; injection hj with hj; rw [← hj, hn0] at hl'; cases hl'
    rw [Place.with_other _ _ h1] at hi
    rw [Place.with_other _ _ h2] at hj
    exact h.inj i j r r' hi hj hl hl' hb
  · have h1 : i ≠ s.objs.length := by rintro rfl; rw [Place.with_same] at hi; injection hi with hi; rw [← hi, hn0] at hl; cases hl
    rw [Place.with_other _ _ h1] at hi
    exact h.own i r hi hl

/-- A block of the call's own is written. -/
theorem Sim.write (h : Sim GT w0 G p I s a w) {id : Nat} {r : Real} (hr : p id = some r) (hl : r.nul = false) (o : Obj) {w' : World} (hsz : w'.heap.size = w.heap.size) (hw : ∀ b, b ≠ r.blk → w'.heap[b]? = w.heap[b]?) (hos : w'.os = w.os) (htape : w'.tape = w.tape) (hout : w'.output = w.output)
    (ho : ObjConc I w' p id o) : Sim GT w0 G p I { s with objs := s.objs.set id o } a w' := by
  have hid : id < s.objs.length := h.lt hr
  have hown := h.own id r hr hl
  have hI : ∀ b, I b → w'.heap[b]? = w.heap[b]? := fun b hb => hw b (by rintro rfl; exact hown.2.2 hb)
  refine ⟨h.size, fun i v x e e' => (h.slot i v x e e').mono hI (fun _ h => h) fun _ _ h => h, h.defers, fun j => ?_, h.inj, fun i r hi hl => ?_, fun b hb => ?_, ?_, fun g cs hg => (h.glob g cs hg).mono hI (fun _ h => h) fun _ _ h => h, by simpa using h.given⟩
  · by_cases hj : j = id
    · subst hj
      simpa [St.obj, hid] using ho
    · have hob : ({ s with objs := s.objs.set id o } : St).obj j = s.obj j := by
        simp only [St.obj, List.getD_eq_getElem?_getD, List.getElem?_set]
        rw [if_neg (fun e => hj e.symm)]
      rw [hob]
      exact (h.obj j).mono hI (fun _ h => h) fun r' hr' hl' => hw _ fun e => hj (h.inj _ _ _ _ hr' hr hl' hl e)
  · obtain ⟨h1, h2, h3⟩ := h.own i r hi hl
    exact ⟨h1, by omega, h3⟩
  · have := h.imm b hb
    omega
  · refine ⟨hos.trans h.frame.os, htape.trans h.frame.tape, hout.trans h.frame.output, by have := h.frame.size; omega, fun k hk hg => ?_⟩
    rw [hw k]
    · exact h.frame.block k hk hg
    · rintro rfl
      rcases hown.1 with h1 | h1
      · omega
      · exact hg h1
end

end Go.Proofs.YtmfgaefefgnhbaaGreatDoor.Abs
namespace Go.Proofs.YtmfgaefefgnhbaaGreatDoor.Abs
set_option linter.unusedSimpArgs false
set_option linter.unusedVariables false
open Go Go.RowKit

/-- What a step asks, what it gives, and the state behind it. -/
structure Res where
  need : Prop
  val : AV
  st : St

/-- The machine's own step of an operation: a value, and the world behind it. -/
def Yields (P : Program) (o : Oper) (a : Act) (w : World) (x : Value) (w' : World) : Prop :=
  (execOp a.eval o).run P w = .ok (.value x) w' ∨ ((execOp a.eval o).run P w = .ok .skip w' ∧ x = undef)

/-- No block that was there has been written. -/
def Agree (w w' : World) : Prop := w.heap.size ≤ w'.heap.size ∧ ∀ b, b < w.heap.size → w'.heap[b]? = w.heap[b]?
theorem Agree.refl (w : World) : Agree w w := ⟨Nat.le_refl _, fun _ _ => rfl⟩
theorem Agree.trans {w1 w2 w3 : World} (h : Agree w1 w2) (h' : Agree w2 w3) : Agree w1 w3 := ⟨Nat.le_trans h.1 h'.1, fun b hb => (h'.2 b (Nat.lt_of_lt_of_le hb h.1)).trans (h.2 b hb)⟩
theorem Agree.cell {w w' : World} (h : Agree w w') {b o : Nat} {x : Value} (hx : w.cell? ⟨b, o, none⟩ = some x) : w'.cell? ⟨b, o, none⟩ = some x := by
  rcases Nat.lt_or_ge b w.heap.size with hb | hb
  · exact (cell?_of_heap (h.2 b hb)).trans hx
  · simp [World.cell?, Array.getElem?_eq_none hb] at hx

/-- Operations that read the memory. -/
def Op.reads : Op → Bool
  | .load .. => true
  | .convert .. => true
  | .binOp .. => true
  | .call .. => true
  | .lookup .. => true
  | _ => false
/-- Operations that write no block that was there. -/
def Op.quiet : Op → Bool
  | .store .. => false
  | .call { callee := .builtin .append, .. } => false
  | .call { callee := .builtin .copy, .. } => false
  | .call { callee := .builtin .clear, .. } => false
  | .call { callee := .builtin .delete, .. } => false
  | .mapUpdate .. => false
  | .insert .. => false
  | .mapEntry .. => false
  | .entryStore .. => false
  | _ => true

/-- What is asked of an abstract step. The last part: it is a step that writes nothing, and it gives the same later on. -/
def StepOK (P : Program) (GT : Ctx) (o : Oper) (s : St) (r : Res) : Prop :=
  r.need → ∀ w0 G p I a w, Sim GT w0 G p I s a w → ∃ p' x w', Yields P o a w x w' ∧ Sim GT w0 G p' I r.st a w' ∧ Conc I w' p' x r.val ∧ (Op.quiet o.op = true → Agree w w') ∧ ∀ i, i < GT.given → p' i = p i ∨ p' i = none

/-- What is asked of a step that leaves the world alone. -/
def StepPure (P : Program) (GT : Ctx) (o : Oper) (s : St) (r : Res) : Prop :=
  r.st = s ∧ (r.need → ∀ w0 G p I a w, Sim GT w0 G p I s a w → ∃ x, (∀ w', (Op.reads o.op = true → Agree w w') → (execOp a.eval o).run P w' = .ok (.value x) w') ∧ Conc I w p x r.val)

theorem StepPure.ok {P : Program} {GT : Ctx} {o : Oper} {s : St} {r : Res} (h : StepPure P GT o s r) : StepOK P GT o s r := by
  intro hn w0 G p I a w hs
  obtain ⟨x, h1, h2⟩ := h.2 hn w0 G p I a w hs
  exact ⟨p, x, w, .inl (h1 w fun _ => .refl w), by rw [h.1]; exact hs, h2, fun _ => .refl w, fun _ _ => .inl rfl⟩

/-- A step that leaves the world alone. -/
theorem stepOK_pure {P : Program} {GT : Ctx} {o : Oper} {s : St} {n : Prop} {v : AV}
    (h : n → ∀ w0 G p I a w, Sim GT w0 G p I s a w → ∃ x, (∀ w', (Op.reads o.op = true → Agree w w') → (execOp a.eval o).run P w' = .ok (.value x) w') ∧ Conc I w p x v) : StepPure P GT o s ⟨n, v, s⟩ :=
  ⟨rfl, h⟩

section
variable {P : Program} {GT : Ctx} {o : Oper} {s : St}

def evPick (GT : Ctx) (s : St) (c a b : Operand) : Option Res :=
  match ev GT s c with
  | .raw (.bool t) => some ⟨True, cond t (ev GT s a) (ev GT s b), s⟩
  | _ => none

theorem evPick_ok {c x y : Operand} {r : Res} (ho : o.op = .pick c x y) (h : evPick GT s c x y = some r) : StepPure P GT o s r := by
  unfold evPick at h
  split at h
  · rename_i t ht
    injection h with h
    subst h
    refine stepOK_pure fun _ w0 G p I a w hs => ?_
    have hc := hs.ev c
    rw [ht] at hc
    generalize hcv : a.eval c = cv at hc
    cases hc with
    | raw =>
      cases t
      · exact ⟨a.eval y, by simp [execOp, ho, hcv, asBool], hs.ev y⟩
      · exact ⟨a.eval x, by simp [execOp, ho, hcv, asBool], hs.ev x⟩
  · cases h

theorem Agree.alloc (w : World) (b : Go.Obj) : Agree w (w.alloc b) := ⟨by show w.heap.size ≤ (w.heap.push b).size; simp, fun k hk => Below.heap_alloc w b k hk⟩

theorem Sim.fresh_given {w0 : World} {G : Nat → Prop} {p : Place} {I : Nat → Prop} {a : Act} {w : World} (hs : Sim GT w0 G p I s a w) (ro : Option Real) : ∀ i, i < GT.given → p.with s.objs.length ro i = p i ∨ p.with s.objs.length ro i = none :=
  fun i hi => .inl (Place.with_other _ _ (by have := hs.given; omega))

/-- A new variable. -/
def newBox (s : St) (cs : List AV) : Res := ⟨True, .ref s.objs.length 0, { s with objs := s.objs ++ [.box cs] }⟩

theorem newBox_ok {cs : List AV} (h : ∀ w0 G p I a w, Sim GT w0 G p I s a w → ∃ (v : Value) (E : TypeId), (execOp a.eval o).run P w = .ok (.value (.pointer (some ⟨w.heap.size, 0, none⟩))) (w.alloc (.cells v.cells E)) ∧
      v.cells.size = cs.length ∧ ∀ (j : Nat) (c : AV), cs[j]? = some c → ∃ u, v.cells[j]? = some u ∧ u.oneCell' = true ∧ Conc I w p u c) : StepOK P GT o s (newBox s cs) := by
  intro _ w0 G p I a w hs
  obtain ⟨v, E, hrun, hsz, hv⟩ := h w0 G p I a w hs
  have hn : p s.objs.length = none := hs.unplaced (Nat.le_refl _)
  refine ⟨p.with s.objs.length (some ⟨w.heap.size, 0, 0, 0, false⟩), _, _, .inl hrun, hs.new ⟨w.heap.size, 0, 0, 0, false⟩ rfl rfl (.cells v.cells E) (.box cs) rfl rfl rfl rfl ?_, ?_, fun _ => Agree.alloc w _, hs.fresh_given _⟩
  · refine ⟨⟨w.heap.size, 0, 0, 0, false⟩, v.cells, E, Place.with_same _ _ _, rfl, heap_alloc_new w _, by simp [hsz], fun j c e => ?_⟩
    obtain ⟨u, h1, h2, h3⟩ := hv j c e
    refine ⟨u, by simpa using h1, h2, h3.mono (fun b hb => ?_) (fun _ h => h) (Place.fresh hn)⟩
    exact Below.heap_alloc w _ b (hs.imm b hb)
  · exact Conc.ref (off := 0) (r := ⟨w.heap.size, 0, 0, 0, false⟩) (Place.with_same _ _ _) rfl

def evBox (GT : Ctx) (s : St) (x : Operand) : Option Res :=
  match cellsOf (ev GT s x) with
  | some cs => some (newBox s cs)
  | none => none

theorem evBox_ok {E : TypeId} {x : Operand} {r : Res} (ho : o.op = .box E x) (h : evBox GT s x = some r) : StepOK P GT o s r := by
  unfold evBox at h
  split at h
  · rename_i cs hcs
    injection h with h
    subst h
    refine newBox_ok fun w0 G p I a w hs => ?_
    obtain ⟨h1, h2⟩ := cellsOf_conc (hs.ev x) hcs
    exact ⟨a.eval x, E, by simp [execOp, ho, Instr.box, newVar, newRow], h1, h2⟩
  · cases h

def evAlloc (P : Program) (s : St) (E : TypeId) : Option Res :=
  match td P E with
  | some d => match d.zero with
    | some z => if z.all Value.oneCell' then some (newBox s (z.map .raw)) else none
    | none => none
  | none => none

theorem evAlloc_ok {E : TypeId} {r : Res} (ho : o.op = .alloc E) (h : evAlloc P s E = some r) : StepOK P GT o s r := by
  unfold evAlloc at h
  split at h
  · rename_i d hd
    split at h
    · rename_i z hz
      split at h
      · rename_i hall
        injection h with h
        subst h
        refine newBox_ok fun w0 G p I a w hs => ?_
        obtain ⟨v, hv, hz'⟩ := run_zeroValue hd hz w
        refine ⟨v, E, by simp [execOp, ho, Instr.alloc, hv, newVar, newRow], ?_, fun j c e => ?_⟩
        · rw [← Array.length_toList, hz']; simp
        · rw [List.getElem?_map] at e
          cases hj : z[j]? with
          | none => rw [hj] at e; cases e
          | some u =>
            rw [hj] at e
            simp at e
            subst e
            refine ⟨u, by rw [← Array.getElem?_toList, hz']; exact hj, ?_, .raw⟩
            exact List.all_eq_true.1 hall u (List.mem_of_getElem? hj)
      · cases h
    · cases h
  · cases h

/-- A load. -/
def loadFrom (d : TD) (L : List AV) : Option AV :=
  if d.isAgg then (if d.size ≤ L.length then some (.agg (L.take d.size)) else none) else L.head?

def evLoad (P : Program) (GT : Ctx) (s : St) (T : TypeId) (x : Operand) : Option Res :=
  match td P T, memAt s (ev GT s x) with
  | some d, some L => match loadFrom d L with
    | some v => some ⟨True, v, s⟩
    | none => none
  | _, _ => none

theorem evLoad_ok {T : TypeId} {x : Operand} {r : Res} (ho : o.op = .load T x) (h : evLoad P GT s T x = some r) : StepPure P GT o s r := by
  unfold evLoad at h
  split at h
  · rename_i d L hd hL
    split at h
    · rename_i v hv
      injection h with h
      subst h
      refine stepOK_pure fun _ w0 G p I a w hs => ?_
      obtain ⟨b, off, hx, hc⟩ := memAt_conc hs (hs.ev x) hL
      unfold loadFrom at hv
      split at hv
      · rename_i hagg
        split at hv
        · rename_i hle
          injection hv with hv
          subst hv
          -- the cells, as a function
          have hf : ∃ f : Nat → Value, ∀ j, j < d.size → w.cell? ⟨b, off + j, none⟩ = some (f j) := by
            refine ⟨fun j => (w.cell? ⟨b, off + j, none⟩).getD undef, fun j hj => ?_⟩
            obtain ⟨u, h1, _⟩ := hc j _ (List.getElem?_eq_getElem (by omega))
            simp [h1]
          obtain ⟨f, hf⟩ := hf
          refine ⟨.agg ((List.range d.size).map f).toArray, ?_, ?_⟩
          · intro w' hw'
            have hw' := hw' (by simp [ho, Op.reads])
            have := run_loadCells (P := P) w' ⟨b, off, none⟩ d.size f (fun j hj => by rw [Addr.add_lit]; exact hw'.cell (hf j hj))
            simp [execOp, ho, hx, Instr.loadAt, Instr.sureAddr, loadVar, run_isAgg hd, run_sizeOf hd, hagg, this]
          · refine .agg (by simp; omega) (fun i u e => ?_) fun i u y e e' => ?_
            · simp only [List.getElem?_toArray, List.getElem?_map] at e
              cases hi : (List.range d.size)[i]? with
              | none => rw [hi] at e; cases e
              | some i' =>
                rw [hi] at e
                simp at e
                have hi2 : i < d.size := by
                  rcases Nat.lt_or_ge i d.size with h | h
                  · exact h
                  · rw [List.getElem?_eq_none (by simpa using h)] at hi; cases hi
                rw [List.getElem?_range hi2] at hi
                injection hi with hi
                subst hi
                obtain ⟨u', h1, h2, _⟩ := hc i _ (List.getElem?_eq_getElem (by omega))
                rw [hf i hi2] at h1
                injection h1 with h1
                subst e
                rw [h1]
                exact h2
            · rw [List.getElem?_take] at e'
              split at e'
              · rename_i hi2
                obtain ⟨u', h1, _, h3⟩ := hc i _ e'
                rw [hf i hi2] at h1
                injection h1 with h1
                simp only [List.getElem?_toArray, List.getElem?_map, List.getElem?_range hi2, Option.map_some] at e
                injection e with e
                subst e
                rw [h1]
                exact h3
              · cases e'
        · cases hv
      · rename_i hagg
        cases L with
        | nil => cases hv
        | cons v' rest =>
          simp at hv
          subst hv
          obtain ⟨u, h1, _, h3⟩ := hc 0 _ rfl
          refine ⟨u, ?_, h3⟩
          simp only [Nat.add_zero] at h1
          intro w' hw'
          have h1 := (hw' (by simp [ho, Op.reads])).cell h1
          simp [execOp, ho, hx, Instr.loadAt, Instr.sureAddr, loadVar, run_isAgg hd, hagg, h1]
    · cases h
  · cases h

/-- A store. -/
def splice (l : List AV) (o : Nat) (new : List AV) : List AV := l.take o ++ new ++ l.drop (o + new.length)

def setAt (s : St) (new : List AV) : AV → Option (Prop × St)
  | .ref id off => match s.obj id with
    | .box cs => if off + new.length ≤ cs.length then some (True, { s with objs := s.objs.set id (.box (splice cs off new)) }) else none
    | _ => none
  | .eref id k i off => match s.obj id with
    | .arr k' xs => if k' = k ∧ off + new.length ≤ k ∧ AV.immL new = true then some (i < xs.length, { s with objs := s.objs.set id (.arr k (xs.set i (splice (xs.getD i []) off new))) }) else none
    | _ => none
  | _ => none

def evStore (P : Program) (GT : Ctx) (s : St) (T : TypeId) (x v : Operand) : Option Res :=
  match td P T, cellsOf (ev GT s v) with
  | some d, some new => if new.length = d.size then (match setAt s new (ev GT s x) with
    | some (n, s') => some ⟨n, .top, s'⟩
    | none => none) else none
  | _, _ => none

theorem splice_get (l new : List AV) (o j : Nat) (h : o + new.length ≤ l.length) : (splice l o new)[j]? = if o ≤ j ∧ j < o + new.length then new[j - o]? else l[j]? := by
  unfold splice
  have hm : min o l.length = o := by omega
  by_cases h1 : j < o
  · rw [if_neg (by omega), List.append_assoc, List.getElem?_append_left (by simp; omega)]
    simp [h1]
  · by_cases h2 : j < o + new.length
    · rw [if_pos ⟨by omega, h2⟩, List.append_assoc, List.getElem?_append_right (by simp; omega), List.getElem?_append_left (by simp; omega)]
      simp [hm]
    · rw [if_neg (by omega), List.getElem?_append_right (by simp; omega)]
      simp only [List.getElem?_drop, List.length_append, List.length_take, hm]
      congr 1
      omega

theorem splice_get_val (l : Array Value) (new : List Value) (o j : Nat) (h : o + new.length ≤ l.size) :
    (l.toList.take o ++ new ++ l.toList.drop (o + new.length)).toArray[j]? = if o ≤ j ∧ j < o + new.length then new[j - o]? else l[j]? := by
  rw [List.getElem?_toArray]
  have hm : min o l.size = o := by omega
  by_cases h1 : j < o
  · rw [if_neg (by omega), List.append_assoc, List.getElem?_append_left (by simp; omega)]
    simp [h1]
  · by_cases h2 : j < o + new.length
    · rw [if_pos ⟨by omega, h2⟩, List.append_assoc, List.getElem?_append_right (by simp; omega), List.getElem?_append_left (by simp; omega)]
      simp [hm]
    · rw [if_neg (by omega), List.getElem?_append_right (by simp; omega)]
      simp only [List.getElem?_drop, List.length_append, List.length_take, Array.length_toList, hm]
      rw [← Array.getElem?_toList]
      congr 1
      omega

theorem splice_length (l new : List AV) (o : Nat) (h : o + new.length ≤ l.length) : (splice l o new).length = l.length := by
  unfold splice; simp; omega

theorem setRow_eq (w : World) (g : Nat) (cs : Array Value) : (w.setRow g cs).heap.size = w.heap.size ∧ (∀ b, b ≠ g → (w.setRow g cs).heap[b]? = w.heap[b]?) ∧ (w.setRow g cs).os = w.os ∧ (w.setRow g cs).tape = w.tape ∧ (w.setRow g cs).output = w.output := by
  refine ⟨by simp [World.setRow], fun b hb => ?_, rfl, rfl, rfl⟩
  simp only [World.setRow, Array.getElem?_modify]
  rw [if_neg (fun e => hb e.symm)]

theorem evStore_ok {T : TypeId} {x y : Operand} {r : Res} (ho : o.op = .store T x y) (h : evStore P GT s T x y = some r) : StepOK P GT o s r := by
  unfold evStore at h
  split at h
  · rename_i d new hd hnew
    split at h
    · rename_i hlen
      split at h
      · rename_i n s' hset
        injection h with h
        subst h
        intro hneed w0 G p I a w hs
        obtain ⟨hsz, hv⟩ := cellsOf_conc (hs.ev y) hnew
        have h1 : ∀ u ∈ (a.eval y).cells.toList, u.oneCell' = true := fun u hu => by
          obtain ⟨j, hj, hju⟩ := List.getElem_of_mem hu
          have hj' : j < new.length := by rw [← hsz, ← Array.length_toList]; exact hj
          obtain ⟨u', e1, e2, _⟩ := hv j _ (List.getElem?_eq_getElem hj')
          have : (a.eval y).cells.toList[j]? = some u := by rw [List.getElem?_eq_getElem hj, hju]
          rw [Array.getElem?_toList, e1] at this
          injection this with this
          exact this ▸ e2
        -- what is written, wherever
        have hwrite : ∀ (g off : Nat) (c : Array Value) (E : TypeId), w.heap[g]? = some (.cells c E (0, 0)) → a.eval x = .pointer (some ⟨g, off, none⟩) → off + new.length ≤ c.size →
            Yields P o a w undef (w.setRow g (c.toList.take off ++ (a.eval y).cells.toList ++ c.toList.drop (off + (a.eval y).cells.toList.length)).toArray) := by
          intro g off c E hg hx hle
          refine .inr ⟨?_, rfl⟩
          have hst := run_storeCells_at P g off E (a.eval y).cells.toList 0 c w hg (by simp [hsz]; omega) h1
          simp only [Nat.add_zero] at hst
          simp [execOp, ho, hx, Instr.storeAt, Instr.sureAddr, storeVar, run_sizeOf hd, hsz, hlen, hst]
        have hcx := hs.ev x
        generalize hex : a.eval x = vx at hcx
        generalize hevx : ev GT s x = ax at hcx hset
        cases hcx with
        | @ref _ id off r hr hnl =>
          simp only [setAt] at hset
          have hob := hs.obj id
          split at hset
          · rename_i cs heq
            split at hset
            · rename_i hle
              injection hset with hset
              injection hset with hn hset
              subst hset
              rw [heq] at hob
              obtain ⟨r', c, E, hr', _, hh, hl, hcv⟩ := hob
              obtain rfl : r = r' := Option.some.inj (hr.symm.trans hr')
              obtain ⟨q1, q2, q3, q4, q5⟩ := setRow_eq w r.blk (c.toList.take (r.base + off) ++ (a.eval y).cells.toList ++ c.toList.drop (r.base + off + (a.eval y).cells.toList.length)).toArray
              refine ⟨p, undef, _, hwrite r.blk (r.base + off) c E hh hex (by omega), hs.write hr hnl _ q1 q2 q3 q4 q5 ?_, .top, fun h => by simp [ho, Op.quiet] at h, fun _ _ => .inl rfl⟩
              have hsz' : (a.eval y).cells.toList.length = new.length := by simp [hsz]
              refine ⟨r, _, E, hr, hnl, setRow_heap w r.blk c _ E _ hh, ?_, fun j z e => ?_⟩
              · simp [splice_length _ _ _ hle, hsz]; omega
              · rw [splice_get _ _ _ _ hle] at e
                rw [splice_get_val _ _ _ _ (by rw [hsz']; omega), hsz']
                have hIw : ∀ (cs : Array Value) (b : Nat), I b → (w.setRow r.blk cs).heap[b]? = w.heap[b]? :=
                  fun cs b hb => (setRow_eq w r.blk cs).2.1 b (by rintro rfl; exact (hs.own id r hr hnl).2.2 hb)
                split at e
                · rename_i hin
                  rw [if_pos (by omega)]
                  obtain ⟨u, e1, e2, e3⟩ := hv _ _ e
                  refine ⟨u, ?_, e2, e3.mono (hIw _) (fun _ h => h) fun _ _ h => h⟩
                  rw [Array.getElem?_toList, ← e1]
                  congr 1
                  omega
                · rename_i hout
                  rw [if_neg (by omega)]
                  obtain ⟨u, e1, e2, e3⟩ := hcv _ _ e
                  exact ⟨u, e1, e2, e3.mono (hIw _) (fun _ h => h) fun _ _ h => h⟩
            · cases hset
          · cases hset
        | @eref _ id k i off r hr hnl =>
          simp only [setAt] at hset
          have hob := hs.obj id
          split at hset
          · rename_i k' xs heq
            split at hset
            · rename_i hcond
              obtain ⟨hk', hle, himm⟩ := hcond
              subst hk'
              injection hset with hset
              injection hset with hn hset
              subst hset
              have hi : i < xs.length := by rw [← hn] at hneed; exact hneed
              rw [heq] at hob
              obtain ⟨r', hr', hob⟩ := hob
              obtain rfl : r = r' := Option.some.inj (hr.symm.trans hr')
              rcases hob with ⟨hnone, _⟩ | ⟨_, c, E, hh, hl, hm, hcs, hkx, hcv⟩
              · rw [hnl] at hnone; cases hnone
              have hik : i * k' + k' ≤ r.cap * k' := by
                have h1 : (i + 1) * k' ≤ r.cap * k' := Nat.mul_le_mul_right _ (by omega)
                rw [Nat.add_mul] at h1
                omega
              obtain ⟨q1, q2, q3, q4, q5⟩ := setRow_eq w r.blk (c.toList.take (r.base + i * k' + off) ++ (a.eval y).cells.toList ++ c.toList.drop (r.base + i * k' + off + (a.eval y).cells.toList.length)).toArray
              refine ⟨p, undef, _, hwrite r.blk (r.base + i * k' + off) c E hh hex (by omega), hs.write hr hnl _ q1 q2 q3 q4 q5 ?_, .top, fun h => by simp [ho, Op.quiet] at h, fun _ _ => .inl rfl⟩
              have hsz' : (a.eval y).cells.toList.length = new.length := by simp [hsz]
              have hxi : xs.getD i [] = xs[i] := by simp [List.getD_eq_getElem?_getD, hi]
              have hki : xs[i].length = k' := hkx _ (List.getElem_mem hi)
              refine ⟨r, hr, .inr ⟨hnl, _, E, setRow_heap w r.blk c _ E _ hh, by simpa using hl, hm, ?_, fun z hz => ?_, fun i2 j z z' e e' => ?_⟩⟩
              · simp [hsz]; omega
              · rcases List.mem_or_eq_of_mem_set hz with hz | rfl
                · exact hkx z hz
                · rw [splice_length _ _ _ (by rw [hxi, hki]; exact hle), hxi, hki]
              · have hIw : ∀ (cs : Array Value) (b : Nat), I b → (w.setRow r.blk cs).heap[b]? = w.heap[b]? :=
                  fun cs b hb => (setRow_eq w r.blk cs).2.1 b (by rintro rfl; exact (hs.own id r hr hnl).2.2 hb)
                rw [splice_get_val _ _ _ _ (by rw [hsz']; omega), hsz']
                rw [List.getElem?_set] at e
                by_cases hi2 : i = i2
                · subst hi2
                  simp [hi] at e
                  subst e
                  rw [splice_get _ _ _ _ (by rw [hki]; exact hle)] at e'
                  split at e'
                  · rename_i hin
                    rw [if_pos (by omega)]
                    obtain ⟨u, e1, e2, e3⟩ := hv _ _ e'
                    refine ⟨u, ?_, e2, (e3.ofImm (AV.immL_mem himm _ (List.mem_of_getElem? e'))).mono (hIw _) (fun _ h => h) fun _ _ h => h⟩
                    rw [Array.getElem?_toList, ← e1]
                    congr 1
                    omega
                  · rename_i hout
                    obtain ⟨u, e1, e2, e3⟩ := hcv i j _ _ (List.getElem?_eq_getElem hi) e'
                    rw [if_neg (by omega)]
                    exact ⟨u, e1, e2, e3.mono (hIw _) (fun _ h => h) fun _ _ h => h⟩
                · rw [if_neg hi2] at e
                  obtain ⟨u, e1, e2, e3⟩ := hcv i2 j z z' e e'
                  have hzk : z.length = k' := hkx z (List.mem_of_getElem? e)
                  have hj : j < k' := by rw [← hzk]; exact (List.getElem?_eq_some_iff.1 e').1
                  have hne : ¬ (r.base + i * k' + off ≤ r.base + i2 * k' + j ∧ r.base + i2 * k' + j < r.base + i * k' + off + new.length) := by
                    rintro ⟨g1, g2⟩
                    rcases Nat.lt_or_gt_of_ne hi2 with h | h
                    · have : (i + 1) * k' ≤ i2 * k' := Nat.mul_le_mul_right _ h
                      rw [Nat.add_mul] at this
                      omega
                    · have : (i2 + 1) * k' ≤ i * k' := Nat.mul_le_mul_right _ h
                      rw [Nat.add_mul] at this
                      omega
                  rw [if_neg hne]
                  exact ⟨u, e1, e2, e3.mono (hIw _) (fun _ h => h) fun _ _ h => h⟩
            · cases hset
          · cases hset
        | _ => cases hset
      · cases h
    · cases h
  · cases h

end
end Go.Proofs.YtmfgaefefgnhbaaGreatDoor.Abs
namespace Go.Proofs.YtmfgaefefgnhbaaGreatDoor.Abs
set_option linter.unusedSimpArgs false
set_option linter.unusedVariables false
open Go Go.RowKit

section
variable {P : Program} {GT : Ctx} {o : Oper} {s : St}

theorem Conc.raw_eq {I : Nat → Prop} {w : World} {p : Place} {v u : Value} (h : Conc I w p v (.raw u)) : v = u := by
  cases h; rfl

/-- A pointer moved on by so many cells. -/
def moved (n : Nat) : AV → Option AV
  | .cptr cs => if n ≤ cs.length then some (.cptr (cs.drop n)) else none
  | .ref id off => some (.ref id (off + n))
  | .eref id k i off => some (.eref id k i (off + n))
  | _ => none

theorem moved_conc {I : Nat → Prop} {w : World} {p : Place} {v : Value} {x y : AV} {n : Nat} (h : Conc I w p v x) (e : moved n x = some y) :
    ∃ b off, v = .pointer (some ⟨b, off, none⟩) ∧ Conc I w p (.pointer (some ⟨b, off + n, none⟩)) y := by
  cases h with
  | @cptr _ cs b off f hb hx h1 h =>
    simp only [moved] at e
    split at e
    · rename_i hn
      injection e with e
      subst e
      refine ⟨b, off, rfl, .cptr (f := fun j => f (n + j)) hb (fun j hj => ?_) (fun j hj => ?_) fun j a e => ?_⟩
      · rw [Nat.add_assoc]
        exact hx _ (by simp at hj; omega)
      · exact h1 _ (by simp at hj; omega)
      · rw [List.getElem?_drop] at e
        exact h _ _ e
    · cases e
  | ref hr hl =>
    injection e with e
    subst e
    exact ⟨_, _, rfl, by rw [Nat.add_assoc]; exact .ref hr hl⟩
  | eref hr hl =>
    injection e with e
    subst e
    exact ⟨_, _, rfl, by rw [Nat.add_assoc]; exact .eref hr hl⟩
  | _ => cases e

def evFieldAddr (P : Program) (GT : Ctx) (s : St) (S : TypeId) (x : Operand) (f : Nat) : Option Res :=
  match td P S with
  | some d => match d.kind with
    | .struct fs => match fs[f]? with
      | some (off, ty) => match td P ty with
        | some d' => if d'.size ≠ 0 then (match moved off (ev GT s x) with
          | some y => some ⟨True, y, s⟩
          | none => none) else none
        | none => none
      | none => none
    | _ => none
  | none => none

theorem evFieldAddr_ok {S : TypeId} {x : Operand} {f : Nat} {r : Res} (ho : o.op = .fieldAddr S x f) (h : evFieldAddr P GT s S x f = some r) : StepPure P GT o s r := by
  unfold evFieldAddr at h
  split at h
  · rename_i d hd
    split at h
    · rename_i fs hk
      split at h
      · rename_i off ty hf
        split at h
        · rename_i d' hd'
          split at h
          · rename_i hne
            split at h
            · rename_i y hy
              injection h with h
              subst h
              refine stepOK_pure fun _ w0 G p I a w hs => ?_
              obtain ⟨b, off', hx, hc⟩ := moved_conc (hs.ev x) hy
              obtain ⟨fields, hu, hfs⟩ := td_struct hd hk
              refine ⟨_, ?_, hc⟩
              rw [← hfs, List.getElem?_map] at hf
              cases hfi : fields[f]? with
              | none => rw [Array.getElem?_toList, hfi] at hf; cases hf
              | some fl =>
                rw [Array.getElem?_toList, hfi] at hf
                simp only [Option.map_some, Option.some.injEq, Prod.mk.injEq] at hf
                obtain ⟨rfl, rfl⟩ := hf
                simp [execOp, ho, hx, Instr.fieldAt, run_underlying hu, hfi, Instr.sureAddr, fieldPlace, run_sizeOf hd', hne, Addr.add_lit]
            · cases h
          · cases h
        · cases h
      · cases h
    · cases h
  · cases h

/-- A part of a struct or an array that is a value. -/
def partOf (d : TD) (cs : List AV) (off : Nat) : Option AV :=
  if d.isAgg then (if off + d.size ≤ cs.length then some (.agg ((cs.drop off).take d.size)) else none) else cs[off]?

theorem part_conc {t : TypeId} {d : TD} (hd : td P t = some d) {I : Nat → Prop} {w : World} {p : Place} {cs : Array Value} {as : List AV} {off : Nat} {y : AV} (hl : as.length = cs.size) (h1 : ∀ (i : Nat) (v : Value), cs[i]? = some v → v.oneCell' = true)
    (h : ∀ (i : Nat) (v : Value) (a : AV), cs[i]? = some v → as[i]? = some a → Conc I w p v a) (e : partOf d as off = some y) : ∃ x, (∀ w', (part t cs off).run P w' = .ok x w') ∧ Conc I w p x y := by
  unfold partOf at e
  split at e
  · rename_i hagg
    split at e
    · rename_i hle
      injection e with e
      subst e
      refine ⟨.agg (cs.extract off (off + d.size)), by simp [part, run_isAgg hd, hagg, run_sizeOf hd], .agg ?_ ?_ ?_⟩
      · simp; omega
      · intro i v e
        rw [Array.getElem?_extract] at e
        split at e
        · exact h1 _ _ e
        · cases e
      · intro i v a e e'
        rw [Array.getElem?_extract] at e
        rw [List.getElem?_take] at e'
        split at e
        · split at e'
          · rw [List.getElem?_drop] at e'
            exact h _ _ _ e e'
          · cases e'
        · cases e
    · cases e
  · rename_i hagg
    have hlt : off < cs.size := by rw [← hl]; exact (List.getElem?_eq_some_iff.1 e).1
    exact ⟨cs[off], by simp [part, run_isAgg hd, hagg, Array.getElem?_eq_getElem hlt], h _ _ _ (Array.getElem?_eq_getElem hlt) e⟩

def evField (P : Program) (GT : Ctx) (s : St) (S : TypeId) (x : Operand) (f : Nat) : Option Res :=
  match ev GT s x with
  | .agg cs => match td P S with
    | some d => match d.kind with
      | .struct fs => match fs[f]? with
        | some (off, ty) => match td P ty with
          | some d' => match partOf d' cs off with
            | some y => some ⟨True, y, s⟩
            | none => none
          | none => none
        | none => none
      | _ => none
    | none => none
  | _ => none

theorem evField_ok {S : TypeId} {x : Operand} {f : Nat} {r : Res} (ho : o.op = .field S x f) (h : evField P GT s S x f = some r) : StepPure P GT o s r := by
  unfold evField at h
  split at h
  · rename_i cs hx
    split at h
    · rename_i d hd
      split at h
      · rename_i fs hk
        split at h
        · rename_i off ty hf
          split at h
          · rename_i d' hd'
            split at h
            · rename_i y hy
              injection h with h
              subst h
              refine stepOK_pure fun _ w0 G p I a w hs => ?_
              have hc := hs.ev x
              rw [hx] at hc
              generalize hxv : a.eval x = xv at hc
              cases hc with
              | agg hl h1 h =>
                obtain ⟨z, hz, hzc⟩ := part_conc hd' hl h1 h hy
                obtain ⟨fields, hu, hfs⟩ := td_struct hd hk
                refine ⟨z, ?_, hzc⟩
                rw [← hfs, List.getElem?_map] at hf
                cases hfi : fields[f]? with
                | none => rw [Array.getElem?_toList, hfi] at hf; cases hf
                | some fl =>
                  rw [Array.getElem?_toList, hfi] at hf
                  simp only [Option.map_some, Option.some.injEq, Prod.mk.injEq] at hf
                  obtain ⟨rfl, rfl⟩ := hf
                  simp [execOp, ho, hxv, Instr.field, run_underlying hu, hfi, asAgg, hz]
            · cases h
          · cases h
        · cases h
      · cases h
    · cases h
  · cases h

/-- The address of an element. -/
def evIndexAddr (P : Program) (GT : Ctx) (s : St) (T : TypeId) (x i : Operand) : Option Res :=
  match ev GT s i, td P T with
  | .raw (.int _ n), some d => match d.kind with
    | .slice e => match td P e with
      | some d' => match ev GT s x with
        | .lst k xs => if k = d'.size then some ⟨0 ≤ n ∧ n < xs.length, .cptr (xs.getD n.toNat []), s⟩ else none
        | .own id k lo m => if k = d'.size then some ⟨0 ≤ n ∧ n < m, .eref id k (lo + n.toNat) 0, s⟩ else none
        | _ => none
      | none => none
    | .array len e => match td P e with
      | some d' => match ev GT s x with
        | .cptr cs => some ⟨0 ≤ n ∧ n < len ∧ (n.toNat * d'.size) ≤ cs.length, .cptr (cs.drop (n.toNat * d'.size)), s⟩
        | .ref id off => some ⟨0 ≤ n ∧ n < len, .ref id (off + n.toNat * d'.size), s⟩
        | .eref id k j off => some ⟨0 ≤ n ∧ n < len, .eref id k j (off + n.toNat * d'.size), s⟩
        | _ => none
      | none => none
    | _ => none
  | _, _ => none

theorem evIndexAddr_ok {T : TypeId} {x i : Operand} {r : Res} (ho : o.op = .indexAddr T x i) (h : evIndexAddr P GT s T x i = some r) : StepPure P GT o s r := by
  unfold evIndexAddr at h
  split at h
  · rename_i kn n d hi hd
    have hint : ∀ {w0 G p I a w}, Sim GT w0 G p I s a w → a.eval i = .int kn n := fun hs => by
      have := hs.ev i
      rw [hi] at this
      exact this.raw_eq
    split at h
    · rename_i e hk
      have hu := td_slice hd hk
      split at h
      · rename_i d' hd'
        split at h
        · rename_i k xs hx
          split at h
          · rename_i hkk
            injection h with h
            subst h
            refine stepOK_pure fun hn w0 G p I a w hs => ?_
            have hc := hs.ev x
            rw [hx] at hc
            generalize hxv : a.eval x = xv at hc
            cases hc with
            | @lst _ _ _ A c m f hn' hc hm hkl hxx h1 hh =>
              subst hn'
              have hlt : n.toNat < xs.length := by omega
              rcases hxx with hxx | ⟨b, off, hA, hb, hxx⟩
              · subst hxx; simp at hlt
              subst hA
              have hxn : xs.getD n.toNat [] = xs[n.toNat] := by simp [List.getD_eq_getElem?_getD, hlt]
              have hxk : xs[n.toNat].length = k := hkl _ (List.getElem_mem hlt)
              refine ⟨.pointer (some ⟨b, off + n.toNat * k, none⟩), ?_, ?_⟩
              · have h1' : (0 ≤ n ∧ n < (xs.length : Int)) := hn
                simp [execOp, ho, hxv, hint hs, Instr.indexAt, asIntOf, run_underlying hu, h1'.1, h1'.2, run_sizeOf hd', Addr.add_lit, hkk]
              · simp only [hxn]
                refine .cptr (f := fun j => f n.toNat j) hb (fun j hj => hxx _ _ hlt (by omega)) (fun j hj => h1 _ _ hlt (by omega)) fun j a e => hh _ _ _ _ (List.getElem?_eq_getElem hlt) e
          · cases h
        · rename_i id k lo m hx
          split at h
          · rename_i hkk
            injection h with h
            subst h
            refine stepOK_pure fun hn w0 G p I a w hs => ?_
            have hc := hs.ev x
            rw [hx] at hc
            generalize hxv : a.eval x = xv at hc
            cases hc with
            | @own _ _ _ _ _ A c r hn' hm hr hh =>
              have h1' : (0 ≤ n ∧ n < (m : Int)) := hn
              rcases hh with ⟨_, hh⟩ | ⟨hnl, hA, hcap⟩
              · omega
              obtain rfl := hA.resolve_left (by omega)
              refine ⟨.pointer (some ⟨r.blk, r.base + (lo + n.toNat) * k + 0, none⟩), ?_, .eref hr hnl⟩
              simp [execOp, ho, hxv, hint hs, Instr.indexAt, asIntOf, run_underlying hu, h1'.1, h1'.2, run_sizeOf hd', Addr.add_lit, hkk]
              rw [Nat.add_mul]; omega
          · cases h
        · cases h
      · cases h
    · rename_i len e hk
      have hu := td_array hd hk
      split at h
      · rename_i d' hd'
        have hrun : ∀ {a : Act} {w : World} {b off : Nat}, a.eval i = .int kn n → a.eval x = .pointer (some ⟨b, off, none⟩) → 0 ≤ n → n < (len : Int) →
            (execOp a.eval o).run P w = .ok (.value (.pointer (some ⟨b, off + n.toNat * d'.size, none⟩))) w := by
          intro a w b off hi hx h0 h1
          simp [execOp, ho, hi, hx, Instr.indexAt, asIntOf, Instr.sureAddr, run_underlying hu, h0, h1, run_sizeOf hd', Addr.add_lit]
        split at h
        · rename_i cs hx
          injection h with h
          subst h
          refine stepOK_pure fun hn w0 G p I a w hs => ?_
          have hc := hs.ev x
          rw [hx] at hc
          obtain ⟨b, off, hxv, hc'⟩ := moved_conc (n := n.toNat * d'.size) (y := .cptr (cs.drop (n.toNat * d'.size))) hc (by simp [moved, hn.2.2])
          exact ⟨_, fun w' _ => hrun (hint hs) hxv hn.1 hn.2.1, hc'⟩
        · rename_i id off hx
          injection h with h
          subst h
          refine stepOK_pure fun hn w0 G p I a w hs => ?_
          have hc := hs.ev x
          rw [hx] at hc
          obtain ⟨b, off, hxv, hc'⟩ := moved_conc (n := n.toNat * d'.size) hc rfl
          exact ⟨_, fun w' _ => hrun (hint hs) hxv hn.1 hn.2, hc'⟩
        · rename_i id k j off hx
          injection h with h
          subst h
          refine stepOK_pure fun hn w0 G p I a w hs => ?_
          have hc := hs.ev x
          rw [hx] at hc
          obtain ⟨b, off, hxv, hc'⟩ := moved_conc (n := n.toNat * d'.size) hc rfl
          exact ⟨_, fun w' _ => hrun (hint hs) hxv hn.1 hn.2, hc'⟩
        · cases h
      · cases h
    · cases h
  · cases h

/-- An element of an array or a string that is a value. -/
def evIndex (P : Program) (GT : Ctx) (s : St) (T : TypeId) (x i : Operand) : Option Res :=
  match ev GT s i, td P T with
  | .raw (.int _ n), some d => match d.kind with
    | .str => match ev GT s x with
      | .raw (.string b) => some ⟨0 ≤ n ∧ n < b.size, .raw (.int .u8 (b.data.toList.getD n.toNat 0).toNat), s⟩
      | _ => none
    | .array len e => match td P e, ev GT s x with
      | some d', .agg cs => match partOf d' cs (n.toNat * d'.size) with
        | some y => some ⟨0 ≤ n ∧ n < len, y, s⟩
        | none => none
      | _, _ => none
    | _ => none
  | _, _ => none

theorem evIndex_ok {T : TypeId} {x i : Operand} {r : Res} (ho : o.op = .index T x i) (h : evIndex P GT s T x i = some r) : StepPure P GT o s r := by
  unfold evIndex at h
  split at h
  · rename_i kn n d hi hd
    have hint : ∀ {w0 G p I a w}, Sim GT w0 G p I s a w → a.eval i = .int kn n := fun hs => by
      have := hs.ev i
      rw [hi] at this
      exact this.raw_eq
    split at h
    · rename_i hk
      have hu := td_str hd hk
      split at h
      · rename_i b hx
        injection h with h
        subst h
        refine stepOK_pure fun hn w0 G p I a w hs => ?_
        have hc := hs.ev x
        rw [hx] at hc
        generalize hxv : a.eval x = xv at hc
        cases hc
        have h1 : 0 ≤ n ∧ n < (b.size : Int) := hn
        have hlt : n.toNat < b.size := by omega
        have hlt' : n.toNat < b.data.toList.length := by simpa using hlt
        refine ⟨.int .u8 b[n.toNat].toNat, ?_, ?_⟩
        · simp [execOp, ho, hxv, hint hs, Instr.index, asIntOf, run_underlying hu, h1.1, hlt]
        · have : b.data.toList.getD n.toNat 0 = b[n.toNat] := by
            rw [List.getD_eq_getElem?_getD, List.getElem?_eq_getElem hlt']
            rfl
          simp only [this]
          exact .raw
      · cases h
    · rename_i len e hk
      have hu := td_array hd hk
      split at h
      · rename_i d' cs hd' hx
        split at h
        · rename_i y hy
          injection h with h
          subst h
          refine stepOK_pure fun hn w0 G p I a w hs => ?_
          have hc := hs.ev x
          rw [hx] at hc
          generalize hxv : a.eval x = xv at hc
          cases hc with
          | agg hl h1 h =>
            obtain ⟨z, hz, hzc⟩ := part_conc hd' hl h1 h hy
            exact ⟨z, by simp [execOp, ho, hxv, hint hs, Instr.index, asIntOf, run_underlying hu, hn.1, hn.2, run_sizeOf hd', hz], hzc⟩
        · cases h
      · cases h
    · cases h
  · cases h

/-- The fields of a struct that may be compared: plain ones. -/
def eqFlat (P : Program) (t : TypeId) : Option (List (Nat × TypeId)) :=
  match P.underlying t with
  | some (.struct fs) => if P.stoodInHeld t || P.eqGuardType P.depth t || !(fs.toList.all fun f => f.name != "_") then none else some (fs.toList.map fun f => (f.offset, f.type))
  | _ => none
def eqLeaf : TK → AV → AV → Option Bool
  | .bool, .raw (.bool a), .raw (.bool b) => some (decide (a = b))
  | .int _, .raw (.int k a), .raw (.int k' b) => if k = k' then some (decide (a = b)) else none
  | .str, .raw (.string a), .raw (.string b) => some (decide (a = b))
  | _, _, _ => none
def eqCells (P : Program) : List (Nat × TypeId) → List AV → List AV → Option Bool
  | [], _, _ => some true
  | (o, t) :: fs, xs, ys => match td P t, xs[o]?, ys[o]?, eqCells P fs xs ys with
    | some d, some x, some y, some r => if d.isAgg then none else (match eqLeaf d.kind x y with
      | some b => some (b && r)
      | none => none)
    | _, _, _, _ => none

/-- Operators of two operands. -/
def evBin (P : Program) (op : BinOp) (T : TypeId) (x y : AV) : Option (Prop × AV) :=
  match x, y with
  | .raw (.int k a), .raw (.int k' b) => match op with
    | .shl => some (0 ≤ b, .raw (.int k (k.wrap (a * 2 ^ (min b.toNat k.bits)))))
    | .shr => some (0 ≤ b, .raw (.int k (a.fdiv (2 ^ (min b.toNat k.bits)))))
    | .add => if k = k' then some (True, .raw (.int k (k.wrap (a + b)))) else none
    | .sub => if k = k' then some (True, .raw (.int k (k.wrap (a - b)))) else none
    | .mul => if k = k' then some (True, .raw (.int k (k.wrap (a * b)))) else none
    | .quo => if k = k' then some (b ≠ 0, .raw (.int k (k.wrap (a.tdiv b)))) else none
    | .rem => if k = k' then some (b ≠ 0, .raw (.int k (a.tmod b))) else none
    | .and => if k = k' then some (True, .raw (.int k (k.wrap (BitVec.ofInt k.bits a &&& BitVec.ofInt k.bits b).toNat))) else none
    | .or => if k = k' then some (True, .raw (.int k (k.wrap (BitVec.ofInt k.bits a ||| BitVec.ofInt k.bits b).toNat))) else none
    | .xor => if k = k' then some (True, .raw (.int k (k.wrap (BitVec.ofInt k.bits a ^^^ BitVec.ofInt k.bits b).toNat))) else none
    | .andNot => if k = k' then some (True, .raw (.int k (k.wrap (BitVec.ofInt k.bits a &&& ~~~ BitVec.ofInt k.bits b).toNat))) else none
    | .eql => if k = k' then some (True, .raw (.bool (decide (a = b)))) else none
    | .neq => if k = k' then some (True, .raw (.bool (!decide (a = b)))) else none
    | .lss => if k = k' then some (True, .raw (.bool (decide (a < b)))) else none
    | .leq => if k = k' then some (True, .raw (.bool (decide (a ≤ b)))) else none
    | .gtr => if k = k' then some (True, .raw (.bool (decide (b < a)))) else none
    | .geq => if k = k' then some (True, .raw (.bool (decide (b ≤ a)))) else none
  | .raw (.string a), .raw (.string b) => match op with
    | .add => some (a.size + b.size ≤ 9223372036854775807, .raw (.string (a ++ b)))
    | .eql => some (True, .raw (.bool (decide (a = b))))
    | .neq => some (True, .raw (.bool (!decide (a = b))))
    | .lss => some (True, .raw (.bool (Op.bytesLess a.toList b.toList)))
    | .leq => some (True, .raw (.bool (Op.bytesLess a.toList b.toList || decide (a = b))))
    | .gtr => some (True, .raw (.bool (!(Op.bytesLess a.toList b.toList || decide (a = b)))))
    | .geq => some (True, .raw (.bool (!Op.bytesLess a.toList b.toList)))
    | _ => none
  | .raw (.bool a), .raw (.bool b) => match td P T with
    | some d => match d.kind with
      | .bool => match op with
        | .eql => some (True, .raw (.bool (decide (a = b))))
        | .neq => some (True, .raw (.bool (!decide (a = b))))
        | _ => none
      | _ => none
    | none => none
  | .agg xs, .agg ys => match eqFlat P T with
    | some fs => match eqCells P fs xs ys with
      | some b => match op with
        | .eql => some (True, .raw (.bool b))
        | .neq => some (True, .raw (.bool (!b)))
        | _ => none
      | none => none
    | none => none
  | _, _ => none

theorem beqBytes (a b : ByteArray) : (a.toList == b.toList) = decide (a = b) := by
  rw [ByteArray.toList_eq, ByteArray.toList_eq, Bool.eq_iff_iff]
  obtain ⟨⟨x⟩⟩ := a
  obtain ⟨⟨y⟩⟩ := b
  simp

theorem eqLeaf_run {t : TypeId} {d : TD} (hd : td P t = some d) {I : Nat → Prop} {w : World} {p : Place} {u v : Value} {x y : AV} {b : Bool} (hu : Conc I w p u x) (hv : Conc I w p v y) (h : eqLeaf d.kind x y = some b) (n : Nat) :
    ∀ w', (Op.equalIn (n + 1) t u v).run P w' = .ok b w' := by
  intro w'
  unfold eqLeaf at h
  split at h
  · rename_i hk
    obtain rfl := hu.raw_eq
    obtain rfl := hv.raw_eq
    injection h with h; subst h
    rw [run_equalIn_bool' w' n t _ _ (td_bool hd hk)]
    rename_i a b _
    cases a <;> cases b <;> rfl
  · rename_i hk
    obtain rfl := hu.raw_eq
    obtain rfl := hv.raw_eq
    split at h
    · rename_i hkk
      subst hkk
      injection h with h; subst h
      rw [run_equalIn_int w' n t _ _ _ _ (td_int hd hk)]
      congr 1
    · cases h
  · rename_i hk
    obtain rfl := hu.raw_eq
    obtain rfl := hv.raw_eq
    injection h with h; subst h
    rw [run_equalIn_string w' n t _ _ (td_str hd hk), beqBytes]
  · cases h

theorem eqFields_run {I : Nat → Prop} {w : World} {p : Place} {xs ys : Array Value} {as bs : List AV} (hlx : as.length = xs.size) (hly : bs.length = ys.size)
    (hx : ∀ (i : Nat) (v : Value) (a : AV), xs[i]? = some v → as[i]? = some a → Conc I w p v a) (hy : ∀ (i : Nat) (v : Value) (a : AV), ys[i]? = some v → bs[i]? = some a → Conc I w p v a) (n : Nat) (w' : World) :
    ∀ (fs : List Field) (r : Bool), (∀ f ∈ fs, f.name ≠ "_") → eqCells P (fs.map fun f => (f.offset, f.type)) as bs = some r → (Op.eqFields (n + 1) xs ys fs).run P w' = .ok r w'
  | [], r, _, h => by
    injection h with h; subst h
    simp [Op.eqFields]
  | f :: fs, r, hn, h => by
    simp only [List.map_cons, eqCells] at h
    split at h
    · rename_i d x y r' hd hxo hyo hr
      split at h
      · cases h
      · rename_i hagg
        split at h
        · rename_i b hb
          injection h with h; subst h
          have hltx : f.offset < xs.size := by rw [← hlx]; exact (List.getElem?_eq_some_iff.1 hxo).1
          have hlty : f.offset < ys.size := by rw [← hly]; exact (List.getElem?_eq_some_iff.1 hyo).1
          have ih := eqFields_run hlx hly hx hy n w' fs r' (fun g hg => hn g (List.mem_cons_of_mem _ hg)) hr
          have hleaf := eqLeaf_run hd (hx _ _ _ (Array.getElem?_eq_getElem hltx) hxo) (hy _ _ _ (Array.getElem?_eq_getElem hlty) hyo) hb n w'
          simp only [Op.eqFields, hn f List.mem_cons_self, ne_eq, not_false_eq_true, if_true, Sem.run_bind, part, run_isAgg hd, hagg, Result.andThen_ok, Bool.false_eq_true, if_false, Array.getElem?_eq_getElem hltx, Array.getElem?_eq_getElem hlty, Sem.run_pure, hleaf]
          cases b
          · simp
          · simp [ih]
        · cases h
    · cases h

theorem eqFlat_run {T : TypeId} {fl : List (Nat × TypeId)} (hf : eqFlat P T = some fl) {I : Nat → Prop} {w : World} {p : Place} {xs ys : Array Value} {as bs : List AV} (hlx : as.length = xs.size) (hly : bs.length = ys.size)
    (hx : ∀ (i : Nat) (v : Value) (a : AV), xs[i]? = some v → as[i]? = some a → Conc I w p v a) (hy : ∀ (i : Nat) (v : Value) (a : AV), ys[i]? = some v → bs[i]? = some a → Conc I w p v a) {r : Bool} (h : eqCells P fl as bs = some r) (w' : World) :
    (Op.equalIn 10000 T (.agg xs) (.agg ys)).run P w' = .ok r w' ∧ P.eqGuardType P.depth T = false := by
  unfold eqFlat at hf
  split at hf
  · rename_i fs hu
    split at hf
    · cases hf
    · rename_i hc
      simp only [Bool.or_eq_true, not_or, Bool.not_eq_true, Bool.not_eq_false'] at hc
      obtain ⟨⟨h1, h2⟩, h3⟩ := hc
      injection hf with hf
      subst hf
      have hfo : P.fieldsOf T = fs := by simp [Program.fieldsOf, hu]
      refine ⟨?_, h2⟩
      rw [run_equalIn_agg w' 9999 T xs ys (by rw [hfo]; exact hu) h1, hfo]
      refine eqFields_run hlx hly hx hy 9998 w' _ _ (fun f hm => ?_) h
      have := List.all_eq_true.1 h3 f hm
      simpa using this
  · cases hf

theorem evBin_ok {op : BinOp} {T : TypeId} {x y : AV} {n : Prop} {z : AV} (h : evBin P op T x y = some (n, z)) (hn : n) {I : Nat → Prop} {w : World} {p : Place} {vx vy : Value} {ox oy : Operand} (hx : Conc I w p vx x) (hy : Conc I w p vy y) :
    ∃ v, z = .raw v ∧ ∀ w', (do eqGuard op T ox oy vx vy; binOp op T vx vy : Sem Value).run P w' = .ok v w' := by
  unfold evBin at h
  split at h
  · rename_i k a k' b
    obtain rfl := hx.raw_eq
    obtain rfl := hy.raw_eq
    have hg : ∀ w, (eqGuard op T ox oy (.int k a) (.int k' b)).run P w = .ok () w := by cases op <;> simp [eqGuard]
    cases op <;> simp only at h <;> (try split at h) <;> first
      | (cases h; done)
      | (simp only [Option.some.injEq, Prod.mk.injEq] at h
         obtain ⟨rfl, rfl⟩ := h
         subst_vars
         refine ⟨_, rfl, fun w => ?_⟩
         simp only [Sem.run_bind, hg, Result.andThen_ok, binOp, Op.intArith, Op.intDiv, Op.intBits, Op.intCmp, Op.shift, ne_eq, not_true_eq_false, if_false]
         first
           | rfl
           | (rw [if_neg hn]; rfl)
           | (rw [if_neg (by omega)]; rfl)
           | (simp only [Sem.run_pure]; congr 2; simp [BEq.beq, bne]))
  · rename_i a b
    obtain rfl := hx.raw_eq
    obtain rfl := hy.raw_eq
    have hg : ∀ w, (eqGuard op T ox oy (.string a) (.string b)).run P w = .ok () w := by cases op <;> simp [eqGuard]
    cases op <;> simp only at h <;> first
      | (cases h; done)
      | (simp only [Option.some.injEq, Prod.mk.injEq] at h
         obtain ⟨rfl, rfl⟩ := h
         refine ⟨_, rfl, fun w => ?_⟩
         simp only [Sem.run_bind, hg, Result.andThen_ok, binOp, Op.stringOp, beqBytes]
         first
           | rfl
           | (rw [if_neg (by have : IntKind.i64.max = 9223372036854775807 := rfl; omega)]; rfl))
  · rename_i a b
    obtain rfl := hx.raw_eq
    obtain rfl := hy.raw_eq
    split at h
    · rename_i d hd
      split at h
      · rename_i hk
        have hu := td_bool hd hk
        have he := fun w => run_equal_bool (P := P) w T a b hu
        split at h
        · simp only [Option.some.injEq, Prod.mk.injEq] at h
          obtain ⟨rfl, rfl⟩ := h
          exact ⟨_, rfl, by simp [eqGuard, binOp, he]; cases a <;> cases b <;> rfl⟩
        · simp only [Option.some.injEq, Prod.mk.injEq] at h
          obtain ⟨rfl, rfl⟩ := h
          exact ⟨_, rfl, by simp [eqGuard, binOp, he]; cases a <;> cases b <;> rfl⟩
        · cases h
      · cases h
    · cases h
  · rename_i as bs
    split at h
    · rename_i fl hfl
      split at h
      · rename_i b hb
        generalize hvx' : vx = vx' at hx
        generalize hvy' : vy = vy' at hy
        cases hx with
        | agg hlx _ hxc =>
          cases hy with
          | agg hly _ hyc =>
            subst hvx'; subst hvy'
            have key := fun w' => eqFlat_run hfl hlx hly hxc hyc hb w'
            split at h
            · simp only [Option.some.injEq, Prod.mk.injEq] at h
              obtain ⟨rfl, rfl⟩ := h
              refine ⟨_, rfl, fun w' => ?_⟩
              rw [Sem.run_bind, run_eqGuard_agg w' .eql T ox oy _ _ (key w').2, Result.andThen_ok, run_eql_struct, (key w').1]
              rfl
            · simp only [Option.some.injEq, Prod.mk.injEq] at h
              obtain ⟨rfl, rfl⟩ := h
              refine ⟨_, rfl, fun w' => ?_⟩
              rw [Sem.run_bind, run_eqGuard_agg w' .neq T ox oy _ _ (key w').2, Result.andThen_ok, run_neq_struct, (key w').1]
              rfl
            · cases h
      · cases h
    · cases h
  · cases h

def evBinOp (P : Program) (GT : Ctx) (s : St) (op : BinOp) (T : TypeId) (x y : Operand) : Option Res :=
  match evBin P op T (ev GT s x) (ev GT s y) with
  | some (n, v) => some ⟨n, v, s⟩
  | none => none

theorem evBinOp_ok {op : BinOp} {T T' : TypeId} {x y : Operand} {r : Res} (ho : o.op = .binOp op T x y T') (h : evBinOp P GT s op T x y = some r) : StepPure P GT o s r := by
  unfold evBinOp at h
  split at h
  · rename_i n v hb
    injection h with h
    subst h
    refine stepOK_pure fun hn w0 G p I a w hs => ?_
    obtain ⟨u, rfl, h1⟩ := evBin_ok (ox := x) (oy := y) hb hn (hs.ev x) (hs.ev y)
    refine ⟨u, fun w' _ => ?_, .raw⟩
    have : (execOp a.eval o) = (do let v ← (do eqGuard op T x y (a.eval x) (a.eval y); binOp op T (a.eval x) (a.eval y) : Sem Value); pure (.value v)) := by
      simp [execOp, ho]
    rw [this, Sem.run_bind, h1]
    rfl
  · cases h

/-- Operators of one operand. -/
def evUnOp (GT : Ctx) (s : St) (op : UnOp) (x : Operand) : Option Res :=
  match op, ev GT s x with
  | .not, .raw (.bool b) => some ⟨True, .raw (.bool (!b)), s⟩
  | .neg, .raw (.int k n) => some ⟨True, .raw (.int k (k.wrap (0 - n))), s⟩
  | _, _ => none

theorem evUnOp_ok {op : UnOp} {T : TypeId} {x : Operand} {r : Res} (ho : o.op = .unOp op T x) (h : evUnOp GT s op x = some r) : StepPure P GT o s r := by
  unfold evUnOp at h
  split at h
  · rename_i b hx
    injection h with h
    subst h
    refine stepOK_pure fun hn w0 G p I a w hs => ?_
    have hc := hs.ev x
    rw [hx] at hc
    generalize hxv : a.eval x = xv at hc
    cases hc
    exact ⟨_, by simp [execOp, ho, hxv, Op.unary], .raw⟩
  · rename_i k n hx
    injection h with h
    subst h
    refine stepOK_pure fun hn w0 G p I a w hs => ?_
    have hc := hs.ev x
    rw [hx] at hc
    generalize hxv : a.eval x = xv at hc
    cases hc
    exact ⟨_, by simp [execOp, ho, hxv, Op.unary, Op.intArith], .raw⟩
  · cases h

/-- Conversions of integers and of strings. -/
def evConvert (P : Program) (GT : Ctx) (s : St) (S D : TypeId) (x : Operand) : Option Res :=
  match td P S, td P D, ev GT s x with
  | some _, some d, .raw (.int _ n) => match d.kind with
    | .int k => some ⟨True, .raw (.int k (k.wrap n)), s⟩
    | _ => none
  | some _, some d, .raw (.string b) => match d.kind with
    | .str => some ⟨True, .raw (.string b), s⟩
    | _ => none
  | _, _, _ => none

theorem evConvert_ok {S D : TypeId} {x : Operand} {r : Res} (ho : o.op = .convert S D x) (h : evConvert P GT s S D x = some r) : StepPure P GT o s r := by
  unfold evConvert at h
  split at h
  · rename_i d0 d k0 n hS hD hx
    split at h
    · rename_i k hk
      injection h with h
      subst h
      refine stepOK_pure fun hn w0 G p I a w hs => ?_
      have hc := hs.ev x
      rw [hx] at hc
      generalize hxv : a.eval x = xv at hc
      cases hc
      obtain ⟨_, desc, _, hu, _⟩ := td_info hS
      refine ⟨_, ?_, .raw⟩
      simp [execOp, ho, hxv, convert, run_underlying hu, run_underlying (td_int hD hk), Conv.intToInt]
    · cases h
  · rename_i d0 d b hS hD hx
    split at h
    · rename_i hk
      injection h with h
      subst h
      refine stepOK_pure fun hn w0 G p I a w hs => ?_
      have hc := hs.ev x
      rw [hx] at hc
      generalize hxv : a.eval x = xv at hc
      cases hc
      obtain ⟨_, desc, _, hu, _⟩ := td_info hS
      refine ⟨_, ?_, .raw⟩
      simp [execOp, ho, hxv, convert, run_underlying hu, run_underlying (td_str hD hk)]
    · cases h
  · cases h

def evMakeFunc (GT : Ctx) (s : St) (fn : Fn) (first captured : Array Operand) : Res :=
  ⟨True, .clo fn (first.toList.map (ev GT s)) (captured.toList.map (ev GT s)), s⟩

theorem evMakeFunc_ok {fn : Fn} {first captured : Array Operand} (ho : o.op = .makeFunc fn first captured) : StepPure P GT o s (evMakeFunc GT s fn first captured) := by
  refine stepOK_pure fun hn w0 G p I a w hs => ⟨.func fn (first.map a.eval) (captured.map a.eval), by simp [execOp, ho, Instr.makeFunc], .clo (by simp) (by simp) ?_ ?_⟩
  · intro i v x e e'
    rw [Array.getElem?_map] at e
    rw [List.getElem?_map, Array.getElem?_toList] at e'
    cases hi : first[i]? with
    | none => rw [hi] at e; cases e
    | some u =>
      rw [hi] at e e'
      injection e with e
      injection e' with e'
      subst e; subst e'
      exact hs.ev u
  · intro i v x e e'
    rw [Array.getElem?_map] at e
    rw [List.getElem?_map, Array.getElem?_toList] at e'
    cases hi : captured[i]? with
    | none => rw [hi] at e; cases e
    | some u =>
      rw [hi] at e e'
      injection e with e
      injection e' with e'
      subst e; subst e'
      exact hs.ev u

def evExtract (GT : Ctx) (s : St) (x : Operand) (i : Nat) : Option Res :=
  match ev GT s x with
  | .tup vs => match vs[i]? with
    | some v => some ⟨True, v, s⟩
    | none => none
  | _ => none

theorem evExtract_ok {x : Operand} {i : Nat} {r : Res} (ho : o.op = .extract x i) (h : evExtract GT s x i = some r) : StepPure P GT o s r := by
  unfold evExtract at h
  split at h
  · rename_i vs hx
    split at h
    · rename_i v hv
      injection h with h
      subst h
      refine stepOK_pure fun hn w0 G p I a w hs => ?_
      have hc := hs.ev x
      rw [hx] at hc
      generalize hxv : a.eval x = xv at hc
      cases hc with
      | @tup _ cs _ hl h =>
        have hlt : i < cs.size := by rw [← hl]; exact (List.getElem?_eq_some_iff.1 hv).1
        exact ⟨cs[i], by simp [execOp, ho, hxv, Instr.extract, hlt], h _ _ _ (Array.getElem?_eq_getElem hlt) hv⟩
    · cases h
  · cases h

/-- The bounds of a cut: none of an operand that is left out. -/
def evBound (GT : Ctx) (s : St) (dflt : Int) : Option Operand → Option Int
  | none => some dflt
  | some x => match ev GT s x with
    | .raw (.int _ n) => some n
    | _ => none

/-- A cut: of a string, of a slice. -/
def evSlice (P : Program) (GT : Ctx) (s : St) (T : TypeId) (x : Operand) (lo hi : Option Operand) : Option Res :=
  match td P T, evBound GT s 0 lo with
  | some d, some l => match d.kind with
    | .str => match ev GT s x with
      | .raw (.string b) => match evBound GT s b.size hi with
        | some h => some ⟨0 ≤ l ∧ l ≤ h ∧ h ≤ b.size, .raw (.string (b.extract l.toNat h.toNat)), s⟩
        | none => none
      | _ => none
    | .slice e => match td P e with
      | some d' => match ev GT s x with
        | .lst k xs => if k = d'.size then (match evBound GT s xs.length hi with
          | some h => some ⟨0 ≤ l ∧ l ≤ h ∧ h ≤ xs.length, .lst k ((xs.take h.toNat).drop l.toNat), s⟩
          | none => none) else none
        | .own id k o n => if k = d'.size then (match evBound GT s n hi with
          | some h => match s.obj id with
            | .arr k' xs => if k' = k then some ⟨0 ≤ l ∧ l ≤ h ∧ o + h.toNat ≤ xs.length, .own id k (o + l.toNat) (h.toNat - l.toNat), s⟩ else none
            | _ => none
          | none => none) else none
        | _ => none
      | none => none
    | _ => none
  | _, _ => none

theorem bound_run {w0 : World} {G : Nat → Prop} {p : Place} {I : Nat → Prop} {a : Act} {w : World} (hs : Sim GT w0 G p I s a w) {dflt n : Int} {x : Option Operand} (h : evBound GT s dflt x = some n) :
    (x.map a.eval = none ∧ n = dflt) ∨ ∃ k, x.map a.eval = some (.int k n) := by
  cases x with
  | none => injection h with h; exact .inl ⟨rfl, h.symm⟩
  | some x =>
    simp only [evBound] at h
    split at h
    · rename_i k m hx
      injection h with h
      subst h
      have hc := hs.ev x
      rw [hx] at hc
      generalize hxv : a.eval x = xv at hc
      cases hc
      exact .inr ⟨k, by simp [hxv]⟩
    · cases h

theorem run_sliceBound (w : World) (k : IntKind) {n : Int} {y : Nat} (h0 : 0 ≤ n) (h1 : n ≤ y) (code : BoundsCode) : (Instr.sliceBound (.int k n) y code).run P w = .ok n.toNat w := by
  simp [Instr.sliceBound, asIntOf, h0, h1]

theorem run_bounds {w0 : World} {G : Nat → Prop} {p : Place} {I : Nat → Prop} {a : Act} {w : World} (hs : Sim GT w0 G p I s a w) {lo hi : Option Operand} {l h : Int} (isSlice : Bool) {len cap : Nat}
    (hl : evBound GT s 0 lo = some l) (hh : evBound GT s len hi = some h) (h0 : 0 ≤ l) (h1 : l ≤ h) (h2 : h ≤ cap) :
    ∀ w', (Instr.sliceBounds isSlice len cap (lo.map a.eval) (hi.map a.eval) none).run P w' = .ok (l.toNat, h.toNat, cap) w' := by
  intro w
  rcases bound_run hs hl with ⟨e1, e2⟩ | ⟨k1, e1⟩ <;> rcases bound_run hs hh with ⟨e3, e4⟩ | ⟨k2, e3⟩ <;> rw [e1, e3]
  · subst e2; subst e4
    simp [Instr.sliceBounds]
  · subst e2
    simp [Instr.sliceBounds, run_sliceBound w k2 (by omega : 0 ≤ h) h2]
  · subst e4
    simp [Instr.sliceBounds, run_sliceBound w k1 h0 h1]
  · have h1' : l ≤ (h.toNat : Int) := by omega
    simp [Instr.sliceBounds, run_sliceBound w k2 (by omega : 0 ≤ h) h2, run_sliceBound w k1 h0 h1']

theorem evSlice_ok {T : TypeId} {x : Operand} {lo hi : Option Operand} {r : Res} (ho : o.op = .slice T x lo hi none) (h : evSlice P GT s T x lo hi = some r) : StepPure P GT o s r := by
  unfold evSlice at h
  split at h
  · rename_i d l hd hl
    split at h
    · rename_i hk
      have hu := td_str hd hk
      split at h
      · rename_i b hx
        split at h
        · rename_i h' hh
          injection h with h
          subst h
          refine stepOK_pure fun hn w0 G p I a w hs => ?_
          have hc := hs.ev x
          rw [hx] at hc
          generalize hxv : a.eval x = xv at hc
          cases hc
          have hb := run_bounds (P := P) hs false (cap := b.size) hl hh hn.1 hn.2.1 hn.2.2
          exact ⟨_, by simp [execOp, ho, hxv, Instr.sliceAt, Instr.slice, run_underlying hu, hb], .raw⟩
        · cases h
      · cases h
    · rename_i e hk
      have hu := td_slice hd hk
      split at h
      · rename_i d' hd'
        split at h
        · rename_i k xs hx
          split at h
          · rename_i hkk
            split at h
            · rename_i h' hh
              injection h with h
              subst h
              refine stepOK_pure fun hn w0 G p I a w hs => ?_
              have hc := hs.ev x
              rw [hx] at hc
              generalize hxv : a.eval x = xv at hc
              cases hc with
              | @lst _ _ _ A c m f hn' hc hm hkl hxx h1 hcc =>
                subst hn'
                have g1 : 0 ≤ l := hn.1
                have g2 : l ≤ h' := hn.2.1
                have g3 : h' ≤ (xs.length : Int) := hn.2.2
                have hb := run_bounds (P := P) hs true (len := xs.length) (cap := c) hl hh g1 g2 (by omega)
                refine ⟨.slice (if c = l.toNat then A else A.map (·.add (l.toNat * k))) (h'.toNat - l.toNat) (c - l.toNat), by simp [execOp, ho, hxv, Instr.sliceAt, Instr.slice, run_underlying hu, hb, run_sizeOf hd', hkk], ?_⟩
                refine .lst (f := fun i j => f (l.toNat + i) j) ?_ (by omega) (by omega) (fun y hy => hkl y (List.mem_of_mem_take (List.mem_of_mem_drop hy))) ?_ ?_ ?_
                · simp; omega
                · by_cases hz : h' = l
                  · left
                    subst hz
                    simp
                  · right
                    rcases hxx with hxx | ⟨b, off, hA, hIb, hxx⟩
                    · subst hxx
                      simp at g3
                      omega
                    · subst hA
                      rw [if_neg (by omega)]
                      refine ⟨b, off + l.toNat * k, by simp [Addr.add_lit], hIb, fun i j hi hj => ?_⟩
                      have := hxx (l.toNat + i) j (by simp at hi; omega) hj
                      rw [← this]
                      congr 2
                      rw [Nat.add_mul]
                      omega
                · intro i j hi hj
                  exact h1 _ _ (by simp at hi; omega) hj
                · intro i j y z e e'
                  rw [List.getElem?_drop, List.getElem?_take] at e
                  split at e
                  · exact hcc _ _ _ _ e e'
                  · cases e
            · cases h
          · cases h
        · rename_i id k o' m hx
          split at h
          · rename_i hkk
            split at h
            · rename_i h' hh
              split at h
              · rename_i k' xs hob
                split at h
                · rename_i hkk'
                  subst hkk'
                  injection h with h
                  subst h
                  refine stepOK_pure fun hn w0 G p I a w hs => ?_
                  have hc := hs.ev x
                  rw [hx] at hc
                  generalize hxv : a.eval x = xv at hc
                  have ho' := hs.obj id
                  rw [hob] at ho'
                  cases hc with
                  | @own _ _ _ _ _ A c r hn' hm hr hcc =>
                    have g1 : 0 ≤ l := hn.1
                    have g2 : l ≤ h' := hn.2.1
                    have g3 : o' + h'.toNat ≤ xs.length := hn.2.2
                    obtain ⟨r', hr', ho'⟩ := ho'
                    obtain rfl : r = r' := Option.some.inj (hr.symm.trans hr')
                    have g4 : h' ≤ (c : Int) ∧ (r.nul = false → o' + h'.toNat ≤ r.len) := by
                      rcases ho' with ⟨hnl, hx0⟩ | ⟨hnl, _, _, _, hl, _⟩
                      · subst hx0
                        simp at g3
                        refine ⟨by omega, fun h => by rw [hnl] at h; cases h⟩
                      · rcases hcc with ⟨hnl', _⟩ | ⟨_, _, hcap, _⟩
                        · rw [hnl] at hnl'; cases hnl'
                        · exact ⟨by omega, fun _ => by omega⟩
                    have hb := run_bounds (P := P) hs true (len := m) (cap := c) hl hh g1 g2 g4.1
                    refine ⟨.slice (if c = l.toNat then A else A.map (·.add (l.toNat * k'))) (h'.toNat - l.toNat) (c - l.toNat), by simp [execOp, ho, hxv, Instr.sliceAt, Instr.slice, run_underlying hu, hb, run_sizeOf hd', hkk], ?_⟩
                    refine .own (by omega) (by omega) hr ?_
                    rcases hcc with ⟨hnl, hcc⟩ | ⟨hnl, hA, hcap, hlen⟩
                    · exact .inl ⟨hnl, by omega⟩
                    · have g5 := g4.2 hnl
                      refine .inr ⟨hnl, ?_, by omega, by omega⟩
                      by_cases hz : c = l.toNat
                      · left; omega
                      · right
                        rw [if_neg hz]
                        obtain rfl := hA.resolve_left (by omega)
                        simp only [Option.map_some, Addr.add_lit, Nat.add_mul, Nat.add_assoc]
                · cases h
              · cases h
            · cases h
          · cases h
        · cases h
      · cases h
    · cases h
  · cases h

/-- A cut with three bounds: that it does not panic. -/
def evSlice3 (P : Program) (GT : Ctx) (s : St) (T : TypeId) (x : Operand) (lo : Option Operand) (hi mx : Operand) : Option Res :=
  match td P T, evBound GT s 0 lo, evBound GT s 0 (some hi), evBound GT s 0 (some mx) with
  | some d, some l, some h, some m => match d.kind with
    | .slice e => match td P e with
      | some _ => match ev GT s x with
        | .lst _ xs => some ⟨0 ≤ l ∧ l ≤ h ∧ h ≤ m ∧ m ≤ xs.length, .top, s⟩
        | .own _ _ _ n => some ⟨0 ≤ l ∧ l ≤ h ∧ h ≤ m ∧ m ≤ n, .top, s⟩
        | _ => none
      | none => none
    | _ => none
  | _, _, _, _ => none

theorem evSlice3_ok {T : TypeId} {x hi mx : Operand} {lo : Option Operand} {r : Res} (ho : o.op = .slice T x lo (some hi) (some mx)) (h : evSlice3 P GT s T x lo hi mx = some r) : StepPure P GT o s r := by
  unfold evSlice3 at h
  split at h
  · rename_i d l h' m hd hl hh hm
    split at h
    · rename_i e hk
      have hu := td_slice hd hk
      split at h
      · rename_i d' hd'
        have main : ∀ {w0 : World} {G : Nat → Prop} {p : Place} {I : Nat → Prop} {a : Act} {w : World} {A : Option Addr} {n c : Nat}, Sim GT w0 G p I s a w → a.eval x = .slice A n c → n ≤ c → 0 ≤ l → l ≤ h' → h' ≤ m → m ≤ (n : Int) →
            ∃ z, ∀ w', (execOp a.eval o).run P w' = .ok (.value z) w' := by
          intro w0 G p I a w A n c hs hxv hnc g1 g2 g3 g4
          obtain ⟨k2, e2⟩ : ∃ k, a.eval hi = .int k h' := by
            rcases bound_run hs hh with ⟨q, _⟩ | ⟨k, q⟩
            · cases q
            · exact ⟨k, by simpa using q⟩
          obtain ⟨k3, e3⟩ : ∃ k, a.eval mx = .int k m := by
            rcases bound_run hs hm with ⟨q, _⟩ | ⟨k, q⟩
            · cases q
            · exact ⟨k, by simpa using q⟩
          have b3 := fun w' => run_sliceBound (P := P) w' k3 (y := c) (show 0 ≤ m by omega) (by omega)
          have b2 := fun w' => run_sliceBound (P := P) w' k2 (y := m.toNat) (show 0 ≤ h' by omega) (by omega)
          rcases bound_run hs hl with ⟨e1, rfl⟩ | ⟨k1, e1⟩
          · exact ⟨_, fun w' => by simp [execOp, ho, hxv, e1, e2, e3, Instr.sliceAt, Instr.slice, run_underlying hu, Instr.sliceBounds, b2, b3, run_sizeOf hd']; rfl⟩
          · have b1 := fun w' => run_sliceBound (P := P) w' k1 (y := h'.toNat) g1 (by omega)
            exact ⟨_, fun w' => by simp [execOp, ho, hxv, e1, e2, e3, Instr.sliceAt, Instr.slice, run_underlying hu, Instr.sliceBounds, b1, b2, b3, run_sizeOf hd']; rfl⟩
        split at h
        · rename_i k xs hx
          injection h with h
          subst h
          refine stepOK_pure fun hn w0 G p I a w hs => ?_
          have hc := hs.ev x
          rw [hx] at hc
          generalize hxv : a.eval x = xv at hc
          cases hc with
          | @lst _ _ _ A c m' f hn' hcc =>
            obtain ⟨z, hz⟩ := main hs hxv (by omega) hn.1 hn.2.1 hn.2.2.1 (by have := hn.2.2.2; omega)
            exact ⟨z, fun w' _ => hz w', .top⟩
        · rename_i id k lo' n hx
          injection h with h
          subst h
          refine stepOK_pure fun hn w0 G p I a w hs => ?_
          have hc := hs.ev x
          rw [hx] at hc
          generalize hxv : a.eval x = xv at hc
          cases hc with
          | own hnc _ _ =>
            obtain ⟨z, hz⟩ := main hs hxv hnc hn.1 hn.2.1 hn.2.2.1 hn.2.2.2
            exact ⟨z, fun w' _ => hz w', .top⟩
        · cases h
      · cases h
    · cases h
  · cases h

end
end Go.Proofs.YtmfgaefefgnhbaaGreatDoor.Abs
namespace Go.Proofs.YtmfgaefefgnhbaaGreatDoor.Abs
set_option linter.unusedSimpArgs false
set_option linter.unusedVariables false
open Go Go.RowKit

def Obj.kill (id : Nat) (o : Obj) : Obj := o.leafs (AV.ren fun i => if i = id then none else some i)

section
variable {GT : Ctx} {w0 : World} {G : Nat → Prop} {p : Place} {I : Nat → Prop} {s : St} {a : Act} {w : World}

theorem ren_leaf {I I' : Nat → Prop} {w w' : World} {p p' : Place} {v : Value} {x : AV} (g : Nat → Option Nat) (hx : x.isLeaf = true) (h : Conc I w p v x)
    (hw : ∀ b, I b → w'.heap[b]? = w.heap[b]?) (hI : ∀ b, I b → I' b) (hg : ∀ i j r, g i = some j → p i = some r → p' j = some r) : Conc I' w' p' v (AV.ren g x) := by
  have := h.ren (I' := I') (w' := w') (p' := p') g hw hI hg
  cases x <;> first | cases hx; done | exact this

theorem ObjConc.ren {I' : Nat → Prop} {w' : World} {p' : Place} {id id' : Nat} {o : Obj} (g : Nat → Option Nat) (h : ObjConc I w p id o) (hw : ∀ b, I b → w'.heap[b]? = w.heap[b]?) (hI : ∀ b, I b → I' b)
    (hb : ∀ r, p id = some r → r.nul = false → w'.heap[r.blk]? = w.heap[r.blk]?) (hp : p' id' = p id) (hg : ∀ i j r, g i = some j → p i = some r → p' j = some r) : ObjConc I' w' p' id' (o.leafs (AV.ren g)) :=
  h.leafs hw hI hb hp fun _ _ hx hc => ren_leaf g hx hc hw hI hg

/-- An object is laid elsewhere (or lies where it lay, anew): all that named it is forgotten. -/
def St.relay (s : St) (id : Nat) (o : Obj) : St := { slots := AV.leafsL (AV.ren fun i => if i = id then none else some i) s.slots, objs := (s.objs.map (Obj.kill id)).set id o }

theorem Sim.relay (h : Sim GT w0 G p I s a w) {id : Nat} (hid : id < s.objs.length) (ro : Option Real) (o : Obj) {w' : World} (hsz : w.heap.size ≤ w'.heap.size)
    (hw : ∀ b, b < w.heap.size → (∀ r, p id = some r → r.nul = false → b ≠ r.blk) → w'.heap[b]? = w.heap[b]?) (hos : w'.os = w.os) (htape : w'.tape = w.tape) (hout : w'.output = w.output)
    (hro : ∀ r', ro = some r' → r'.nul = false → (w0.heap.size ≤ r'.blk ∨ G r'.blk) ∧ r'.blk < w'.heap.size ∧ ¬ I r'.blk ∧ ∀ j r, j ≠ id → p j = some r → r.nul = false → r.blk ≠ r'.blk)
    (ho : ObjConc I w' (p.with id ro) id o) : Sim GT w0 G (p.with id ro) I (s.relay id o) a w' := by
  have hp : ∀ i, i ≠ id → p.with id ro i = p i := fun i hi => Place.with_other _ _ hi
  have hI : ∀ b, I b → w'.heap[b]? = w.heap[b]? := fun b hb => hw b (h.imm b hb) fun r hr hl => by rintro rfl; exact (h.own id r hr hl).2.2 hb
  have hg : ∀ i j r, (if i = id then none else some i) = some j → p i = some r → p.with id ro j = some r := fun i j r hg hr => by
    split at hg
    · cases hg
    · injection hg with hg; subst hg; rw [hp _ (by assumption)]; exact hr
  refine ⟨by simp [St.relay, AV.leafsL_eq, h.size], fun i v x e e' => ?_, h.defers, fun j => ?_, fun i j r r' hi hj hl hl' hb => ?_, fun i r hi hl => ?_, fun b hb => ?_, ?_, fun g cs hg => (h.glob g cs hg).mono hI (fun _ h => h) fun _ _ h => h, by simpa [St.relay] using h.given⟩
  · simp only [St.relay, AV.leafsL_eq] at e'
    obtain ⟨y, hy, rfl⟩ := map_get e'
    exact (h.slot i v y e hy).ren _ hI (fun _ h => h) hg
  · by_cases hj : j = id
    · subst hj
      simpa [St.obj, St.relay, hid] using ho
    · have hob : (s.relay id o).obj j = (s.obj j).kill id := by
        simp only [St.obj, St.relay, List.getD_eq_getElem?_getD, List.getElem?_set]
        rw [if_neg (fun e => hj e.symm), List.getElem?_map]
        cases s.objs[j]? <;> rfl
      rw [hob]
      exact (h.obj j).ren _ hI (fun _ h => h) (fun r hr hl => hw _ (h.own j r hr hl).2.1 fun r' hr' hl' e => hj (h.inj _ _ _ _ hr hr' hl hl' e)) (hp j hj) hg
  · by_cases h1 : i = id <;> by_cases h2 : j = id
    · rw [h1, h2]
    · subst h1
      rw [Place.with_same] at hi
      rw [hp _ h2] at hj
      exact absurd hb.symm ((hro r hi hl).2.2.2 j r' h2 hj hl')
    · subst h2
      rw [Place.with_same] at hj
      rw [hp _ h1] at hi
      exact absurd hb ((hro r' hj hl').2.2.2 i r h1 hi hl)
    · rw [hp _ h1] at hi
      rw [hp _ h2] at hj
      exact h.inj i j r r' hi hj hl hl' hb
  · by_cases h1 : i = id
    · subst h1
      rw [Place.with_same] at hi
      obtain ⟨h1, h2, h3, _⟩ := hro r hi hl
      exact ⟨h1, h2, h3⟩
    · rw [hp _ h1] at hi
      obtain ⟨h1, h2, h3⟩ := h.own i r hi hl
      exact ⟨h1, by omega, h3⟩
  · have := h.imm b hb
    omega
  · refine ⟨hos.trans h.frame.os, htape.trans h.frame.tape, hout.trans h.frame.output, by have := h.frame.size; omega, fun k hk hg => ?_⟩
    rw [hw k (by have := h.frame.size; omega)]
    · exact h.frame.block k hk hg
    · rintro r hr hl rfl
      rcases (h.own id r hr hl).1 with h1 | h1
      · omega
      · exact hg h1

/-- An object gets a new name. -/
def St.move (s : St) (id : Nat) : St :=
  { slots := AV.leafsL (AV.ren fun i => some (if i = id then s.objs.length else i)) s.slots, objs := ((s.objs.map (Obj.leafs (AV.ren fun i => some (if i = id then s.objs.length else i)))).set id .dead) ++ [(s.obj id).leafs (AV.ren fun i => some (if i = id then s.objs.length else i))] }

theorem Sim.move (h : Sim GT w0 G p I s a w) {id : Nat} (hid : id < s.objs.length) : Sim GT w0 G ((p.with id none).with s.objs.length (p id)) I (s.move id) a w ∧
    ∀ (v : Value) (x : AV), Conc I w p v x → Conc I w ((p.with id none).with s.objs.length (p id)) v (x.leafs (AV.ren fun i => some (if i = id then s.objs.length else i))) := by
  have hne : id ≠ s.objs.length := by omega
  have hp1 : ((p.with id none).with s.objs.length (p id)) s.objs.length = p id := Place.with_same _ _ _
  have hp2 : ((p.with id none).with s.objs.length (p id)) id = none := by rw [Place.with_other _ _ hne, Place.with_same]
  have hp3 : ∀ i, i ≠ id → i ≠ s.objs.length → ((p.with id none).with s.objs.length (p id)) i = p i := fun i h1 h2 => by rw [Place.with_other _ _ h2, Place.with_other _ _ h1]
  have hg : ∀ i j r, (some (if i = id then s.objs.length else i)) = some j → p i = some r → ((p.with id none).with s.objs.length (p id)) j = some r := fun i j r hg hr => by
    injection hg with hg
    subst hg
    split
    · rename_i hi; subst hi; rw [hp1]; exact hr
    · rename_i hi; rw [hp3 i hi (by have := h.lt hr; omega)]; exact hr
  have hinv : ∀ i r, ((p.with id none).with s.objs.length (p id)) i = some r → ∃ i', p i' = some r ∧ ((i = s.objs.length ∧ i' = id) ∨ (i ≠ s.objs.length ∧ i ≠ id ∧ i' = i)) := fun i r hi => by
    by_cases h1 : i = s.objs.length
    · subst h1; rw [hp1] at hi; exact ⟨id, hi, .inl ⟨rfl, rfl⟩⟩
    · by_cases h2 : i = id
      · subst h2; rw [hp2] at hi; cases hi
      · rw [hp3 i h2 h1] at hi; exact ⟨i, hi, .inr ⟨h1, h2, rfl⟩⟩
  have hconc : ∀ (v : Value) (x : AV), Conc I w p v x → Conc I w ((p.with id none).with s.objs.length (p id)) v (x.leafs (AV.ren fun i => some (if i = id then s.objs.length else i))) :=
    fun v x hx => hx.ren _ (fun _ _ => rfl) (fun _ h => h) hg
  refine ⟨⟨by simp [St.move, AV.leafsL_eq, h.size], fun i v x e e' => ?_, h.defers, fun j => ?_, fun i j r r' hi hj hl hl' hb => ?_, fun i r hi hl => ?_, h.imm, h.frame, h.glob, by have := h.given; simp [St.move]; omega⟩, hconc⟩
  · simp only [St.move, AV.leafsL_eq] at e'
    obtain ⟨y, hy, rfl⟩ := map_get e'
    exact hconc v y (h.slot i v y e hy)
  · have hren := fun i k => (h.obj i).ren (id' := k) (p' := (p.with id none).with s.objs.length (p id)) (fun i => some (if i = id then s.objs.length else i)) (fun _ _ => rfl) (fun _ h => h) (fun _ _ _ => rfl)
    by_cases h1 : j = s.objs.length
    · subst h1
      have : (s.move id).obj s.objs.length = (s.obj id).leafs (AV.ren fun i => some (if i = id then s.objs.length else i)) := by
        simp only [St.obj, St.move, List.getD_eq_getElem?_getD]
        rw [List.getElem?_append_right (by simp)]
        simp
      rw [this]
      exact hren id _ hp1 hg
    · by_cases h2 : j = id
      · subst h2
        have : (s.move j).obj j = .dead := by
          simp only [St.obj, St.move, List.getD_eq_getElem?_getD]
          rw [List.getElem?_append_left (by simpa using hid)]
          simp [hid]
        rw [this]
        exact hp2
      · have : (s.move id).obj j = (s.obj j).leafs (AV.ren fun i => some (if i = id then s.objs.length else i)) := by
          simp only [St.obj, St.move, List.getD_eq_getElem?_getD]
          rcases Nat.lt_or_ge j s.objs.length with hlt | hge
          · rw [List.getElem?_append_left (by simpa using hlt), List.getElem?_set, if_neg (fun e => h2 e.symm), List.getElem?_map, List.getElem?_eq_getElem hlt]
            rfl
          · rw [List.getElem?_eq_none (by simp; omega), List.getElem?_eq_none hge]
            rfl
        rw [this]
        exact hren j _ (hp3 j h2 h1) hg
  · obtain ⟨i', hi', hii⟩ := hinv i r hi
    obtain ⟨j', hj', hjj⟩ := hinv j r' hj
    have := h.inj i' j' r r' hi' hj' hl hl' hb
    subst this
    rcases hii with ⟨rfl, rfl⟩ | ⟨_, h1, rfl⟩ <;> rcases hjj with ⟨rfl, h2⟩ | ⟨_, h3, h4⟩
    · rfl
    · exact absurd h4.symm h3
    · exact absurd h2 h1
    · exact h4
  · obtain ⟨i', hi', _⟩ := hinv i r hi
    exact h.own i' r hi' hl

/-- What is appended: the elements of a slice. -/
def srcOf (s : St) (k : Nat) : AV → Option (List (List AV))
  | .lst k' xs => if k' = k then some xs else none
  | .own id k' lo n => if k' = k then (match s.obj id with
    | .arr k'' xs => if k'' = k then some ((xs.drop lo).take n) else none
    | _ => none) else none
  | .raw (.slice none 0 0) => some []
  | _ => none

/-- The cells of a list of elements, one behind the other. -/
theorem flat_get (k : Nat) (f : Nat → Nat → Value) (n j : Nat) (hj : j < n * k) : ((List.range (n * k)).map fun j => f (j / k) (j % k))[j]? = some (f (j / k) (j % k)) := by
  rw [List.getElem?_map, List.getElem?_range hj]; rfl

theorem divmod (k i j : Nat) (hj : j < k) : (i * k + j) / k = i ∧ (i * k + j) % k = j := by
  have hk : 0 < k := by omega
  constructor
  · rw [Nat.mul_comm, Nat.mul_add_div hk, Nat.div_eq_of_lt hj]; rfl
  · rw [Nat.mul_comm, Nat.mul_add_mod, Nat.mod_eq_of_lt hj]

theorem div_lt {k n j : Nat} (h : j < n * k) : j / k < n ∧ j % k < k ∧ j = j / k * k + j % k := by
  have hk : 0 < k := by
    rcases Nat.eq_zero_or_pos k with h0 | h0
    · subst h0; simp at h
    · exact h0
  refine ⟨Nat.div_lt_of_lt_mul (by rw [Nat.mul_comm]; exact h), Nat.mod_lt _ hk, ?_⟩
  rw [Nat.mul_comm]; exact (Nat.div_add_mod j k).symm

theorem src_conc (hs : Sim GT w0 G p I s a w) {k : Nat} {v : Value} {x : AV} {ys : List (List AV)} (hc : Conc I w p v x) (he : srcOf s k x = some ys) :
    ∃ (A : Option Addr) (c : Nat) (f : Nat → Nat → Value), v = .slice A ys.length c ∧ (∀ y, y ∈ ys → y.length = k) ∧
      (ys = [] ∨ ∃ b off, A = some ⟨b, off, none⟩ ∧ b < w.heap.size ∧ ∀ i j, i < ys.length → j < k → w.cell? ⟨b, off + i * k + j, none⟩ = some (f i j)) ∧
      (∀ i j, i < ys.length → j < k → (f i j).oneCell' = true) ∧
      (∀ (i j : Nat) (y : List AV) (z : AV), ys[i]? = some y → y[j]? = some z → Conc I w noPlace (f i j) z) := by
  cases hc with
  | @lst _ k' xs A c n f hn hc hm hk hx h1 h =>
    simp only [srcOf] at he
    split at he
    · rename_i hkk
      subst hkk
      injection he with he
      subst he
      subst hn
      refine ⟨A, c, f, rfl, hk, ?_, h1, h⟩
      rcases hx with hx | ⟨b, off, hA, hb, hx⟩
      · exact .inl hx
      · exact .inr ⟨b, off, hA, hs.imm b hb, hx⟩
    · cases he
  | @own _ id k' lo n A c r hn hm hr h =>
    simp only [srcOf] at he
    split at he
    · rename_i hkk
      subst hkk
      have hob := hs.obj id
      split at he
      · rename_i k'' xs heq
        split at he
        · rename_i hkk
          subst hkk
          injection he with he
          rw [heq] at hob
          obtain ⟨r', hr', hob⟩ := hob
          obtain rfl : r = r' := Option.some.inj (hr.symm.trans hr')
          rcases hob with ⟨hnl, hx⟩ | ⟨hnl, cs, E, hh, hl, hm', hsz, hkx, hv⟩
          · subst hx
            simp at he
            subst he
            have hn0 : n = 0 := by
              rcases h with ⟨_, h⟩ | ⟨h, _⟩
              · omega
              · rw [hnl] at h; cases h
            subst hn0
            exact ⟨A, c, fun _ _ => undef, rfl, by simp, .inl rfl, by simp, by simp⟩
          · subst he
            by_cases hn0 : n = 0
            · subst hn0
              exact ⟨A, c, fun _ _ => undef, by simp, by simp, .inl (by simp), by simp, by simp⟩
            · have hc0 : c ≠ 0 := by omega
              obtain ⟨_, hA, hcap, hln⟩ := h.resolve_left (fun h => hc0 h.2)
              replace hA := hA.resolve_left hc0
              have hlen : lo + n ≤ xs.length := by omega
              -- the elements that are there
              have hget : ∀ (i j : Nat) (y : List AV) (z : AV), ((xs.drop lo).take n)[i]? = some y → y[j]? = some z → i < n ∧ xs[lo + i]? = some y := by
                intro i j y z e _
                rw [List.getElem?_take] at e
                split at e
                · rw [List.getElem?_drop] at e; exact ⟨by assumption, e⟩
                · cases e
              · have hyl : ((xs.drop lo).take n).length = n := by simp; omega
                have hcell : ∀ i j, i < n → j < k'' → ∃ u, cs[r.base + (lo + i) * k'' + j]? = some u ∧ u.oneCell' = true := by
                  intro i j hi hj
                  have hlt : lo + i < xs.length := by omega
                  have hkl := hkx _ (List.getElem_mem hlt)
                  obtain ⟨u, e1, e2, _⟩ := hv (lo + i) j _ _ (List.getElem?_eq_getElem hlt) (List.getElem?_eq_getElem (by omega))
                  exact ⟨u, e1, e2⟩
                refine ⟨A, c, fun i j => (cs[r.base + (lo + i) * k'' + j]?).getD undef, by rw [hyl], fun y hy => hkx y (List.mem_of_mem_drop (List.mem_of_mem_take hy)), .inr ⟨r.blk, r.base + lo * k'', hA, (hs.own id r hr hnl).2.1, fun i j hi hj => ?_⟩, fun i j hi hj => ?_, fun i j y z e e' => ?_⟩
                · rw [hyl] at hi
                  obtain ⟨u, e1, _⟩ := hcell i j hi hj
                  have : r.base + lo * k'' + i * k'' + j = r.base + (lo + i) * k'' + j := by rw [Nat.add_mul]; omega
                  simp [World.cell?, hh, this, e1]
                · rw [hyl] at hi
                  obtain ⟨u, e1, e2⟩ := hcell i j hi hj
                  simp [e1, e2]
                · obtain ⟨hi, e⟩ := hget i j y z e e'
                  obtain ⟨u, e1, _, e3⟩ := hv (lo + i) j y z e e'
                  simpa [e1] using e3
        · cases he
      · cases he
    · cases he
  | raw =>
    unfold srcOf at he
    split at he
    · rename_i heq; cases heq
    · rename_i heq; cases heq
    · rename_i heq
      injection heq with heq
      subst heq
      injection he with he
      subst he
      exact ⟨none, 0, fun _ _ => undef, rfl, by simp, .inl rfl, by simp, by simp⟩
    · cases he
  | _ => cases he
end

section
variable {P : Program}

/-- 'append' where there is room. -/
theorem run_append_at (w : World) (t ty e : TypeId) (i : TypeInfo) (ht : P.underlying t = some (.slice e)) (hi : P.info? e = some i)
    (g o sLen sCap : Nat) (cur : Array Value) (hg : w.heap[g]? = some (.cells cur e (0, 0)))
    (X : Option Addr) (m c : Nat) (news : List Value) (hnew : (Builtin.firstCells i.size m (.slice X m c)).run P w = .ok news.toArray w) (h1 : ∀ u ∈ news, u.oneCell' = true)
    (hroom : sLen + m ≤ sCap) (hfit : o + sLen * i.size + news.length ≤ cur.size) :
    (Builtin.append_ #[t, t] ty #[.slice (some ⟨g, o, none⟩) sLen sCap, .slice X m c]).run P w =
      .ok (.slice (some ⟨g, o, none⟩) (sLen + m) sCap) (w.setRow g (cur.toList.take (o + sLen * i.size) ++ news ++ cur.toList.drop (o + sLen * i.size + news.length)).toArray) := by
  have hst := run_storeCells_at P g (o + sLen * i.size) e news 0 cur w hg (by simpa using hfit) h1
  simp only [Nat.add_zero] at hst
  simp [Builtin.append_, run_underlying ht, sizeOf, typeInfo, hi, Builtin.lenOf, hroom, hnew, Addr.add_lit, hst]

/-- 'append' of nothing. -/
theorem run_append_none (w : World) (t ty e : TypeId) (i : TypeInfo) (ht : P.underlying t = some (.slice e)) (hi : P.info? e = some i)
    (S : Option Addr) (sLen sCap : Nat) (X : Option Addr) (c : Nat) (hroom : sLen ≤ sCap) :
    (Builtin.append_ #[t, t] ty #[.slice S sLen sCap, .slice X 0 c]).run P w = .ok (.slice S sLen sCap) w := by
  have hf : (Builtin.firstCells i.size 0 (.slice X 0 c)).run P w = .ok #[] w := by
    cases X <;> simp [Builtin.firstCells, loadCells, loadCellsFrom]
  cases S <;> simp [Builtin.append_, run_underlying ht, sizeOf, typeInfo, hi, Builtin.lenOf, hroom, hf, storeCells]

/-- 'append' where a new array is made. -/
theorem run_append_new (w : World) (t ty e : TypeId) (i : TypeInfo) (z : Value) (ht : P.underlying t = some (.slice e)) (hi : P.info? e = some i) (hz : i.zero = some z)
    (S : Option Addr) (sLen sCap : Nat) (olds : List Value) (hold : (Builtin.firstCells i.size sLen (.slice S sLen sCap)).run P w.drew = .ok olds.toArray w.drew)
    (X : Option Addr) (m c : Nat) (news : List Value) (hnew : (Builtin.firstCells i.size m (.slice X m c)).run P w.drew = .ok news.toArray w.drew)
    (hg : sCap < sLen + m) (h63 : ((sLen + m : Nat) : Int) ≤ 9223372036854775807) (hfit : Builtin.nextslicecap (sLen + m) sCap * i.bytes ≤ 281474976710656) :
    (Builtin.append_ #[t, t] ty #[.slice S sLen sCap, .slice X m c]).run P w =
      .ok (.slice (some ⟨w.heap.size, 0, none⟩) (sLen + m) (grownCap w (sLen + m) sCap e))
        (w.drew.alloc (.cells (olds.toArray ++ news.toArray ++ Builtin.zeroCells z.cells (grownCap w (sLen + m) sCap e - (sLen + m))) e)) := by
  have hn : ¬ (sLen + m ≤ sCap) := by omega
  have h63' : ¬ (9223372036854775807 < ((sLen : Int) + (m : Int))) := by omega
  have h48' : ¬ (281474976710656 < Builtin.nextslicecap (sLen + m) sCap * i.bytes) := by omega
  simp [Builtin.append_, run_underlying ht, sizeOf, typeInfo, zeroValue, hi, hz, Builtin.lenOf, hn, h63', h48', Question.forced, hold, hnew, newRow, grownCap]
  congr 2
  apply Array.ext'
  simp [List.append_assoc]
end

section
variable {P : Program} {GT : Ctx} {o : Oper} {s : St}

/-- Where a slice is appended to itself: in place. -/
def selfSrc : AV → AV → Bool
  | .own id _ _ _, .own id' _ _ _ => id == id'
  | _, _ => false

def evAppend (P : Program) (GT : Ctx) (s : St) (t : TypeId) (x y : Operand) : Option Res :=
  match td P t with
  | some d => match d.kind with
    | .slice e => match td P e with
      | some d' => match d'.zero, srcOf s d'.size (ev GT s y) with
        | some z, some ys =>
          if z.length = d'.size then
          match ev GT s x with
          | .raw (.slice none 0 0) => some ⟨ys.length * d'.bytes ≤ 140737488355328 ∧ ys.length ≤ 9223372036854775807, .own s.objs.length d'.size 0 ys.length, { s with objs := s.objs ++ [.arr d'.size ys] }⟩
          | .own id k lo n => match s.obj id with
            | .arr k' xs => if k = d'.size ∧ k' = k then
                (if selfSrc (.own id k lo n) (ev GT s y) then some ⟨lo + n + ys.length ≤ xs.length, .own id k lo (n + ys.length), { s with objs := s.objs.set id (.arr k (xs.take (lo + n) ++ ys ++ xs.drop (lo + n + ys.length))) }⟩
                else if id < GT.given then
                  some ⟨lo + n = xs.length ∧ (n + ys.length) * d'.bytes ≤ 140737488355328 ∧ n + ys.length ≤ 9223372036854775807, .own s.objs.length k 0 (n + ys.length), (s.relay id (.arr k (xs.drop lo ++ ys))).move id⟩
                else some ⟨lo + n = xs.length ∧ (n + ys.length) * d'.bytes ≤ 140737488355328 ∧ n + ys.length ≤ 9223372036854775807, .own id k 0 (n + ys.length), s.relay id (.arr k (xs.drop lo ++ ys))⟩)
              else none
            | _ => none
          | _ => none
          else none
        | _, _ => none
      | none => none
    | _ => none
  | none => none

/-- The cells of a list of elements. -/
def flatCells (k n : Nat) (f : Nat → Nat → Value) : List Value := (List.range (n * k)).map fun j => f (j / k) (j % k)
theorem flatCells_length (k n : Nat) (f : Nat → Nat → Value) : (flatCells k n f).length = n * k := by simp [flatCells]
theorem flatCells_get (k n : Nat) (f : Nat → Nat → Value) {i j : Nat} (hi : i < n) (hj : j < k) : (flatCells k n f)[i * k + j]? = some (f i j) := by
  have hlt : i * k + j < n * k := by
    have := Nat.mul_le_mul_right k (show i + 1 ≤ n by omega)
    rw [Nat.add_mul] at this
    omega
  have := flat_get k f n _ hlt
  obtain ⟨h1, h2⟩ := divmod k i j hj
  rw [h1, h2] at this
  exact this
theorem flatCells_one {k n : Nat} {f : Nat → Nat → Value} (h : ∀ i j, i < n → j < k → (f i j).oneCell' = true) : ∀ u ∈ flatCells k n f, u.oneCell' = true := by
  intro u hu
  simp only [flatCells, List.mem_map, List.mem_range] at hu
  obtain ⟨j, hj, rfl⟩ := hu
  obtain ⟨h1, h2, _⟩ := div_lt hj
  exact h _ _ h1 h2
theorem run_flat (w : World) (k n : Nat) (f : Nat → Nat → Value) (b off c : Nat) (h : ∀ i j, i < n → j < k → w.cell? ⟨b, off + i * k + j, none⟩ = some (f i j)) :
    (Builtin.firstCells k n (.slice (some ⟨b, off, none⟩) n c)).run P w = .ok (flatCells k n f).toArray w := by
  refine run_firstCells_some w k n ⟨b, off, none⟩ n c _ (flatCells_length _ _ _) fun j v hv => ?_
  have hj : j < n * k := by
    have := (List.getElem?_eq_some_iff.1 hv).1
    rwa [flatCells_length] at this
  obtain ⟨h1, h2, h3⟩ := div_lt hj
  have := flat_get k f n j hj
  rw [show (flatCells k n f)[j]? = some (f (j / k) (j % k)) from this] at hv
  injection hv with hv
  subst hv
  rw [Addr.add_lit]
  have := h _ _ h1 h2
  rw [← this]
  congr 2
  omega

theorem zeroCells_size (z : Array Value) (n : Nat) : (Builtin.zeroCells z n).size = n * z.size := by simp [Builtin.zeroCells]

/-- A new array that holds these elements, and room behind them. -/
theorem arr_new {I : Nat → Prop} {w' : World} {p : Place} {id k cap : Nat} {xs : List (List AV)} {b : Nat} {E : TypeId} {rest : Array Value} {F : Nat → Nat → Value} (hp : p id = some ⟨b, 0, cap, xs.length, false⟩)
    (hh : w'.heap[b]? = some (.cells ((flatCells k xs.length F).toArray ++ rest) E (0, 0))) (hl : xs.length ≤ cap) (hm : cap ≤ maxLen) (hr : rest.size = (cap - xs.length) * k) (hk : ∀ x, x ∈ xs → x.length = k)
    (h1 : ∀ i j, i < xs.length → j < k → (F i j).oneCell' = true) (h : ∀ (i j : Nat) (x : List AV) (a : AV), xs[i]? = some x → x[j]? = some a → Conc I w' noPlace (F i j) a) : ObjConc I w' p id (.arr k xs) := by
  refine ⟨⟨b, 0, cap, xs.length, false⟩, hp, .inr ⟨rfl, _, E, hh, ⟨hl, rfl⟩, hm, ?_, hk, fun i j x a e e' => ?_⟩⟩
  · simp [flatCells_length, hr, ← Nat.add_mul]
    rw [Nat.add_sub_cancel' hl]
    exact Nat.le_refl _
  · have hi : i < xs.length := (List.getElem?_eq_some_iff.1 e).1
    have hj : j < k := by rw [← hk x (List.mem_of_getElem? e)]; exact (List.getElem?_eq_some_iff.1 e').1
    refine ⟨F i j, ?_, h1 i j hi hj, h i j x a e e'⟩
    have := flatCells_get k xs.length F hi hj
    simp only [Nat.zero_add]
    rw [Array.getElem?_append_left, List.getElem?_toArray, this]
    have := (List.getElem?_eq_some_iff.1 this).1
    simpa using this

theorem yields_append {t : TypeId} {x y : Operand} (ho : o.op = .call { callee := .builtin .append, args := #[x, y], argTypes := #[t, t] }) {a : Act} {w w' : World} {vx vy v : Value} (e1 : a.eval x = vx) (e2 : a.eval y = vy)
    (hr : (Builtin.append_ #[t, t] o.type #[vx, vy]).run P w = .ok v w') : Yields P o a w v w' := by
  left
  simp [execOp, ho, resolve, invoke, builtin, e1, e2, hr]

/-- Behind the tip of an array. -/
theorem append_tip {t e : TypeId} {i : TypeInfo} {z : Value} {sz : Nat} {x y : Operand} (ho : o.op = .call { callee := .builtin .append, args := #[x, y], argTypes := #[t, t] })
    (hu : P.underlying t = some (.slice e)) (hi : P.info? e = some i) (hzi : i.zero = some z) (hsize : i.size = sz) (hzs : z.cells.size = sz) {id lo n : Nat} {xs ys : List (List AV)}
    (hx : ev GT s x = .own id sz lo n) (hob : s.obj id = .arr sz xs) (hys : srcOf s sz (ev GT s y) = some ys) (hn1 : lo + n = xs.length) (hn2 : (n + ys.length) * i.bytes ≤ 140737488355328) (hn3 : n + ys.length ≤ 9223372036854775807)
    {w0 : World} {G : Nat → Prop} {p : Place} {I : Nat → Prop} {a : Act} {w : World} (hs : Sim GT w0 G p I s a w) :
    ∃ ro v w', Yields P o a w v w' ∧ Sim GT w0 G (p.with id ro) I (s.relay id (.arr sz (xs.drop lo ++ ys))) a w' ∧ Conc I w' (p.with id ro) v (.own id sz 0 (n + ys.length)) := by
  have hcx := hs.ev x
  rw [hx] at hcx
  generalize hvx : a.eval x = vx at hcx
  obtain ⟨A, c, f, hvy, hyk, hyc, hy1, hyv⟩ := src_conc hs (hs.ev y) hys
  have hid : id < s.objs.length := obj_lt (by rw [hob]; simp)
  have ho' := hs.obj id
  rw [hob] at ho'
  cases hcx with
  | @own _ _ _ _ _ S sc r hsn hsm hr hsc =>
    obtain ⟨r', hr', ho'⟩ := ho'
    obtain rfl : r = r' := Option.some.inj (hr.symm.trans hr')
    -- the elements that are kept
    have hkept : (∀ z, z ∈ xs.drop lo ++ ys → z.length = sz) := by
      intro z hz
      rcases List.mem_append.1 hz with hz | hz
      · rcases ho' with ⟨_, hx0⟩ | ⟨_, _, _, _, _, _, _, hkx, _⟩
        · subst hx0; simp at hz
        · exact hkx z (List.mem_of_mem_drop hz)
      · exact hyk z hz
    have hlen : (xs.drop lo ++ ys).length = n + ys.length := by simp; omega
    by_cases hroom : n + ys.length ≤ sc
    · by_cases hy0 : ys = []
      · -- nothing is appended
        subst hy0
        have hrun := run_append_none w t o.type e i hu hi S n sc A c hsn
        rcases hsc with ⟨hnl, hsc⟩ | ⟨hnl, hS, hcap, hcl⟩
        · have hn0 : n = 0 := by omega
          subst hn0
          rcases ho' with ⟨_, hx0⟩ | ⟨hnl', _⟩
          · subst hx0
            refine ⟨some r, _, w, yields_append ho hvx hvy hrun, hs.relay hid (some r) _ (Nat.le_refl _) (fun _ _ _ => rfl) rfl rfl rfl (fun r' h hl => ?_) ⟨r, Place.with_same _ _ _, .inl ⟨hnl, by simp⟩⟩, .own (by simp) hsm (Place.with_same _ _ _) (.inl ⟨hnl, hsc⟩)⟩
            injection h with h
            rw [← h, hnl] at hl; cases hl
          · rw [hnl] at hnl'; cases hnl'
        · rcases ho' with ⟨hnl', _⟩ | ⟨_, cs, E, hh, hl, hm, hcs, hkx, hv⟩
          · rw [hnl] at hnl'; cases hnl'
          have hown := hs.own id r hr hnl
          refine ⟨some ⟨r.blk, r.base + lo * sz, r.cap - lo, (xs.drop lo ++ []).length, false⟩, _, w, yields_append ho hvx hvy hrun, hs.relay hid _ _ (Nat.le_refl _) (fun _ _ _ => rfl) rfl rfl rfl ?_ ?_, ?_⟩
          · intro r' h _
            injection h with h
            subst h
            exact ⟨hown.1, hown.2.1, hown.2.2, fun j r2 hj hr2 hl2 e => hj (hs.inj _ _ _ _ hr2 hr hl2 hnl e)⟩
          · refine ⟨_, Place.with_same _ _ _, .inr ⟨rfl, cs, E, hh, ?_, ?_, ?_, hkept, ?_⟩⟩
            · rw [hlen]; simp; omega
            · simp; omega
            · simp only
              have : lo * sz + (r.cap - lo) * sz = r.cap * sz := by rw [← Nat.add_mul]; congr 1; omega
              omega
            · intro i j z z' e e'
              rw [List.append_nil, List.getElem?_drop] at e
              obtain ⟨u, e1, e2, e3⟩ := hv _ _ _ _ e e'
              refine ⟨u, ?_, e2, e3⟩
              rw [← e1]; congr 1; simp only; rw [Nat.add_mul]; omega
          · exact .own (by simpa using hsn) hsm (Place.with_same _ _ _) (.inr ⟨rfl, by rcases hS with hS | hS; exact .inl hS; exact .inr (by rw [hS]; simp), by simp; omega, by simp; omega⟩)
      · -- there is room
        have hpos : 0 < ys.length := by cases ys with | nil => exact absurd rfl hy0 | cons => simp
        have hc0 : sc ≠ 0 := by omega
        obtain ⟨hnl, hS, hcap, hcl⟩ := hsc.resolve_left fun h => hc0 h.2
        obtain rfl := hS.resolve_left hc0
        obtain ⟨b, off, hA, hb, hyc'⟩ := hyc.resolve_left hy0
        subst hA
        rcases ho' with ⟨hnl', _⟩ | ⟨_, cs, E, hh, hl, hm, hcs, hkx, hv⟩
        · rw [hnl] at hnl'; cases hnl'
        have hown := hs.own id r hr hnl
        have hnew : (Builtin.firstCells i.size ys.length (.slice (some ⟨b, off, none⟩) ys.length c)).run P w = .ok (flatCells i.size ys.length f).toArray w :=
          run_flat w i.size ys.length f b off c (by rw [hsize]; exact hyc')
        have hfl : (flatCells i.size ys.length f).length = ys.length * sz := by rw [flatCells_length, hsize]
        have hmul : r.base + lo * sz + n * sz + ys.length * sz ≤ r.base + r.cap * sz := by
          have : (lo + n + ys.length) * sz ≤ r.cap * sz := Nat.mul_le_mul_right _ (by omega)
          rw [Nat.add_mul, Nat.add_mul] at this
          omega
        have hrun : (Builtin.append_ #[t, t] o.type #[.slice (some ⟨r.blk, r.base + lo * sz, none⟩) n sc, .slice (some ⟨b, off, none⟩) ys.length c]).run P w =
            .ok (.slice (some ⟨r.blk, r.base + lo * sz, none⟩) (n + ys.length) sc) (w.setRow r.blk (cs.toList.take (r.base + lo * sz + n * sz) ++ flatCells i.size ys.length f ++ cs.toList.drop (r.base + lo * sz + n * sz + (flatCells i.size ys.length f).length)).toArray) := by
          have hst := run_storeCells_at P r.blk (r.base + lo * sz + n * sz) E (flatCells i.size ys.length f) 0 cs w hh (by rw [hfl]; omega) (flatCells_one (by rw [hsize]; exact hy1))
          simp only [Nat.add_zero] at hst
          rw [← hsize] at hst ⊢
          simp [Builtin.append_, run_underlying hu, sizeOf, typeInfo, hi, Builtin.lenOf, hroom, hnew, Addr.add_lit, hst]
        obtain ⟨q1, q2, q3, q4, q5⟩ := setRow_eq w r.blk (cs.toList.take (r.base + lo * sz + n * sz) ++ flatCells i.size ys.length f ++ cs.toList.drop (r.base + lo * sz + n * sz + (flatCells i.size ys.length f).length)).toArray
        refine ⟨some ⟨r.blk, r.base + lo * sz, r.cap - lo, (xs.drop lo ++ ys).length, false⟩, _, _, yields_append ho hvx hvy hrun, hs.relay hid _ _ (by omega) (fun b hb hne => q2 b (hne r hr hnl)) q3 q4 q5 ?_ ?_, ?_⟩
        · intro r' h _
          injection h with h
          subst h
          exact ⟨hown.1, by simp only; omega, hown.2.2, fun j r2 hj hr2 hl2 e => hj (hs.inj _ _ _ _ hr2 hr hl2 hnl e)⟩
        · refine ⟨_, Place.with_same _ _ _, .inr ⟨rfl, _, E, setRow_heap w r.blk cs _ E _ hh, ?_, ?_, ?_, hkept, ?_⟩⟩
          · rw [hlen]; simp; omega
          · simp; omega
          · simp only
            have : lo * sz + (r.cap - lo) * sz = r.cap * sz := by rw [← Nat.add_mul]; congr 1; omega
            simp [hfl]; omega
          · intro i' j z z' e e'
            have hzk : z.length = sz := hkept z (List.mem_of_getElem? e)
            have hj : j < sz := by rw [← hzk]; exact (List.getElem?_eq_some_iff.1 e').1
            rw [splice_get_val _ _ _ _ (by rw [hfl]; omega), hfl]
            simp only
            have hIw : ∀ b, I b → (w.setRow r.blk (cs.toList.take (r.base + lo * sz + n * sz) ++ flatCells i.size ys.length f ++ cs.toList.drop (r.base + lo * sz + n * sz + ys.length * sz)).toArray).heap[b]? = w.heap[b]? :=
              fun b hb => (setRow_eq w r.blk _).2.1 b (by rintro rfl; exact hown.2.2 hb)
            by_cases hi' : i' < n
            · rw [List.getElem?_append_left (by simp; omega), List.getElem?_drop] at e
              have : i' * sz + sz ≤ n * sz := by
                have := Nat.mul_le_mul_right sz (show i' + 1 ≤ n by omega)
                rw [Nat.add_mul] at this; omega
              rw [if_neg (by omega)]
              obtain ⟨u, e1, e2, e3⟩ := hv _ _ _ _ e e'
              refine ⟨u, ?_, e2, e3.mono hIw (fun _ h => h) fun _ _ h => h⟩
              rw [← e1]; congr 1; rw [Nat.add_mul]; omega
            · rw [List.getElem?_append_right (by simp; omega)] at e
              simp only [List.length_drop] at e
              have hy' : i' - (xs.length - lo) = i' - n := by omega
              rw [hy'] at e
              have hlt : i' - n < ys.length := (List.getElem?_eq_some_iff.1 e).1
              have hge : n * sz ≤ i' * sz := Nat.mul_le_mul_right _ (by omega)
              have hup : (i' - n) * sz + sz ≤ ys.length * sz := by
                have := Nat.mul_le_mul_right sz (show i' - n + 1 ≤ ys.length by omega)
                rw [Nat.add_mul] at this; omega
              have hsub : (i' - n) * sz = i' * sz - n * sz := Nat.sub_mul _ _ _
              rw [if_pos ⟨by omega, by omega⟩]
              have := flatCells_get sz ys.length f hlt hj
              refine ⟨f (i' - n) j, ?_, hy1 _ _ hlt hj, (hyv _ _ _ _ e e').mono hIw (fun _ h => h) fun _ _ h => h⟩
              rw [hsize, ← this]; congr 1; omega
        · exact .own hroom hsm (Place.with_same _ _ _) (.inr ⟨rfl, .inr (by simp), by simp; omega, by simp; omega⟩)
    · -- a new array
      have hS : ∃ F : Nat → Nat → Value, (Builtin.firstCells i.size n (.slice S n sc)).run P w.drew = .ok (flatCells sz n F).toArray w.drew ∧ (∀ i j, i < n → j < sz → (F i j).oneCell' = true) ∧
          ∀ (i j : Nat) (z : List AV) (z' : AV), (xs.drop lo)[i]? = some z → z[j]? = some z' → Conc I w noPlace (F i j) z' := by
        by_cases hn0 : n = 0
        · subst hn0
          refine ⟨fun _ _ => undef, ?_, by omega, ?_⟩
          · have : (flatCells sz 0 fun _ _ => undef) = [] := by simp [flatCells]
            rw [this]
            cases S <;> simp [Builtin.firstCells, loadCells, loadCellsFrom]
          · intro i j z z' e _
            rw [List.getElem?_drop, List.getElem?_eq_none (by omega)] at e
            cases e
        · have hc0 : sc ≠ 0 := by omega
          obtain ⟨hnl, hS, hcap, hcl⟩ := hsc.resolve_left fun h => hc0 h.2
          obtain rfl := hS.resolve_left hc0
          rcases ho' with ⟨hnl', _⟩ | ⟨_, cs, E, hh, hl, hm, hcs, hkx, hv⟩
          · rw [hnl] at hnl'; cases hnl'
          have hcell : ∀ i j, i < n → j < sz → ∃ u, cs[r.base + (lo + i) * sz + j]? = some u ∧ u.oneCell' = true := by
            intro i j hi hj
            have hlt : lo + i < xs.length := by omega
            have hkl := hkx _ (List.getElem_mem hlt)
            obtain ⟨u, e1, e2, _⟩ := hv (lo + i) j _ _ (List.getElem?_eq_getElem hlt) (List.getElem?_eq_getElem (by omega))
            exact ⟨u, e1, e2⟩
          refine ⟨fun i j => (cs[r.base + (lo + i) * sz + j]?).getD undef, ?_, fun i j hi hj => ?_, fun i j z z' e e' => ?_⟩
          · rw [hsize]
            refine run_flat w.drew sz n _ r.blk (r.base + lo * sz) sc fun i j hi hj => ?_
            obtain ⟨u, e1, _⟩ := hcell i j hi hj
            have : r.base + lo * sz + i * sz + j = r.base + (lo + i) * sz + j := by rw [Nat.add_mul]; omega
            have hh' : w.drew.heap[r.blk]? = some (.cells cs E (0, 0)) := hh
            simp [World.cell?, hh', this, e1]
          · obtain ⟨u, e1, e2⟩ := hcell i j hi hj
            simp [e1, e2]
          · rw [List.getElem?_drop] at e
            obtain ⟨u, e1, _, e3⟩ := hv _ _ _ _ e e'
            simpa [e1] using e3
      obtain ⟨F, hold, hF1, hFv⟩ := hS
      have hnew : (Builtin.firstCells i.size ys.length (.slice A ys.length c)).run P w.drew = .ok (flatCells sz ys.length f).toArray w.drew := by
        rcases hyc with hy0 | ⟨b, off, hA, _, hyc⟩
        · subst hy0
          have : (flatCells sz ([] : List (List AV)).length f) = [] := by simp [flatCells]
          rw [this]
          cases A <;> simp [Builtin.firstCells, loadCells, loadCellsFrom]
        · subst hA
          rw [hsize]
          exact run_flat w.drew sz ys.length f b off c hyc
      have hge := grownCap_ge w (n + ys.length) sc e
      have hle := grownCap_le_maxLen w (n + ys.length) sc e (by simp [maxLen]; omega)
      have hrun := run_append_new w t o.type e i z hu hi hzi S n sc _ hold A ys.length c _ hnew (by omega) (by omega) (growslice_fits (by omega) hn2)
      -- one row of both
      have hrow : flatCells sz n F ++ flatCells sz ys.length f = flatCells sz (xs.drop lo ++ ys).length (fun i j => if i < n then F i j else f (i - n) j) := by
        rw [hlen]
        apply List.ext_getElem?
        intro j
        by_cases hj : j < n * sz
        · rw [List.getElem?_append_left (by rw [flatCells_length]; exact hj)]
          obtain ⟨g1, g2, g3⟩ := div_lt hj
          conv => lhs; rw [g3]
          conv => rhs; rw [g3]
          rw [flatCells_get _ _ _ g1 g2, flatCells_get _ _ _ (by omega) g2, if_pos g1]
        · rw [List.getElem?_append_right (by rw [flatCells_length]; omega), flatCells_length]
          by_cases hj2 : j < (n + ys.length) * sz
          · have hj3 : j - n * sz < ys.length * sz := by rw [Nat.add_mul] at hj2; omega
            obtain ⟨g1, g2, g3⟩ := div_lt hj3
            have g4 : j = (n + (j - n * sz) / sz) * sz + (j - n * sz) % sz := by rw [Nat.add_mul]; omega
            conv => lhs; rw [g3]
            conv => rhs; rw [g4]
            rw [flatCells_get _ _ _ g1 g2, flatCells_get _ _ _ (Nat.add_lt_add_left g1 n) g2, if_neg (Nat.not_lt.2 (Nat.le_add_right _ _)), Nat.add_sub_cancel_left]
          · rw [List.getElem?_eq_none (by rw [flatCells_length]; rw [Nat.add_mul] at hj2; omega), List.getElem?_eq_none (by rw [flatCells_length]; omega)]
      have hbig : (w.drew.alloc (.cells ((flatCells sz n F).toArray ++ (flatCells sz ys.length f).toArray ++ Builtin.zeroCells z.cells (grownCap w (n + ys.length) sc e - (n + ys.length))) e)).heap.size = w.heap.size + 1 := by simp
      refine ⟨some ⟨w.heap.size, 0, grownCap w (n + ys.length) sc e, (xs.drop lo ++ ys).length, false⟩, _, _, yields_append ho hvx hvy hrun, hs.relay hid _ _ (by omega) (fun b hb _ => Below.heap_alloc w.drew _ b hb) rfl rfl rfl ?_ ?_, ?_⟩
      · intro r' h _
        injection h with h
        subst h
        refine ⟨.inl hs.frame.size, by simp only; omega, fun hb => by have := hs.imm _ hb; simp at this, fun j r2 hj hr2 hl2 e => ?_⟩
        have := (hs.own j r2 hr2 hl2).2.1
        simp at e
        omega
      · refine arr_new (E := e) (rest := Builtin.zeroCells z.cells (grownCap w (n + ys.length) sc e - (n + ys.length))) (F := fun i j => if i < n then F i j else f (i - n) j) (Place.with_same _ _ _) ?_ (by rw [hlen]; exact hge) hle ?_ hkept ?_ ?_
        · rw [← hrow]
          have := heap_alloc_new w.drew (.cells ((flatCells sz n F).toArray ++ (flatCells sz ys.length f).toArray ++ Builtin.zeroCells z.cells (grownCap w (n + ys.length) sc e - (n + ys.length))) e)
          simpa using this
        · rw [zeroCells_size, hzs, hlen]
        · intro i' j hi' hj
          rw [hlen] at hi'
          show (if i' < n then F i' j else f (i' - n) j).oneCell' = true
          split
          · exact hF1 _ _ (by assumption) hj
          · exact hy1 _ _ (by omega) hj
        · intro i' j z1 z2 ee e'
          have hmono : ∀ {v : Value} {q : AV}, Conc I w noPlace v q → Conc I (w.drew.alloc (.cells ((flatCells sz n F).toArray ++ (flatCells sz ys.length f).toArray ++ Builtin.zeroCells z.cells (grownCap w (n + ys.length) sc e - (n + ys.length))) e)) noPlace v q :=
            fun hq => hq.mono (fun b hb => Below.heap_alloc w.drew _ b (hs.imm b hb)) (fun _ h => h) fun _ _ h => h
          by_cases hi' : i' < n
          · rw [List.getElem?_append_left (by simp; omega)] at ee
            simp only [if_pos hi']
            exact hmono (hFv _ _ _ _ ee e')
          · rw [List.getElem?_append_right (by simp; omega)] at ee
            simp only [List.length_drop] at ee
            have hy' : i' - (xs.length - lo) = i' - n := by omega
            rw [hy'] at ee
            simp only [if_neg hi']
            exact hmono (hyv _ _ _ _ ee e')
      · exact .own hge hle (Place.with_same _ _ _) (.inr ⟨rfl, .inr (by simp), by simp, by simp only [hlen]; omega⟩)

/-- Over elements that are there already. -/
theorem append_over {t e : TypeId} {i : TypeInfo} {sz : Nat} {x y : Operand} (ho : o.op = .call { callee := .builtin .append, args := #[x, y], argTypes := #[t, t] })
    (hu : P.underlying t = some (.slice e)) (hi : P.info? e = some i) (hsize : i.size = sz) {id lo n : Nat} {xs ys : List (List AV)}
    (hx : ev GT s x = .own id sz lo n) (hob : s.obj id = .arr sz xs) (hys : srcOf s sz (ev GT s y) = some ys) (hn1 : lo + n + ys.length ≤ xs.length)
    {w0 : World} {G : Nat → Prop} {p : Place} {I : Nat → Prop} {a : Act} {w : World} (hs : Sim GT w0 G p I s a w) :
    ∃ v w', Yields P o a w v w' ∧ Sim GT w0 G p I { s with objs := s.objs.set id (.arr sz (xs.take (lo + n) ++ ys ++ xs.drop (lo + n + ys.length))) } a w' ∧ Conc I w' p v (.own id sz lo (n + ys.length)) := by
  have hcx := hs.ev x
  rw [hx] at hcx
  generalize hvx : a.eval x = vx at hcx
  obtain ⟨A, c, f, hvy, hyk, hyc, hy1, hyv⟩ := src_conc hs (hs.ev y) hys
  have hid : id < s.objs.length := obj_lt (by rw [hob]; simp)
  have ho' := hs.obj id
  rw [hob] at ho'
  cases hcx with
  | @own _ _ _ _ _ S sc r hsn hsm hr hsc =>
    by_cases hy0 : ys = []
    · subst hy0
      have hrun := run_append_none w t o.type e i hu hi S n sc A c hsn
      have hsame : xs.take (lo + n) ++ [] ++ xs.drop (lo + n + ([] : List (List AV)).length) = xs := by simp
      rw [hsame]
      have hst : ({ s with objs := s.objs.set id (.arr sz xs) } : St) = s := by
        have : s.objs.set id (.arr sz xs) = s.objs := by
          apply List.ext_getElem?
          intro j
          rw [List.getElem?_set]
          split
          · rename_i hj
            subst hj
            rw [← hob, St.obj, List.getD_eq_getElem?_getD, List.getElem?_eq_getElem hid]
            rfl
          · rfl
        rw [this]
      exact ⟨_, w, yields_append ho hvx hvy hrun, by rw [hst]; exact hs, .own hsn hsm hr hsc⟩
    · have hlen : 0 < ys.length := by cases ys with
        | nil => exact absurd rfl hy0
        | cons _ _ => simp
      obtain ⟨r', hr', ho'⟩ := ho'
      obtain rfl : r = r' := Option.some.inj (hr.symm.trans hr')
      rcases ho' with ⟨_, hx0⟩ | ⟨hnl, cs, E, hh, hl, hm, hcs, hkx, hv⟩
      · subst hx0; exact absurd (List.eq_nil_of_length_eq_zero (by simp at hn1; simp [hn1])) hy0
      obtain ⟨_, hS, hcap, hcl⟩ := hsc.resolve_left fun h => by rw [hnl] at h; cases h.1
      have hroom : n + ys.length ≤ sc := by omega
      obtain rfl := hS.resolve_left (by omega)
      obtain ⟨b, off, hA, hb, hyc'⟩ := hyc.resolve_left hy0
      subst hA
      have hown := hs.own id r hr hnl
      have hnew : (Builtin.firstCells i.size ys.length (.slice (some ⟨b, off, none⟩) ys.length c)).run P w = .ok (flatCells i.size ys.length f).toArray w :=
        run_flat w i.size ys.length f b off c (by rw [hsize]; exact hyc')
      have hfl : (flatCells i.size ys.length f).length = ys.length * sz := by rw [flatCells_length, hsize]
      have hmul : r.base + lo * sz + n * sz + ys.length * sz ≤ r.base + r.cap * sz := by
        have : (lo + n + ys.length) * sz ≤ r.cap * sz := Nat.mul_le_mul_right _ (by omega)
        rw [Nat.add_mul, Nat.add_mul] at this
        omega
      have hrun : (Builtin.append_ #[t, t] o.type #[.slice (some ⟨r.blk, r.base + lo * sz, none⟩) n sc, .slice (some ⟨b, off, none⟩) ys.length c]).run P w =
          .ok (.slice (some ⟨r.blk, r.base + lo * sz, none⟩) (n + ys.length) sc) (w.setRow r.blk (cs.toList.take (r.base + lo * sz + n * sz) ++ flatCells i.size ys.length f ++ cs.toList.drop (r.base + lo * sz + n * sz + (flatCells i.size ys.length f).length)).toArray) := by
        have hst := run_storeCells_at P r.blk (r.base + lo * sz + n * sz) E (flatCells i.size ys.length f) 0 cs w hh (by rw [hfl]; omega) (flatCells_one (by rw [hsize]; exact hy1))
        simp only [Nat.add_zero] at hst
        rw [← hsize] at hst ⊢
        simp [Builtin.append_, run_underlying hu, sizeOf, typeInfo, hi, Builtin.lenOf, hroom, hnew, Addr.add_lit, hst]
      obtain ⟨q1, q2, q3, q4, q5⟩ := setRow_eq w r.blk (cs.toList.take (r.base + lo * sz + n * sz) ++ flatCells i.size ys.length f ++ cs.toList.drop (r.base + lo * sz + n * sz + (flatCells i.size ys.length f).length)).toArray
      refine ⟨_, _, yields_append ho hvx hvy hrun, hs.write hr hnl _ q1 q2 q3 q4 q5 ?_, .own hroom hsm hr (.inr ⟨hnl, .inr rfl, hcap, by omega⟩)⟩
      have hlen' : (xs.take (lo + n) ++ ys ++ xs.drop (lo + n + ys.length)).length = xs.length := by simp; omega
      have hkept : ∀ z, z ∈ xs.take (lo + n) ++ ys ++ xs.drop (lo + n + ys.length) → z.length = sz := by
        intro z hz
        rcases List.mem_append.1 hz with hz | hz
        · rcases List.mem_append.1 hz with hz | hz
          · exact hkx z (List.mem_of_mem_take hz)
          · exact hyk z hz
        · exact hkx z (List.mem_of_mem_drop hz)
      refine ⟨r, hr, .inr ⟨hnl, _, E, setRow_heap w r.blk cs _ E _ hh, by rw [hlen']; exact hl, hm, ?_, hkept, ?_⟩⟩
      · simp [hfl]; omega
      · intro i' j z z' ee e'
        have hzk : z.length = sz := hkept z (List.mem_of_getElem? ee)
        have hj : j < sz := by rw [← hzk]; exact (List.getElem?_eq_some_iff.1 e').1
        have hi' : i' < xs.length := by rw [← hlen']; exact (List.getElem?_eq_some_iff.1 ee).1
        rw [splice_get_val _ _ _ _ (by rw [hfl]; omega), hfl]
        have hIw : ∀ b, I b → (w.setRow r.blk (cs.toList.take (r.base + lo * sz + n * sz) ++ flatCells i.size ys.length f ++ cs.toList.drop (r.base + lo * sz + n * sz + ys.length * sz)).toArray).heap[b]? = w.heap[b]? :=
          fun b hb => (setRow_eq w r.blk _).2.1 b (by rintro rfl; exact hown.2.2 hb)
        have hm1 : (lo + n) * sz = lo * sz + n * sz := Nat.add_mul _ _ _
        have hm2 : (lo + n + ys.length) * sz = lo * sz + n * sz + ys.length * sz := by rw [Nat.add_mul, Nat.add_mul]
        by_cases h1 : i' < lo + n
        · have : i' * sz + sz ≤ (lo + n) * sz := by
            have := Nat.mul_le_mul_right sz (show i' + 1 ≤ lo + n by omega)
            rw [Nat.add_mul] at this; omega
          rw [if_neg (by omega)]
          rw [List.append_assoc, List.getElem?_append_left (by simp; omega), List.getElem?_take, if_pos h1] at ee
          obtain ⟨u, e1, e2, e3⟩ := hv _ _ _ _ ee e'
          exact ⟨u, e1, e2, e3.mono hIw (fun _ h => h) fun _ _ h => h⟩
        · by_cases h2 : i' < lo + n + ys.length
          · have g1 : (lo + n) * sz ≤ i' * sz := Nat.mul_le_mul_right _ (by omega)
            have g2 : i' * sz + sz ≤ (lo + n + ys.length) * sz := by
              have := Nat.mul_le_mul_right sz (show i' + 1 ≤ lo + n + ys.length by omega)
              rw [Nat.add_mul] at this; omega
            rw [if_pos (by omega)]
            rw [List.append_assoc, List.getElem?_append_right (by simp; omega), List.getElem?_append_left (by simp; omega)] at ee
            have hidx : i' - (xs.take (lo + n)).length = i' - (lo + n) := by simp; omega
            rw [hidx] at ee
            have hlt : i' - (lo + n) < ys.length := by omega
            have := flatCells_get sz ys.length f hlt hj
            refine ⟨f (i' - (lo + n)) j, ?_, hy1 _ _ hlt hj, (hyv _ _ _ _ ee e').mono hIw (fun _ h => h) fun _ _ h => h⟩
            have hsub : (i' - (lo + n)) * sz = i' * sz - (lo + n) * sz := Nat.sub_mul _ _ _
            rw [hsize, ← this]; congr 1; omega
          · have g1 : (lo + n + ys.length) * sz ≤ i' * sz := Nat.mul_le_mul_right _ (by omega)
            rw [if_neg (by omega)]
            rw [List.getElem?_append_right (by simp; omega), List.getElem?_drop] at ee
            have hidx : lo + n + ys.length + (i' - (xs.take (lo + n) ++ ys).length) = i' := by simp; omega
            rw [hidx] at ee
            obtain ⟨u, e1, e2, e3⟩ := hv _ _ _ _ ee e'
            exact ⟨u, e1, e2, e3.mono hIw (fun _ h => h) fun _ _ h => h⟩

theorem evAppend_ok {t : TypeId} {x y : Operand} {r : Res} (ho : o.op = .call { callee := .builtin .append, args := #[x, y], argTypes := #[t, t] }) (h : evAppend P GT s t x y = some r) : StepOK P GT o s r := by
  unfold evAppend at h
  split at h
  · rename_i d hd
    split at h
    · rename_i e hk
      have hu := td_slice hd hk
      split at h
      · rename_i d' hd'
        obtain ⟨i, desc, hi, _, hsize, hbytes, _, hzero, _⟩ := td_info hd'
        split at h
        · rename_i zl ys hz hys
          split at h
          · rename_i hzl
            rw [hz] at hzero
            obtain ⟨z, hzi, hzc⟩ : ∃ z, i.zero = some z ∧ z.cells.toList = zl := by
              cases hzz : i.zero with
              | none => rw [hzz] at hzero; cases hzero
              | some z => rw [hzz] at hzero; injection hzero with hzero; exact ⟨z, rfl, hzero⟩
            have hzs : z.cells.size = d'.size := by rw [← Array.length_toList, hzc, hzl]
            split at h
            · -- a nil slice
              rename_i hx
              injection h with h
              subst h
              intro hn w0 G p I a w hs
              have hvx : a.eval x = .slice none 0 0 := by
                have := hs.ev x
                rw [hx] at this
                exact this.raw_eq
              obtain ⟨A, c, f, hvy, hyk, hyc, hy1, hyv⟩ := src_conc hs (hs.ev y) hys
              by_cases hy0 : ys = []
              · subst hy0
                exact ⟨p.with s.objs.length (some ⟨0, 0, 0, 0, true⟩), .slice none 0 0, w, yields_append ho hvx hvy (run_append_none w t o.type e i hu hi none 0 0 A c (Nat.le_refl _)), hs.newNil _ _ rfl,
                  .own (Nat.le_refl _) (by simp [maxLen]) (Place.with_same _ _ _) (.inl ⟨rfl, rfl⟩), fun h => by simp [ho, Op.quiet] at h, hs.fresh_given _⟩
              · obtain ⟨b, off, hA, hb, hyc'⟩ := hyc.resolve_left hy0
                subst hA
                have hpos : 0 < ys.length := by cases ys with | nil => exact absurd rfl hy0 | cons => simp
                have hold : (Builtin.firstCells i.size 0 (.slice none 0 0)).run P w.drew = .ok (([] : List Value).toArray) w.drew := run_firstCells_none (P := P) w.drew i.size 0 0 0
                have hnew : (Builtin.firstCells i.size ys.length (.slice (some ⟨b, off, none⟩) ys.length c)).run P w.drew = .ok (flatCells i.size ys.length f).toArray w.drew :=
                  run_flat w.drew i.size ys.length f b off c (by rw [hsize]; exact hyc')
                have hge := grownCap_ge w (0 + ys.length) 0 e
                have hle := grownCap_le_maxLen w (0 + ys.length) 0 e (by have := hn.2; simp [maxLen]; omega)
                have hrun := run_append_new w t o.type e i z hu hi hzi none 0 0 [] hold (some ⟨b, off, none⟩) ys.length c _ hnew (by omega) (by have := hn.2; omega) (growslice_fits (by omega) (by have := hn.1; simp only [Nat.zero_add]; rw [hbytes]; exact this))
                refine ⟨p.with s.objs.length (some ⟨w.heap.size, 0, grownCap w (0 + ys.length) 0 e, ys.length, false⟩), _, _, yields_append ho hvx hvy hrun, hs.new _ rfl rfl _ _ rfl rfl rfl rfl ?_, ?_, fun h => by simp [ho, Op.quiet] at h, hs.fresh_given _⟩
                · refine arr_new (E := e) (rest := Builtin.zeroCells z.cells (grownCap w (0 + ys.length) 0 e - (0 + ys.length))) (F := f) (Place.with_same _ _ _) ?_ (by omega) hle ?_ hyk hy1 fun i j y z e e' => ?_
                  · rw [← hsize]
                    have := heap_alloc_new w.drew (.cells ((([] : List Value).toArray ++ (flatCells i.size ys.length f).toArray) ++ Builtin.zeroCells z.cells (grownCap w (0 + ys.length) 0 e - (0 + ys.length))) e)
                    simpa using this
                  · rw [zeroCells_size, hzs, Nat.zero_add]
                  · exact (hyv i j y z e e').mono (fun b hb => Below.heap_alloc w.drew _ b (hs.imm b hb)) (fun _ h => h) fun _ _ h => h
                · simp only [Nat.zero_add] at hge hle ⊢
                  exact .own hge hle (Place.with_same _ _ _) (.inr ⟨rfl, .inr (by simp), by simp, by simp⟩)
            · -- a slice of the call's own
              rename_i id k lo n hx
              split at h
              · rename_i k' xs hob
                split at h
                · rename_i hkk
                  obtain ⟨hk1, hk2⟩ := hkk
                  subst hk2
                  subst hk1
                  split at h
                  · injection h with h
                    subst h
                    intro hn w0 G p I a w hs
                    obtain ⟨v, w', h1, h2, h3⟩ := append_over ho hu hi hsize hx hob hys hn hs
                    exact ⟨p, v, w', h1, h2, h3, fun h => by simp [ho, Op.quiet] at h, fun _ _ => .inl rfl⟩
                  · split at h
                    · rename_i hgv
                      injection h with h
                      subst h
                      intro hn w0 G p I a w hs
                      have hid : id < s.objs.length := obj_lt (by rw [hob]; simp)
                      obtain ⟨ro, v, w', h1, h2, h3⟩ := append_tip ho hu hi hzi hsize hzs hx hob hys hn.1 (by rw [hbytes]; exact hn.2.1) hn.2.2 hs
                      obtain ⟨g1, g2⟩ := h2.move (id := id) (by simpa [St.relay] using hid)
                      have hlen : (s.relay id (.arr d'.size (xs.drop lo ++ ys))).objs.length = s.objs.length := by simp [St.relay]
                      rw [hlen] at g1 g2
                      refine ⟨_, v, w', h1, g1, ?_, fun h => by simp [ho, Op.quiet] at h, fun j hj => ?_⟩
                      · have := g2 _ _ h3
                        simpa [AV.leafs, AV.ren, AV.nameOf, AV.withName] using this
                      · have := hs.given
                        rw [Place.with_other _ _ (by omega)]
                        by_cases hji : j = id
                        · subst hji; right; exact Place.with_same _ _ _
                        · left; rw [Place.with_other _ _ hji, Place.with_other _ _ hji]
                    · rename_i hgv
                      injection h with h
                      subst h
                      intro hn w0 G p I a w hs
                      obtain ⟨ro, v, w', h1, h2, h3⟩ := append_tip ho hu hi hzi hsize hzs hx hob hys hn.1 (by rw [hbytes]; exact hn.2.1) hn.2.2 hs
                      exact ⟨_, v, w', h1, h2, h3, fun h => by simp [ho, Op.quiet] at h, fun j hj => .inl (Place.with_other _ _ (by omega))⟩
                · cases h
              · cases h
            · cases h
          · cases h
        · cases h
      · cases h
    · cases h
  · cases h

end
end Go.Proofs.YtmfgaefefgnhbaaGreatDoor.Abs
namespace Go.Proofs.YtmfgaefefgnhbaaGreatDoor.Abs
set_option linter.unusedSimpArgs false
set_option linter.unusedVariables false
open Go Go.RowKit

/-- The parts laid into the cells. -/
def fillA (place : Nat → Option (Nat × Nat)) : List AV → List (Nat × AV) → Option (List AV)
  | cells, [] => some cells
  | cells, (i, v) :: rest =>
    match place i, cellsOf v with
    | some (off, size), some cs => if cs.length = size ∧ off + size ≤ cells.length then fillA place (splice cells off cs) rest else none
    | _, _ => none

theorem foldl_set (off : Nat) : ∀ (l : List Value) (k : Nat) (cs : Array Value),
    ((l.zipIdx k).foldl (fun cs (x : Value × Nat) => cs.setIfInBounds (off + x.2) x.1) cs).size = cs.size ∧
    ∀ j, ((l.zipIdx k).foldl (fun cs (x : Value × Nat) => cs.setIfInBounds (off + x.2) x.1) cs)[j]? = if off + k ≤ j ∧ j < off + k + l.length ∧ j < cs.size then l[j - off - k]? else cs[j]?
  | [], k, cs => ⟨rfl, fun j => by rw [if_neg (by simp; omega)]; rfl⟩
  | v :: l, k, cs => by
    obtain ⟨h1, h2⟩ := foldl_set off l (k + 1) (cs.setIfInBounds (off + k) v)
    simp only [List.zipIdx_cons, List.foldl_cons]
    refine ⟨by rw [h1]; simp, fun j => ?_⟩
    rw [h2]
    simp only [Array.getElem?_setIfInBounds, Array.size_setIfInBounds, List.length_cons]
    by_cases hj : j = off + k
    · subst hj
      rw [if_neg (by omega), if_pos rfl]
      by_cases hs : off + k < cs.size
      · rw [if_pos hs, if_pos ⟨by omega, by omega, hs⟩]
        simp
      · rw [if_neg hs, if_neg (by omega)]
        rw [Array.getElem?_eq_none (by omega)]
    · rw [if_neg (show ¬ off + k = j by omega)]
      by_cases hin : off + (k + 1) ≤ j ∧ j < off + (k + 1) + l.length ∧ j < cs.size
      · rw [if_pos hin, if_pos (by omega)]
        have : j - off - k = (j - off - (k + 1)) + 1 := by omega
        rw [this, List.getElem?_cons_succ]
      · rw [if_neg hin, if_neg (by omega)]

theorem foldl_cells (off : Nat) (v cs : Array Value) (h : off + v.size ≤ cs.size) :
    (v.zipIdx.foldl (fun cs (x : Value × Nat) => cs.setIfInBounds (off + x.2) x.1) cs).size = cs.size ∧
    ∀ j, (v.zipIdx.foldl (fun cs (x : Value × Nat) => cs.setIfInBounds (off + x.2) x.1) cs)[j]? = if off ≤ j ∧ j < off + v.size then v[j - off]? else cs[j]? := by
  rw [← Array.foldl_toList, Array.toList_zipIdx]
  obtain ⟨h1, h2⟩ := foldl_set off v.toList 0 cs
  refine ⟨h1, fun j => ?_⟩
  rw [h2]
  simp only [Nat.add_zero, Array.length_toList, Nat.sub_zero, Array.getElem?_toList]
  by_cases hin : off ≤ j ∧ j < off + v.size
  · rw [if_pos ⟨hin.1, hin.2, by omega⟩, if_pos hin]
  · rw [if_neg (by omega), if_neg hin]

/-- A row of cells and what is said of it. -/
def CellsConc (I : Nat → Prop) (w : World) (p : Place) (cs : Array Value) (as : List AV) : Prop :=
  cs.size = as.length ∧ ∀ (j : Nat) (c : AV), as[j]? = some c → ∃ u, cs[j]? = some u ∧ u.oneCell' = true ∧ Conc I w p u c

theorem fill_conc {I : Nat → Prop} {w : World} {p : Place} {place : Nat → Option (Nat × Nat)} : ∀ (parts : List (Nat × Value)) (partsA : List (Nat × AV)) (cs : Array Value) (as bs : List AV),
    parts.length = partsA.length → (∀ (j i i' : Nat) (v : Value) (x : AV), parts[j]? = some (i, v) → partsA[j]? = some (i', x) → i = i' ∧ Conc I w p v x) → CellsConc I w p cs as → fillA place as partsA = some bs →
    ∃ cs', Instr.fill place cs parts = some cs' ∧ CellsConc I w p cs' bs
  | [], [], cs, as, bs, _, _, hc, h => by
    injection h with h
    subst h
    exact ⟨cs, rfl, hc⟩
  | (i, v) :: parts, (i', x) :: partsA, cs, as, bs, hl, hp, hc, h => by
    obtain ⟨rfl, hv⟩ := hp 0 i i' v x rfl rfl
    simp only [fillA] at h
    split at h
    · rename_i off size xs hpl hcx
      split at h
      · rename_i hcond
        obtain ⟨hsz, hle⟩ := hcond
        obtain ⟨g1, g2⟩ := cellsOf_conc hv hcx
        have hfit : off + v.cells.size ≤ cs.size := by rw [hc.1]; omega
        obtain ⟨f1, f2⟩ := foldl_cells off v.cells cs hfit
        have hrec := fill_conc parts partsA (v.cells.zipIdx.foldl (fun cs (x : Value × Nat) => cs.setIfInBounds (off + x.2) x.1) cs) (splice as off xs) bs (by simpa using hl)
          (fun j i i' v x e e' => hp (j + 1) i i' v x (by simpa using e) (by simpa using e')) ⟨?_, ?_⟩ h
        · obtain ⟨cs', h1, h2⟩ := hrec
          refine ⟨cs', ?_, h2⟩
          rw [← h1]
          have hc1 : (v.cells.size != size) = false := by simp; omega
          have hc2 : decide (off + v.cells.size > cs.size) = false := by simp; omega
          simp only [Instr.fill, hpl]
          rw [if_neg (by simp; omega)]
        · rw [f1, splice_length _ _ _ (by omega)]
          exact hc.1
        · intro j c e
          rw [splice_get _ _ _ _ (by omega)] at e
          rw [f2]
          split at e
          · rename_i hin
            rw [if_pos (by omega)]
            exact g2 _ _ e
          · rename_i hout
            rw [if_neg (by omega)]
            exact hc.2 _ _ e
      · cases h
    · cases h
  | [], _ :: _, _, _, _, hl, _, _, _ => by simp at hl
  | _ :: _, [], _, _, _, hl, _, _, _ => by simp at hl

section
variable {P : Program} {GT : Ctx} {o : Oper} {s : St}

/-- Where the fields of a struct lie. -/
def placesOf (P : Program) : List (Nat × Nat) → Option (List (Nat × Nat))
  | [] => some []
  | (off, ty) :: rest => match td P ty, placesOf P rest with
    | some d, some r => some ((off, d.size) :: r)
    | _, _ => none

theorem placesOf_run : ∀ (fields : List Field) (ps : List (Nat × Nat)), placesOf P (fields.map fun f => (f.offset, f.type)) = some ps → fields.mapM (fun f => (P.info? f.type).map fun i => (f.offset, i.size)) = some ps
  | [], ps, h => by injection h with h; subst h; rfl
  | f :: fields, ps, h => by
    simp only [List.map_cons, placesOf] at h
    split at h
    · rename_i d r hd hr
      injection h with h
      subst h
      obtain ⟨i, desc, h1, _, h2, _⟩ := td_info hd
      simp [List.mapM_cons, h1, h2, placesOf_run fields r hr]
    · cases h

def zeroAV (d : TD) : Option (List AV) :=
  match d.zero with
  | some z => if z.all Value.oneCell' then some (z.map .raw) else none
  | none => none

theorem zeroAV_conc {t : TypeId} {d : TD} (hd : td P t = some d) {zs : List AV} (h : zeroAV d = some zs) (I : Nat → Prop) (w : World) (p : Place) : ∃ i z, P.info? t = some i ∧ i.zero = some z ∧ z.cells.size = zs.length ∧ CellsConc I w p z.cells zs ∧ AV.immL zs = true := by
  unfold zeroAV at h
  split at h
  · rename_i zl hz
    split at h
    · rename_i hall
      injection h with h
      subst h
      obtain ⟨i, desc, h1, h2, _, _, _, h3, _⟩ := td_info hd
      rw [hz] at h3
      cases hv : i.zero with
      | none => rw [hv] at h3; cases h3
      | some v =>
        rw [hv] at h3
        injection h3 with h3
        replace h3 : v.cells.toList = zl := h3
        refine ⟨i, v, h1, hv, by rw [← Array.length_toList, h3]; simp, ⟨by rw [← Array.length_toList, h3]; simp, fun j c e => ?_⟩, ?_⟩
        · rw [List.getElem?_map] at e
          cases hj : zl[j]? with
          | none => rw [hj] at e; cases e
          | some u =>
            rw [hj] at e
            simp at e
            subst e
            exact ⟨u, by rw [← Array.getElem?_toList, h3]; exact hj, List.all_eq_true.1 hall u (List.mem_of_getElem? hj), .raw⟩
        · clear h3 hz hall
          induction zl with
          | nil => rfl
          | cons a l ih => simp [AV.immL, AV.imm, ih]
    · cases h
  · cases h

def evBuild (P : Program) (GT : Ctx) (s : St) (T : TypeId) (parts : Array (Nat × Operand)) : Option Res :=
  match td P T with
  | some d => match zeroAV d with
    | some zs => match d.kind with
      | .struct fs => match placesOf P fs with
        | some ps => match fillA (fun i => ps[i]?) zs (parts.toList.map fun x => (x.1, ev GT s x.2)) with
          | some cs => some ⟨True, .agg cs, s⟩
          | none => none
        | none => none
      | .array _ e => match td P e with
        | some d' => match fillA (fun i => some (i * d'.size, d'.size)) zs (parts.toList.map fun x => (x.1, ev GT s x.2)) with
          | some cs => some ⟨True, .agg cs, s⟩
          | none => none
        | none => none
      | _ => none
    | none => none
  | none => none

theorem agg_of {I : Nat → Prop} {w : World} {p : Place} {cs : Array Value} {as : List AV} (h : CellsConc I w p cs as) : Conc I w p (.agg cs) (.agg as) := by
  refine .agg h.1.symm (fun i v e => ?_) fun i v a e e' => ?_
  · have hi : i < as.length := by rw [← h.1]; exact (Array.getElem?_eq_some_iff.1 e).1
    obtain ⟨u, e1, e2, _⟩ := h.2 i _ (List.getElem?_eq_getElem hi)
    rw [e] at e1
    injection e1 with e1
    rw [e1]; exact e2
  · obtain ⟨u, e1, _, e3⟩ := h.2 i a e'
    rw [e] at e1
    injection e1 with e1
    rw [e1]; exact e3

theorem parts_conc {w0 : World} {G : Nat → Prop} {p : Place} {I : Nat → Prop} {a : Act} {w : World} (hs : Sim GT w0 G p I s a w) (parts : Array (Nat × Operand)) :
    ∀ (j i i' : Nat) (v : Value) (x : AV), (parts.toList.map fun x => (x.1, a.eval x.2))[j]? = some (i, v) → (parts.toList.map fun x => (x.1, ev GT s x.2))[j]? = some (i', x) → i = i' ∧ Conc I w p v x := by
  intro j i i' v x e e'
  rw [List.getElem?_map] at e e'
  cases hj : parts.toList[j]? with
  | none => rw [hj] at e; cases e
  | some y =>
    rw [hj] at e e'
    simp only [Option.map_some, Option.some.injEq, Prod.mk.injEq] at e e'
    obtain ⟨rfl, rfl⟩ := e
    obtain ⟨rfl, rfl⟩ := e'
    exact ⟨rfl, hs.ev _⟩

theorem evBuild_ok {T : TypeId} {parts : Array (Nat × Operand)} {r : Res} (ho : o.op = .build T parts) (h : evBuild P GT s T parts = some r) : StepPure P GT o s r := by
  have hexec : ∀ {a : Act} {w : World} {v : Value}, (Instr.build T (parts.map fun x => (x.1, a.eval x.2))).run P w = .ok v w → (execOp a.eval o).run P w = .ok (.value v) w := by
    intro a w v hr
    have : (execOp a.eval o) = (do pure (.value (← Instr.build T (parts.map fun (i, x) => (i, a.eval x))))) := by simp [execOp, ho]
    rw [this, Sem.run_bind, hr]
    rfl
  unfold evBuild at h
  split at h
  · rename_i d hd
    split at h
    · rename_i zs hzs
      split at h
      · rename_i fs hk
        split at h
        · rename_i ps hps
          split at h
          · rename_i cs hcs
            injection h with h
            subst h
            refine stepOK_pure fun _ w0 G p I a w hs => ?_
            obtain ⟨i, z, hi, hz, hzsz, hzc, _⟩ := zeroAV_conc hd hzs I w p
            obtain ⟨fields, hu, hfs⟩ := td_struct hd hk
            rw [← hfs] at hps
            have hpl := placesOf_run _ _ hps
            obtain ⟨cs', h1, h2⟩ := fill_conc (parts.toList.map fun x => (x.1, a.eval x.2)) _ z.cells zs cs (by simp) (parts_conc hs parts) hzc hcs
            refine ⟨.agg cs', fun w' _ => hexec (run_build w' T _ cs' ?_), agg_of h2⟩
            have hf : (fun (i : Nat) => ps[i]?) = (fun (i : Nat) => ps.toArray[i]?) := by funext i; simp
            rw [hf] at h1
            simp only [Program.built, hi, hu, hz, hpl]
            simpa using h1
          · cases h
        · cases h
      · rename_i n e hk
        split at h
        · rename_i d' hd'
          split at h
          · rename_i cs hcs
            injection h with h
            subst h
            refine stepOK_pure fun _ w0 G p I a w hs => ?_
            obtain ⟨i, z, hi, hz, hzsz, hzc, _⟩ := zeroAV_conc hd hzs I w p
            have hu := td_array hd hk
            obtain ⟨i', desc', hi', _, hsz', _⟩ := td_info hd'
            obtain ⟨cs', h1, h2⟩ := fill_conc (parts.toList.map fun x => (x.1, a.eval x.2)) _ z.cells zs cs (by simp) (parts_conc hs parts) hzc hcs
            refine ⟨.agg cs', fun w' _ => hexec (run_build w' T _ cs' ?_), agg_of h2⟩
            simp only [Program.built, hi, hu, hz, hi', hsz']
            simpa using h1
          · cases h
        · cases h
      · cases h
    · cases h
  · cases h

/-- A row of cells, cut into elements. -/
def chunks (k : Nat) : Nat → List AV → List (List AV)
  | 0, _ => []
  | n + 1, l => l.take k :: chunks k n (l.drop k)

theorem chunks_length (k : Nat) : ∀ (n : Nat) (l : List AV), (chunks k n l).length = n
  | 0, _ => rfl
  | n + 1, l => by simp [chunks, chunks_length k n]
theorem chunks_get (k : Nat) : ∀ (n : Nat) (l : List AV) (i : Nat) (x : List AV), (chunks k n l)[i]? = some x → x = (l.drop (i * k)).take k
  | 0, _, i, x, h => by simp [chunks] at h
  | n + 1, l, 0, x, h => by simp [chunks] at h; simp [h]
  | n + 1, l, i + 1, x, h => by
    simp only [chunks, List.getElem?_cons_succ] at h
    have := chunks_get k n _ i x h
    rw [this, List.drop_drop, Nat.add_mul]
    congr 2
    omega

/-- A new array out of a row of cells. -/
theorem arr_of_cells {I : Nat → Prop} {w' : World} {p : Place} {id k n : Nat} {b : Nat} {E : TypeId} {cs : Array Value} {as : List AV} (hp : p id = some ⟨b, 0, n, n, false⟩) (hh : w'.heap[b]? = some (.cells cs E (0, 0)))
    (hm : n ≤ maxLen) (hl : as.length = n * k) (h : CellsConc I w' noPlace cs as) : ObjConc I w' p id (.arr k (chunks k n as)) := by
  have hk : ∀ i x, (chunks k n as)[i]? = some x → x = (as.drop (i * k)).take k ∧ i < n ∧ x.length = k := by
    intro i x e
    have h1 := chunks_get k n as i x e
    have h2 : i < n := by have := (List.getElem?_eq_some_iff.1 e).1; rwa [chunks_length] at this
    refine ⟨h1, h2, ?_⟩
    rw [h1]
    have := Nat.mul_le_mul_right k (show i + 1 ≤ n by omega)
    rw [Nat.add_mul] at this
    simp [hl]
    omega
  refine ⟨⟨b, 0, n, n, false⟩, hp, .inr ⟨rfl, cs, E, hh, by rw [chunks_length]; exact ⟨Nat.le_refl _, rfl⟩, hm, by simp [h.1, hl], fun x hx => ?_, fun i j x a e e' => ?_⟩⟩
  · obtain ⟨i, hi⟩ := List.getElem?_of_mem hx
    exact (hk i x hi).2.2
  · obtain ⟨h1, h2, h3⟩ := hk i x e
    subst h1
    rw [List.getElem?_take] at e'
    split at e'
    · rw [List.getElem?_drop] at e'
      obtain ⟨u, q1, q2, q3⟩ := h.2 _ _ e'
      exact ⟨u, by simpa using q1, q2, q3⟩
    · cases e'

def evBuildSlice (P : Program) (GT : Ctx) (s : St) (T : TypeId) (n : Nat) (parts : Array (Nat × Operand)) : Option Res :=
  match td P T with
  | some d => match d.kind with
    | .slice e => match td P e with
      | some d' => match zeroAV d' with
        | some zs => if zs.length = d'.size ∧ n * d'.size ≤ 16777216 ∧ n ≤ 16777216 then
            match fillA (fun i => some (i * d'.size, d'.size)) (List.replicate n zs).flatten (parts.toList.map fun x => (x.1, ev GT s x.2)) with
            | some cs => if AV.immL cs then some ⟨True, .own s.objs.length d'.size 0 n, { s with objs := s.objs ++ [.arr d'.size (chunks d'.size n cs)] }⟩ else none
            | none => none
          else none
        | none => none
      | none => none
    | _ => none
  | none => none

theorem flatten_replicate_get (zs : List AV) (k : Nat) (hk : zs.length = k) : ∀ (n j : Nat), j < n * k → (List.replicate n zs).flatten[j]? = zs[j % k]?
  | 0, j, h => by simp at h
  | n + 1, j, h => by
    rw [List.replicate_succ, List.flatten_cons]
    by_cases hj : j < k
    · rw [List.getElem?_append_left (by omega), Nat.mod_eq_of_lt hj]
    · rw [List.getElem?_append_right (by omega), hk, flatten_replicate_get zs k hk n (j - k) (by rw [Nat.add_mul] at h; omega)]
      congr 1
      have : j = j - k + k := by omega
      conv => rhs; rw [this, Nat.add_mod_right]

theorem flatten_replicate_length (zs : List AV) (n : Nat) : (List.replicate n zs).flatten.length = n * zs.length := by simp

theorem fillA_length {place : Nat → Option (Nat × Nat)} : ∀ (parts : List (Nat × AV)) (as bs : List AV), fillA place as parts = some bs → bs.length = as.length
  | [], as, bs, h => by injection h with h; rw [h]
  | (i, v) :: parts, as, bs, h => by
    simp only [fillA] at h
    split at h
    · split at h
      · rename_i hc
        rw [fillA_length parts _ _ h, splice_length _ _ _ (by omega)]
      · cases h
    · cases h

theorem Conc.ofImmL {I : Nat → Prop} {w : World} {p p' : Place} {cs : Array Value} {as : List AV} (h : CellsConc I w p cs as) (hi : AV.immL as = true) : CellsConc I w p' cs as :=
  ⟨h.1, fun j c e => by
    obtain ⟨u, h1, h2, h3⟩ := h.2 j c e
    exact ⟨u, h1, h2, h3.ofImm (AV.immL_mem hi c (List.mem_of_getElem? e))⟩⟩

theorem evBuildSlice_ok {T : TypeId} {n : Nat} {parts : Array (Nat × Operand)} {r : Res} (ho : o.op = .buildSlice T n parts) (h : evBuildSlice P GT s T n parts = some r) : StepOK P GT o s r := by
  unfold evBuildSlice at h
  split at h
  · rename_i d hd
    split at h
    · rename_i e hk
      have hu := td_slice hd hk
      split at h
      · rename_i d' hd'
        split at h
        · rename_i zs hzs
          split at h
          · rename_i hcond
            obtain ⟨hzl, hn, hn'⟩ := hcond
            split at h
            · rename_i cs hcs
              split at h
              · rename_i himm
                injection h with h
                subst h
                intro _ w0 G p I a w hs
                obtain ⟨i, z, hi, hz, hzsz, hzc, _⟩ := zeroAV_conc hd' hzs I w p
                have hrz : (zeroValue e).run P w = .ok z w := by simp [zeroValue, typeInfo, hi, hz]
                -- the zero cells
                have hbase : CellsConc I w p ((Array.range (n * d'.size)).map (z.cells[· % z.cells.size]!)) (List.replicate n zs).flatten := by
                  refine ⟨by simp [hzl], fun j c e => ?_⟩
                  have hj : j < n * d'.size := by
                    have := (List.getElem?_eq_some_iff.1 e).1
                    simpa [hzl] using this
                  rw [flatten_replicate_get zs d'.size hzl n j hj] at e
                  obtain ⟨u, q1, q2, q3⟩ := hzc.2 _ _ e
                  refine ⟨u, ?_, q2, q3⟩
                  have hzd : z.cells.size = d'.size := by rw [hzsz, hzl]
                  have hlt := (Array.getElem?_eq_some_iff.1 q1).1
                  simp only [Array.getElem?_map, Array.getElem?_range, hj, if_true, Option.map_some, hzd]
                  rw [getElem!_pos z.cells _ hlt, ← Array.getElem?_eq_getElem hlt, q1]
                obtain ⟨cs', h1, h2⟩ := fill_conc (parts.toList.map fun x => (x.1, a.eval x.2)) _ _ _ cs (by simp) (parts_conc hs parts) hbase hcs
                have hlen : cs.length = n * d'.size := by rw [fillA_length _ _ _ hcs]; simp [hzl]
                have hrun : (execOp a.eval o).run P w = .ok (.value (.slice (some ⟨w.heap.size, 0, none⟩) n n)) (w.alloc (.cells cs' e)) := by
                  have hn24 : ¬ (n * d'.size > 2 ^ 24) := by omega
                  have hfill : ∀ zc : Array Value, ((Array.range (n * d'.size)).map (zc[· % zc.size]!)) = ((Array.range (n * d'.size)).map (z.cells[· % z.cells.size]!)) →
                      Instr.fill (fun i => some (i * d'.size, d'.size)) ((Array.range (n * d'.size)).map (zc[· % zc.size]!)) (parts.map fun x => (x.1, a.eval x.2)).toList = some cs' := by
                    intro zc hz2
                    rw [hz2]; simpa using h1
                  have : (execOp a.eval o) = (do pure (.value (← Instr.buildSlice T n (parts.map fun (i, x) => (i, a.eval x))))) := by simp [execOp, ho]
                  rw [this, Sem.run_bind]
                  have hb : (Instr.buildSlice T n (parts.map fun (i, x) => (i, a.eval x))).run P w = .ok (.slice (some ⟨w.heap.size, 0, none⟩) n n) (w.alloc (.cells cs' e)) := by
                    simp only [Instr.buildSlice, Sem.run_bind, run_underlying hu, Result.andThen_ok, run_sizeOf hd', hn24, if_false]
                    by_cases h0 : n * d'.size = 0
                    · rw [if_pos h0]
                      simp only [Sem.run_bind, Sem.run_pure, Result.andThen_ok]
                      rw [hfill #[] (by simp [h0])]
                      simp [newRow]
                    · rw [if_neg h0]
                      simp only [Sem.run_bind, Sem.run_pure, Result.andThen_ok, hrz]
                      rw [hfill z.cells rfl]
                      simp [newRow]
                  rw [hb]
                  rfl
                refine ⟨p.with s.objs.length (some ⟨w.heap.size, 0, n, n, false⟩), _, _, .inl hrun, hs.new _ rfl rfl (.cells cs' e) _ rfl rfl rfl rfl ?_, ?_, fun _ => Agree.alloc w _, hs.fresh_given _⟩
                · refine arr_of_cells (E := e) (Place.with_same _ _ _) (heap_alloc_new w _) (by simp [maxLen]; omega) hlen ?_
                  have := Conc.ofImmL (p' := noPlace) h2 himm
                  exact ⟨this.1, fun j c e => by
                    obtain ⟨u, q1, q2, q3⟩ := this.2 j c e
                    exact ⟨u, q1, q2, q3.mono (fun b hb => Below.heap_alloc w _ b (hs.imm b hb)) (fun _ h => h) fun _ _ h => h⟩⟩
                · exact .own (Nat.le_refl _) (by simp [maxLen]; omega) (Place.with_same _ _ _) (.inr ⟨rfl, .inr (by simp), by simp, by simp⟩)
              · cases h
            · cases h
          · cases h
        · cases h
      · cases h
    · cases h
  · cases h

def evMakeSlice (P : Program) (GT : Ctx) (s : St) (T : TypeId) (x y : Operand) : Option Res :=
  match td P T, ev GT s x, ev GT s y with
  | some d, .raw (.int _ n), .raw (.int _ c) => match d.kind with
    | .slice e => match td P e with
      | some d' => match zeroAV d' with
        | some zs => if zs.length = d'.size then
            some ⟨0 ≤ n ∧ n ≤ c ∧ d'.bytes * c ≤ 281474976710656 ∧ c ≤ 9223372036854775807, .own s.objs.length d'.size 0 n.toNat, { s with objs := s.objs ++ [.arr d'.size (List.replicate n.toNat zs)] }⟩ else none
        | none => none
      | none => none
    | _ => none
  | _, _, _ => none

theorem evMakeSlice_ok {T : TypeId} {x y : Operand} {r : Res} (ho : o.op = .makeSlice T x y) (h : evMakeSlice P GT s T x y = some r) : StepOK P GT o s r := by
  unfold evMakeSlice at h
  split at h
  · rename_i d k1 n k2 c hd hx hy
    split at h
    · rename_i e hk
      have hu := td_slice hd hk
      split at h
      · rename_i d' hd'
        split at h
        · rename_i zs hzs
          split at h
          · rename_i hzl
            injection h with h
            subst h
            intro hn w0 G p I a w hs
            obtain ⟨h0, h1, h2, h3⟩ := hn
            have hvx : a.eval x = .int k1 n := by have := hs.ev x; rw [hx] at this; exact this.raw_eq
            have hvy : a.eval y = .int k2 c := by have := hs.ev y; rw [hy] at this; exact this.raw_eq
            obtain ⟨i, z, hi, hz, hzsz, hzc, himm⟩ := zeroAV_conc hd' hzs I w noPlace
            obtain ⟨i', desc', hi', _, hsz', hby', _⟩ := td_info hd'
            obtain rfl : i = i' := Option.some.inj (hi.symm.trans hi')
            have hrun := run_make (P := P) w T e i z hu hi hz k1 k2 n c h0 h1 (by rw [hby']; exact h2) h3
            have hexec : (execOp a.eval o).run P w = .ok (.value (.slice (some ⟨w.heap.size, 0, none⟩) n.toNat c.toNat)) (w.alloc (.cells (madeCells z.cells (c.toNat * i.size)) e)) := by
              simp [execOp, ho, hvx, hvy, hrun]
            refine ⟨p.with s.objs.length (some ⟨w.heap.size, 0, c.toNat, n.toNat, false⟩), _, _, .inl hexec, hs.new _ rfl rfl _ _ rfl rfl rfl rfl ?_, ?_, fun _ => Agree.alloc w _, hs.fresh_given _⟩
            · refine ⟨_, Place.with_same _ _ _, .inr ⟨rfl, _, e, heap_alloc_new w _, by simp; omega, by simp [maxLen]; omega, by simp [madeCells, hsz'], fun x hx => by rw [List.eq_of_mem_replicate hx, hzl], fun i1 j x' b' e1 e2 => ?_⟩⟩
              have hi1 : i1 < n.toNat := by have := (List.getElem?_eq_some_iff.1 e1).1; simpa using this
              rw [List.getElem?_replicate, if_pos hi1] at e1
              injection e1 with e1
              subst e1
              have hj : j < d'.size := by rw [← hzl]; exact (List.getElem?_eq_some_iff.1 e2).1
              obtain ⟨u, q1, q2, q3⟩ := hzc.2 _ _ e2
              refine ⟨u, ?_, q2, q3.mono (fun b hb => Below.heap_alloc w _ b (hs.imm b hb)) (fun _ h => h) fun _ _ h => h⟩
              have hzd : z.cells.size = d'.size := by rw [hzsz, hzl]
              have hlt : 0 + i1 * d'.size + j < c.toNat * i.size := by
                have := Nat.mul_le_mul_right d'.size (show i1 + 1 ≤ c.toNat by omega)
                rw [Nat.add_mul] at this
                rw [hsz']; omega
              have hmod : (0 + i1 * d'.size + j) % d'.size = j := by rw [Nat.zero_add]; exact (divmod _ _ _ hj).2
              simp only [madeCells, Array.getElem?_map, Array.getElem?_range, hlt, if_true, Option.map_some, hzd, hmod]
              have hlt' := (Array.getElem?_eq_some_iff.1 q1).1
              rw [getElem!_pos z.cells _ hlt', ← Array.getElem?_eq_getElem hlt', q1]
            · exact .own (by omega) (by simp [maxLen]; omega) (Place.with_same _ _ _) (.inr ⟨rfl, .inr (by simp), by simp, by simp⟩)
          · cases h
        · cases h
      · cases h
    · cases h
  · cases h

/-- len, of a string or a slice; min and max of two integers. -/
def evLen (P : Program) (GT : Ctx) (s : St) (t : TypeId) (x : Operand) : Option Res :=
  match td P t with
  | some d => match d.kind with
    | .str => match ev GT s x with
      | .raw (.string b) => some ⟨True, .raw (.int .i64 b.size), s⟩
      | _ => none
    | .slice _ => match ev GT s x with
      | .lst _ xs => some ⟨True, .raw (.int .i64 xs.length), s⟩
      | .own _ _ _ n => some ⟨True, .raw (.int .i64 n), s⟩
      | .raw (.slice _ n _) => some ⟨True, .raw (.int .i64 n), s⟩
      | _ => none
    | .array n _ => some ⟨True, .raw (.int .i64 n), s⟩
    | .map _ _ => match ev GT s x with
      | .mref id => match s.obj id with
        | .mp _ m => some ⟨True, .raw (.int .i64 m.length), s⟩
        | _ => none
      | _ => none
    | _ => none
  | none => none

theorem evLen_ok {t : TypeId} {x : Operand} {r : Res} (ho : o.op = .call { callee := .builtin .len, args := #[x], argTypes := #[t] }) (h : evLen P GT s t x = some r) : StepPure P GT o s r := by
  have hexec : ∀ {a : Act} {w : World} {v : Value}, (Builtin.len_ #[t] o.type #[a.eval x]).run P w = .ok v w → (execOp a.eval o).run P w = .ok (.value v) w := by
    intro a w v hr
    simp [execOp, ho, resolve, invoke, builtin, hr]
  unfold evLen at h
  split at h
  · rename_i d hd
    split at h
    · rename_i hk
      have hu := td_str hd hk
      split at h
      · rename_i b hx
        injection h with h
        subst h
        refine stepOK_pure fun _ w0 G p I a w hs => ?_
        have hv : a.eval x = .string b := by have := hs.ev x; rw [hx] at this; exact this.raw_eq
        exact ⟨_, fun w' _ => hexec (by simp [Builtin.len_, hv, run_underlying hu, goInt]), .raw⟩
      · cases h
    · rename_i e hk
      have hu := td_slice hd hk
      split at h
      · rename_i k xs hx
        injection h with h
        subst h
        refine stepOK_pure fun _ w0 G p I a w hs => ?_
        have hc := hs.ev x
        rw [hx] at hc
        generalize hv : a.eval x = v at hc
        cases hc with
        | lst hn => subst hn; exact ⟨_, fun w' _ => hexec (by simp [Builtin.len_, hv, run_underlying hu, goInt]), .raw⟩
      · rename_i id k lo n hx
        injection h with h
        subst h
        refine stepOK_pure fun _ w0 G p I a w hs => ?_
        have hc := hs.ev x
        rw [hx] at hc
        generalize hv : a.eval x = v at hc
        cases hc with
        | own => exact ⟨_, fun w' _ => hexec (by simp [Builtin.len_, hv, run_underlying hu, goInt]), .raw⟩
      · rename_i A n c hx
        injection h with h
        subst h
        refine stepOK_pure fun _ w0 G p I a w hs => ?_
        have hv : a.eval x = .slice A n c := by have := hs.ev x; rw [hx] at this; exact this.raw_eq
        exact ⟨_, fun w' _ => hexec (by simp [Builtin.len_, hv, run_underlying hu, goInt]), .raw⟩
      · cases h
    · rename_i n e hk
      have hu := td_array hd hk
      injection h with h
      subst h
      refine stepOK_pure fun _ w0 G p I a w hs => ?_
      exact ⟨_, fun w' _ => hexec (by simp [Builtin.len_, run_underlying hu, goInt]), .raw⟩
    · rename_i kk ee hk
      have hu := td_map hd hk
      split at h
      · rename_i id hx
        split at h
        · rename_i kd m hob
          injection h with h
          subst h
          refine stepOK_pure fun _ w0 G p I a w hs => ?_
          have hc := hs.ev x
          rw [hx] at hc
          generalize hv : a.eval x = v at hc
          cases hc with
          | @mref _ _ r hp hnl =>
            have ho2 := hs.obj id
            rw [hob] at ho2
            obtain ⟨r2, es, hr, _, hh, hl, _⟩ := ho2
            rw [hp] at hr
            injection hr with hr
            subst hr
            have hlt := (hs.own id r hp hnl).2.1
            refine ⟨.int .i64 es.size, fun w' hw' => ?_, by rw [hl]; exact .raw⟩
            have hh' := ((hw' (by simp [ho, Op.reads])).2 _ hlt).trans hh
            exact hexec (by simp [Builtin.len_, hv, run_underlying hu, MapKept.run_getObj_map hh', Result.andThen, goInt])
        · cases h
      · cases h
    · cases h
  · cases h

def evMinMax (GT : Ctx) (s : St) (isMin : Bool) (x y : Operand) : Option Res :=
  match ev GT s x, ev GT s y with
  | .raw (.int k a), .raw (.int _ b) => some ⟨True, .raw (.int k (if isMin then (if b < a then b else a) else (if b > a then b else a))), s⟩
  | _, _ => none

theorem evMin_ok {ts : Array TypeId} {x y : Operand} {r : Res} (ho : o.op = .call { callee := .builtin .min, args := #[x, y], argTypes := ts }) (h : evMinMax GT s true x y = some r) : StepPure P GT o s r := by
  unfold evMinMax at h
  split at h
  · rename_i k a k' b hx hy
    injection h with h
    subst h
    refine stepOK_pure fun _ w0 G p I ac w hs => ?_
    have hvx : ac.eval x = .int k a := by have := hs.ev x; rw [hx] at this; exact this.raw_eq
    have hvy : ac.eval y = .int k' b := by have := hs.ev y; rw [hy] at this; exact this.raw_eq
    exact ⟨_, by simp [execOp, ho, resolve, invoke, builtin, hvx, hvy, Builtin.min_, Builtin.min2], .raw⟩
  · cases h

theorem evMax_ok {ts : Array TypeId} {x y : Operand} {r : Res} (ho : o.op = .call { callee := .builtin .max, args := #[x, y], argTypes := ts }) (h : evMinMax GT s false x y = some r) : StepPure P GT o s r := by
  unfold evMinMax at h
  split at h
  · rename_i k a k' b hx hy
    injection h with h
    subst h
    refine stepOK_pure fun _ w0 G p I ac w hs => ?_
    have hvx : ac.eval x = .int k a := by have := hs.ev x; rw [hx] at this; exact this.raw_eq
    have hvy : ac.eval y = .int k' b := by have := hs.ev y; rw [hy] at this; exact this.raw_eq
    exact ⟨_, by simp [execOp, ho, resolve, invoke, builtin, hvx, hvy, Builtin.max_, Builtin.max2], .raw⟩
  · cases h


theorem set_same {id : Nat} {o' : Obj} (h : s.obj id = o') (hne : o' ≠ .dead) : ({ s with objs := s.objs.set id o' } : St) = s := by
  have hid : id < s.objs.length := obj_lt (by rw [h]; exact hne)
  have : s.objs.set id o' = s.objs := by
    apply List.ext_getElem?
    intro j
    rw [List.getElem?_set]
    split
    · rename_i hj
      subst hj
      rw [← h, St.obj, List.getD_eq_getElem?_getD, List.getElem?_eq_getElem hid]
      rfl
    · rfl
  rw [this]

/-- Elements of an array that are written over. -/
theorem arr_splice {I : Nat → Prop} {w : World} {p : Place} {id k lo : Nat} {r : Real} {cs : Array Value} {E : TypeId} {xs ys : List (List AV)} {f : Nat → Nat → Value} (hr : p id = some r) (hnl : r.nul = false) (hI : ¬ I r.blk)
    (hh : w.heap[r.blk]? = some (.cells cs E (0, 0))) (hl : xs.length ≤ r.cap ∧ xs.length = r.len) (hm : r.cap ≤ maxLen) (hcs : r.base + r.cap * k ≤ cs.size) (hkx : ∀ x, x ∈ xs → x.length = k)
    (hv : ∀ i j x a, xs[i]? = some x → x[j]? = some a → ∃ v, cs[r.base + i * k + j]? = some v ∧ v.oneCell' = true ∧ Conc I w noPlace v a)
    (hn : lo + ys.length ≤ xs.length) (hyk : ∀ y, y ∈ ys → y.length = k) (hy1 : ∀ i j, i < ys.length → j < k → (f i j).oneCell' = true)
    (hyv : ∀ (i j : Nat) (y : List AV) (z : AV), ys[i]? = some y → y[j]? = some z → Conc I w noPlace (f i j) z) :
    ObjConc I (w.setRow r.blk (cs.toList.take (r.base + lo * k) ++ flatCells k ys.length f ++ cs.toList.drop (r.base + lo * k + (flatCells k ys.length f).length)).toArray) p id (.arr k (xs.take lo ++ ys ++ xs.drop (lo + ys.length))) := by
  have hfl : (flatCells k ys.length f).length = ys.length * k := flatCells_length _ _ _
  have hlen' : (xs.take lo ++ ys ++ xs.drop (lo + ys.length)).length = xs.length := by simp; omega
  have hkept : ∀ z, z ∈ xs.take lo ++ ys ++ xs.drop (lo + ys.length) → z.length = k := by
    intro z hz
    rcases List.mem_append.1 hz with hz | hz
    · rcases List.mem_append.1 hz with hz | hz
      · exact hkx z (List.mem_of_mem_take hz)
      · exact hyk z hz
    · exact hkx z (List.mem_of_mem_drop hz)
  have hmul : r.base + lo * k + ys.length * k ≤ r.base + r.cap * k := by
    have : (lo + ys.length) * k ≤ r.cap * k := Nat.mul_le_mul_right _ (by omega)
    rw [Nat.add_mul] at this
    omega
  refine ⟨r, hr, .inr ⟨hnl, _, E, setRow_heap w r.blk cs _ E _ hh, by rw [hlen']; exact hl, hm, ?_, hkept, ?_⟩⟩
  · simp [hfl]; omega
  · intro i' j z z' ee e'
    have hzk : z.length = k := hkept z (List.mem_of_getElem? ee)
    have hj : j < k := by rw [← hzk]; exact (List.getElem?_eq_some_iff.1 e').1
    have hi' : i' < xs.length := by rw [← hlen']; exact (List.getElem?_eq_some_iff.1 ee).1
    rw [splice_get_val _ _ _ _ (by rw [hfl]; omega), hfl]
    have hIw : ∀ b, I b → (w.setRow r.blk (cs.toList.take (r.base + lo * k) ++ flatCells k ys.length f ++ cs.toList.drop (r.base + lo * k + ys.length * k)).toArray).heap[b]? = w.heap[b]? :=
      fun b hb => (setRow_eq w r.blk _).2.1 b (by rintro rfl; exact hI hb)
    have hm2 : (lo + ys.length) * k = lo * k + ys.length * k := by rw [Nat.add_mul]
    by_cases h1 : i' < lo
    · have : i' * k + k ≤ lo * k := by
        have := Nat.mul_le_mul_right k (show i' + 1 ≤ lo by omega)
        rw [Nat.add_mul] at this; omega
      rw [if_neg (by omega)]
      rw [List.append_assoc, List.getElem?_append_left (by simp; omega), List.getElem?_take, if_pos h1] at ee
      obtain ⟨u, e1, e2, e3⟩ := hv _ _ _ _ ee e'
      exact ⟨u, e1, e2, e3.mono hIw (fun _ h => h) fun _ _ h => h⟩
    · by_cases h2 : i' < lo + ys.length
      · have g1 : lo * k ≤ i' * k := Nat.mul_le_mul_right _ (by omega)
        have g2 : i' * k + k ≤ (lo + ys.length) * k := by
          have := Nat.mul_le_mul_right k (show i' + 1 ≤ lo + ys.length by omega)
          rw [Nat.add_mul] at this; omega
        rw [if_pos (by omega)]
        rw [List.append_assoc, List.getElem?_append_right (by simp; omega), List.getElem?_append_left (by simp; omega)] at ee
        have hidx : i' - (xs.take lo).length = i' - lo := by simp; omega
        rw [hidx] at ee
        have hlt : i' - lo < ys.length := by omega
        have := flatCells_get k ys.length f hlt hj
        refine ⟨f (i' - lo) j, ?_, hy1 _ _ hlt hj, (hyv _ _ _ _ ee e').mono hIw (fun _ h => h) fun _ _ h => h⟩
        have hsub : (i' - lo) * k = i' * k - lo * k := Nat.sub_mul _ _ _
        rw [← this]; congr 1; omega
      · have g1 : (lo + ys.length) * k ≤ i' * k := Nat.mul_le_mul_right _ (by omega)
        rw [if_neg (by omega)]
        rw [List.getElem?_append_right (by simp; omega), List.getElem?_drop] at ee
        have hidx : lo + ys.length + (i' - (xs.take lo ++ ys).length) = i' := by simp; omega
        rw [hidx] at ee
        obtain ⟨u, e1, e2, e3⟩ := hv _ _ _ _ ee e'
        exact ⟨u, e1, e2, e3.mono hIw (fun _ h => h) fun _ _ h => h⟩

/-- clear, of a slice of the call's own. -/
def evClear (P : Program) (GT : Ctx) (s : St) (t : TypeId) (x : Operand) : Option Res :=
  match td P t, ev GT s x with
  | some d, .own id k lo n => match d.kind, s.obj id with
    | .slice e, .arr k' xs => match td P e with
      | some d' => match zeroAV d' with
        | some zs => if zs.length = d'.size ∧ k = d'.size ∧ k' = k then
            some ⟨lo + n ≤ xs.length, .tup [], { s with objs := s.objs.set id (.arr k (xs.take lo ++ List.replicate n zs ++ xs.drop (lo + n))) }⟩ else none
        | none => none
      | none => none
    | _, _ => none
  | _, _ => none

theorem evClear_ok {t : TypeId} {x : Operand} {r : Res} (ho : o.op = .call { callee := .builtin .clear, args := #[x], argTypes := #[t] }) (h : evClear P GT s t x = some r) : StepOK P GT o s r := by
  have hexec : ∀ {a : Act} {w w' : World} {v : Value}, (Builtin.clear_ #[t] o.type #[a.eval x]).run P w = .ok v w' → Yields P o a w v w' := by
    intro a w w' v hr
    left
    simp [execOp, ho, resolve, invoke, builtin, hr]
  unfold evClear at h
  split at h
  · rename_i d id k lo n hd hx
    split at h
    · rename_i e k' xs hk hob
      have hu := td_slice hd hk
      split at h
      · rename_i d' hd'
        split at h
        · rename_i zs hzs
          split at h
          · rename_i hcond
            obtain ⟨hzl, hkk, hkk'⟩ := hcond
            subst hkk'
            subst hkk
            injection h with h
            subst h
            intro hn w0 G p I a w hs
            have hc := hs.ev x
            rw [hx] at hc
            generalize hxv : a.eval x = xv at hc
            have hob' := hs.obj id
            rw [hob] at hob'
            cases hc with
            | @own _ _ _ _ _ A c r hnc hcm hr hcc =>
              by_cases hn0 : n = 0
              · subst hn0
                have hsame : xs.take lo ++ List.replicate 0 zs ++ xs.drop (lo + 0) = xs := by simp
                rw [hsame]
                refine ⟨p, .tuple #[], w, hexec ?_, by rw [set_same hob (by simp)]; exact hs, .tup rfl (fun i v a e => by simp at e), fun h => by simp [ho, Op.quiet] at h, fun _ _ => .inl rfl⟩
                rw [hxv]
                cases A <;> simp [Builtin.clear_, run_underlying hu]
              · obtain ⟨hnl, hA, hcap, hcl⟩ := hcc.resolve_left fun h => by omega
                obtain rfl := hA.resolve_left (by omega)
                obtain ⟨r', hr', ⟨hnl', _⟩ | ⟨_, cs, E, hh, hl, hm, hcs, hkx, hv⟩⟩ := hob'
                · obtain rfl : r = r' := Option.some.inj (hr.symm.trans hr')
                  rw [hnl] at hnl'; cases hnl'
                obtain rfl : r = r' := Option.some.inj (hr.symm.trans hr')
                obtain ⟨i, z, hi, hz, hzsz, hzc, himm⟩ := zeroAV_conc hd' hzs I w noPlace
                have hrz : (zeroValue e).run P w = .ok z w := by simp [zeroValue, typeInfo, hi, hz]
                have hown := hs.own id r hr hnl
                have hzd : z.cells.size = d'.size := by rw [hzsz, hzl]
                have hrl : (List.replicate n zs).length = n := by simp
                have hflat : (Builtin.zeroCells z.cells n).toList = flatCells d'.size n fun _ j => (z.cells[j]?).getD undef := by
                  apply List.ext_getElem?
                  intro j
                  by_cases hj : j < n * d'.size
                  · obtain ⟨g1, g2, g3⟩ := div_lt hj
                    conv => rhs; rw [g3]
                    rw [flatCells_get _ _ _ g1 g2]
                    have hlt : j % d'.size < z.cells.size := by rw [hzd]; exact g2
                    simp [Builtin.zeroCells, hzd, hj, Array.getElem?_eq_getElem hlt]
                    rw [getElem!_pos z.cells _ hlt]
                  · rw [List.getElem?_eq_none (by rw [Array.length_toList, zeroCells_size, hzd]; omega), List.getElem?_eq_none (by rw [flatCells_length]; omega)]
                have hz1 : ∀ i j, i < n → j < d'.size → ((z.cells[j]?).getD undef).oneCell' = true := fun i j _ hj => by
                  obtain ⟨u, e1, e2, _⟩ := hzc.2 j _ (List.getElem?_eq_getElem (by omega))
                  simp [e1, e2]
                have hfl : (flatCells d'.size n fun _ j => (z.cells[j]?).getD undef).length = n * d'.size := flatCells_length _ _ _
                have hmul : r.base + lo * d'.size + n * d'.size ≤ r.base + r.cap * d'.size := by
                  have : (lo + n) * d'.size ≤ r.cap * d'.size := Nat.mul_le_mul_right _ (by omega)
                  rw [Nat.add_mul] at this
                  omega
                have hst := run_storeCells_at P r.blk (r.base + lo * d'.size) E (flatCells d'.size n fun _ j => (z.cells[j]?).getD undef) 0 cs w hh (by rw [hfl]; omega) (flatCells_one hz1)
                simp only [Nat.add_zero] at hst
                obtain ⟨q1, q2, q3, q4, q5⟩ := setRow_eq w r.blk (cs.toList.take (r.base + lo * d'.size) ++ (flatCells d'.size n fun _ j => (z.cells[j]?).getD undef) ++ cs.toList.drop (r.base + lo * d'.size + (flatCells d'.size n fun _ j => (z.cells[j]?).getD undef).length)).toArray
                have hspl := arr_splice (ys := List.replicate n zs) (lo := lo) (f := fun _ j => (z.cells[j]?).getD undef) hr hnl hown.2.2 hh hl hm hcs hkx hv (by rw [hrl]; exact hn) (fun y hy => by rw [List.eq_of_mem_replicate hy, hzl]) (by rw [hrl]; exact hz1) (fun i j y q e e' => by
                  have hi : i < n := by have := (List.getElem?_eq_some_iff.1 e).1; simpa using this
                  rw [List.getElem?_replicate, if_pos hi] at e
                  injection e with e
                  subst e
                  obtain ⟨u, q1, q2, q3⟩ := hzc.2 _ _ e'
                  simpa [q1] using q3)
                simp only [hrl] at hspl
                refine ⟨p, .tuple #[], _, hexec ?_, hs.write hr hnl _ q1 q2 q3 q4 q5 hspl, .tup rfl (fun i v a e => by simp at e), fun h => by simp [ho, Op.quiet] at h, fun _ _ => .inl rfl⟩
                rw [hxv]
                obtain ⟨m, rfl⟩ : ∃ m, n = m + 1 := ⟨n - 1, by omega⟩
                simp [Builtin.clear_, run_underlying hu, hrz, hflat, hst]
          · cases h
        · cases h
      · cases h
    · cases h
  · cases h

/-- Numbers in a row of bytes. -/
def numsOf : List (List AV) → Option (List Int)
  | [] => some []
  | x :: xs => match x, numsOf xs with
    | [.raw (.int .u8 n)], some ns => some (n :: ns)
    | _, _ => none

theorem numsOf_get : ∀ {xs : List (List AV)} {ns : List Int}, numsOf xs = some ns → ns.length = xs.length ∧ ∀ i, i < xs.length → xs[i]? = some [.raw (.int .u8 (ns.getD i 0))]
  | [], ns, h => by injection h with h; subst h; exact ⟨rfl, fun i hi => by simp at hi⟩
  | x :: xs, ns, h => by
    simp only [numsOf] at h
    split at h
    · rename_i n ns' he hx
      injection h with h
      subst h
      obtain ⟨h1, h2⟩ := numsOf_get hx
      refine ⟨by simp [h1], fun i hi => ?_⟩
      cases i with
      | zero => rfl
      | succ i => simpa using h2 i (by simpa using hi)
    · cases h

/-- string(b), of bytes. -/
def evConvBytes (P : Program) (GT : Ctx) (s : St) (S D : TypeId) (x : Operand) : Option Res :=
  match td P S, td P D with
  | some d, some d' => match d.kind, d'.kind with
    | .slice e, .str => match td P e with
      | some de => match de.kind with
        | .int .u8 => match srcOf s 1 (ev GT s x) with
          | some xs => match numsOf xs with
            | some ns => some ⟨True, .raw (.string (strOfNums ns)), s⟩
            | none => none
          | none => none
        | _ => none
      | none => none
    | _, _ => none
  | _, _ => none

theorem src_conc_blk {w0 : World} {G : Nat → Prop} {p : Place} {I : Nat → Prop} {a : Act} {w : World} (hs : Sim GT w0 G p I s a w) {k : Nat} {v : Value} {x : AV} {ys : List (List AV)} (hc : Conc I w p v x) (he : srcOf s k x = some ys) :
    ∃ (A : Option Addr) (c : Nat) (f : Nat → Nat → Value), v = .slice A ys.length c ∧
      (ys = [] ∨ ∃ b off, A = some ⟨b, off, none⟩ ∧ b < w.heap.size ∧ ∀ i j, i < ys.length → j < k → w.cell? ⟨b, off + i * k + j, none⟩ = some (f i j)) ∧
      (∀ (i j : Nat) (y : List AV) (z : AV), ys[i]? = some y → y[j]? = some z → Conc I w noPlace (f i j) z) := by
  obtain ⟨A, c, f, h1, _, h3, _, h5⟩ := src_conc hs hc he
  exact ⟨A, c, f, h1, h3, h5⟩

theorem evConvBytes_ok {S D : TypeId} {x : Operand} {r : Res} (ho : o.op = .convert S D x) (h : evConvBytes P GT s S D x = some r) : StepPure P GT o s r := by
  unfold evConvBytes at h
  split at h
  · rename_i d d' hd hd'
    split at h
    · rename_i e hk hk'
      have hu := td_slice hd hk
      split at h
      · rename_i de hde
        split at h
        · rename_i hke
          have hue := td_int hde hke
          split at h
          · rename_i xs hxs
            split at h
            · rename_i ns hns
              injection h with h
              subst h
              refine stepOK_pure fun _ w0 G p I a w hs => ⟨_, fun w' hw' => ?_, .raw⟩
              have hag := hw' (by simp [ho, Op.reads])
              obtain ⟨g1, g2⟩ := numsOf_get hns
              obtain ⟨A, c, f, hv, hcell, hcv⟩ := src_conc_blk hs (hs.ev x) hxs
              have hrun : (convert S D (.slice A xs.length c)).run P w' = .ok (.string (strOfNums ns)) w' := by
                rcases hcell with h0 | ⟨b, off, hA, hb, hcell⟩
                · subst h0
                  have : ns = [] := List.eq_nil_of_length_eq_zero (by rw [g1]; rfl)
                  subst this
                  cases A with
                  | none => exact run_convert_bytes_nil w' S e hu hue _ _ D (td_str hd' hk')
                  | some A =>
                    rw [run_convert_bytes_string w' S D e _ _ c hu hue (td_str hd' hk')]
                    simp [Conv.bytesToString, loadCells, loadCellsFrom, strOfNums]
                    rfl
                · subst hA
                  refine run_convert_bytes_arg w' S e hu hue b off xs.length c ns g1 (fun i hi => ?_) D (td_str hd' hk')
                  have h1 := hcell i 0 hi (by omega)
                  have h2 := hcv i 0 _ _ (g2 i hi) rfl
                  rw [h2.raw_eq] at h1
                  have := hag.cell h1
                  simpa using this
              simp [execOp, ho, hv, hrun]
            · cases h
          · cases h
        · cases h
      · cases h
    · cases h
  · cases h

end
end Go.Proofs.YtmfgaefefgnhbaaGreatDoor.Abs
