/- Abstract values, what they say of the machine's values and memory, and the relation between an abstract state and a frame in a world. No program in sight. -/
import Derived.WalkKit
namespace Go.Proofs.YtangkndckghblaaDoor.Abs
set_option linter.unusedSimpArgs false
set_option linter.unusedVariables false
open Go Go.RowKit

/-- Where an abstract object lies: its block, the cell at which it begins, how many elements it has room for. nul: it is a nil slice, and lies nowhere. -/
structure Real where
  blk : Nat
  base : Nat
  cap : Nat
  len : Nat
  nul : Bool

/-- Abstract values. -/
inductive AV where
  | top
  | raw (v : Value)
  | agg (cs : List AV)
  | tup (vs : List AV)
  | lst (k : Nat) (xs : List (List AV))
  | cptr (cs : List AV)
  | own (id k lo n : Nat)
  | ref (id off : Nat)
  | eref (id k i off : Nat)
  | mref (id : Nat)
  | clo (fn : Fn) (first captured : List AV)

/-- Keys of maps. -/
inductive MKey where
  | str (b : ByteArray)
  | int (k : IntKind) (n : Int)
  | ints (l : List (IntKind × Int))
  deriving DecidableEq
/-- Kinds of keys. -/
inductive MKind where
  | str
  | int (k : IntKind)
  | ints (l : List IntKind)
  deriving DecidableEq
def MKey.kind : MKey → MKind
  | .str _ => .str
  | .int k _ => .int k
  | .ints l => .ints (l.map (·.1))
def MKey.val : MKey → Value
  | .str b => .string b
  | .int k n => .int k n
  | .ints l => .agg (l.map fun x => Value.int x.1 x.2).toArray

/-- Abstract objects: what the call owns and may write. -/
inductive Obj where
  | dead
  | box (cs : List AV)
  | arr (k : Nat) (xs : List (List AV))
  | mp (kd : MKind) (m : List (MKey × AV))

abbrev Place := Nat → Option Real
def noPlace : Place := fun _ => none

/-- What is said of a slice that lies in an array. -/
def OwnAt (r : Real) (k lo n : Nat) (A : Option Addr) (c : Nat) : Prop :=
  (r.nul = true ∧ c = 0) ∨ (r.nul = false ∧ (c = 0 ∨ A = some ⟨r.blk, r.base + lo * k, none⟩) ∧ lo + c = r.cap ∧ lo + n ≤ r.len)

/-- What an abstract value says of a value: I the blocks that nobody writes any more, p where the objects lie. -/
inductive Conc (I : Nat → Prop) (w : World) : Place → Value → AV → Prop
  | top {p v} : Conc I w p v .top
  | raw {p v} : Conc I w p v (.raw v)
  | agg {p} {cs : Array Value} {as : List AV} (hl : as.length = cs.size) (h1 : ∀ (i : Nat) (v : Value), cs[i]? = some v → v.oneCell' = true)
      (h : ∀ (i : Nat) (v : Value) (a : AV), cs[i]? = some v → as[i]? = some a → Conc I w p v a) : Conc I w p (.agg cs) (.agg as)
  | tup {p} {cs : Array Value} {as : List AV} (hl : as.length = cs.size)
      (h : ∀ (i : Nat) (v : Value) (a : AV), cs[i]? = some v → as[i]? = some a → Conc I w p v a) : Conc I w p (.tuple cs) (.tup as)
  | lst {p k xs A c n} {f : Nat → Nat → Value} (hn : n = xs.length) (hc : n ≤ c) (hm : c ≤ maxLen) (hk : ∀ x : List AV, x ∈ xs → x.length = k)
      (hx : xs = [] ∨ ∃ b off, A = some ⟨b, off, none⟩ ∧ I b ∧ ∀ i j, i < xs.length → j < k → w.cell? ⟨b, off + i * k + j, none⟩ = some (f i j))
      (h1 : ∀ i j, i < xs.length → j < k → (f i j).oneCell' = true)
      (h : ∀ (i j : Nat) (x : List AV) (a : AV), xs[i]? = some x → x[j]? = some a → Conc I w noPlace (f i j) a) : Conc I w p (.slice A n c) (.lst k xs)
  | cptr {p cs b off} {f : Nat → Value} (hb : I b) (hx : ∀ j, j < cs.length → w.cell? ⟨b, off + j, none⟩ = some (f j))
      (h1 : ∀ j, j < cs.length → (f j).oneCell' = true)
      (h : ∀ (j : Nat) (a : AV), cs[j]? = some a → Conc I w noPlace (f j) a) : Conc I w p (.pointer (some ⟨b, off, none⟩)) (.cptr cs)
  | own {p : Place} {id k lo n A c} {r : Real} (hn : n ≤ c) (hm : c ≤ maxLen) (hp : p id = some r) (h : OwnAt r k lo n A c) : Conc I w p (.slice A n c) (.own id k lo n)
  | ref {p : Place} {id off} {r : Real} (h : p id = some r) (hl : r.nul = false) : Conc I w p (.pointer (some ⟨r.blk, r.base + off, none⟩)) (.ref id off)
  | eref {p : Place} {id k i off} {r : Real} (h : p id = some r) (hl : r.nul = false) : Conc I w p (.pointer (some ⟨r.blk, r.base + i * k + off, none⟩)) (.eref id k i off)
  | mref {p : Place} {id} {r : Real} (h : p id = some r) (hl : r.nul = false) : Conc I w p (.map (some r.blk)) (.mref id)
  | clo {p} {fn : Fn} {fs cs : Array Value} {as bs : List AV} (hl : as.length = fs.size) (hl' : bs.length = cs.size)
      (h : ∀ (i : Nat) (v : Value) (a : AV), fs[i]? = some v → as[i]? = some a → Conc I w p v a)
      (h' : ∀ (i : Nat) (v : Value) (a : AV), cs[i]? = some v → bs[i]? = some a → Conc I w p v a) : Conc I w p (.func fn fs cs) (.clo fn as bs)

theorem cell?_of_heap {w w' : World} {b o : Nat} (h : w'.heap[b]? = w.heap[b]?) : w'.cell? ⟨b, o, none⟩ = w.cell? ⟨b, o, none⟩ := by
  simp [World.cell?, h]

/- The names of objects in a value, given others. -/
mutual
def AV.leafs (f : AV → AV) : AV → AV
  | .agg cs => .agg (AV.leafsL f cs)
  | .tup vs => .tup (AV.leafsL f vs)
  | .clo fn as bs => .clo fn (AV.leafsL f as) (AV.leafsL f bs)
  | .own i k lo n => f (.own i k lo n)
  | .ref i o => f (.ref i o)
  | .eref i k j o => f (.eref i k j o)
  | .mref i => f (.mref i)
  | .top => .top
  | .raw v => .raw v
  | .lst k xs => .lst k xs
  | .cptr cs => .cptr cs
def AV.leafsL (f : AV → AV) : List AV → List AV
  | [] => []
  | a :: as => AV.leafs f a :: AV.leafsL f as
end

theorem AV.leafsL_eq (f : AV → AV) (l : List AV) : AV.leafsL f l = l.map (AV.leafs f) := by
  induction l with
  | nil => rfl
  | cons a l ih => simp [AV.leafsL, ih]

theorem map_get {f : AV → AV} {l : List AV} {j : Nat} {x : AV} (h : (l.map f)[j]? = some x) : ∃ y, l[j]? = some y ∧ x = f y := by
  rw [List.getElem?_map] at h
  cases hj : l[j]? with
  | none => rw [hj] at h; cases h
  | some y => rw [hj] at h; injection h with h; exact ⟨y, rfl, h.symm⟩

/-- Values that name an object. -/
def AV.isLeaf : AV → Bool
  | .own .. => true
  | .ref .. => true
  | .eref .. => true
  | .mref .. => true
  | _ => false

/-- What is said of a value, its names given others: it is enough to look at the names. -/
theorem Conc.leafs {I I' : Nat → Prop} {w w' : World} {p p' : Place} {v : Value} {x : AV} {f : AV → AV} (h : Conc I w p v x)
    (hw : ∀ b, I b → w'.heap[b]? = w.heap[b]?) (hI : ∀ b, I b → I' b)
    (hf : ∀ (v : Value) (x : AV), x.isLeaf = true → Conc I w p v x → Conc I' w' p' v (f x)) : Conc I' w' p' v (x.leafs f) := by
  have mono : ∀ {p : Place} {v : Value} {x : AV}, Conc I w p v x → (∀ i, p i = none) → Conc I' w' noPlace v x := by
    intro p v x h
    induction h with
    | top => exact fun _ => .top
    | raw => exact fun _ => .raw
    | agg hl h1 _ ih => exact fun hp => .agg hl h1 fun i v a e e' => ih i v a e e' hp
    | tup hl _ ih => exact fun hp => .tup hl fun i v a e e' => ih i v a e e' hp
    | lst hn hc hm hk hx h1 _ ih =>
      intro hp
      refine .lst hn hc hm hk ?_ h1 fun i j x a e e' => ih i j x a e e' fun _ => rfl
      rcases hx with hx | ⟨b, off, hA, hb, hx⟩
      · exact .inl hx
      · exact .inr ⟨b, off, hA, hI b hb, fun i j hi hj => (cell?_of_heap (hw b hb)).trans (hx i j hi hj)⟩
    | cptr hb hx h1 _ ih =>
      exact fun hp => .cptr (hI _ hb) (fun j hj => (cell?_of_heap (hw _ hb)).trans (hx j hj)) h1 fun j a e => ih j a e fun _ => rfl
    | own _ _ h => intro hp; rw [hp] at h; cases h
    | ref h => intro hp; rw [hp] at h; cases h
    | eref h => intro hp; rw [hp] at h; cases h
    | mref h => intro hp; rw [hp] at h; cases h
    | clo hl hl' _ _ ih ih' => exact fun hp => .clo hl hl' (fun i v a e e' => ih i v a e e' hp) (fun i v a e e' => ih' i v a e e' hp)
  induction h generalizing p' with
  | top => exact .top
  | raw => exact .raw
  | agg hl h1 _ ih =>
    simp only [AV.leafs, AV.leafsL_eq]
    refine .agg (by simpa using hl) h1 fun i v a e e' => ?_
    obtain ⟨y, hy, rfl⟩ := map_get e'
    exact ih i v y e hy hf
  | tup hl _ ih =>
    simp only [AV.leafs, AV.leafsL_eq]
    refine .tup (by simpa using hl) fun i v a e e' => ?_
    obtain ⟨y, hy, rfl⟩ := map_get e'
    exact ih i v y e hy hf
  | lst hn hc hm hk hx h1 h _ =>
    simp only [AV.leafs]
    refine .lst hn hc hm hk ?_ h1 fun i j x a e e' => mono (h i j x a e e') fun _ => rfl
    rcases hx with hx | ⟨b, off, hA, hb, hx⟩
    · exact .inl hx
    · exact .inr ⟨b, off, hA, hI b hb, fun i j hi hj => (cell?_of_heap (hw b hb)).trans (hx i j hi hj)⟩
  | cptr hb hx h1 h _ =>
    exact .cptr (hI _ hb) (fun j hj => (cell?_of_heap (hw _ hb)).trans (hx j hj)) h1 fun j a e => mono (h j a e) fun _ => rfl
  | own hn hm hp h => exact hf _ _ rfl (.own hn hm hp h)
  | ref h hl => exact hf _ _ rfl (.ref h hl)
  | eref h hl => exact hf _ _ rfl (.eref h hl)
  | mref h hl => exact hf _ _ rfl (.mref h hl)
  | clo hl hl' _ _ ih ih' =>
    simp only [AV.leafs, AV.leafsL_eq]
    refine .clo (by simpa using hl) (by simpa using hl') (fun i v a e e' => ?_) fun i v a e e' => ?_
    · obtain ⟨y, hy, rfl⟩ := map_get e'
      exact ih i v y e hy hf
    · obtain ⟨y, hy, rfl⟩ := map_get e'
      exact ih' i v y e hy hf

mutual
theorem AV.leafs_self (f : AV → AV) (hf : ∀ x, x.isLeaf = true → f x = x) : ∀ x : AV, x.leafs f = x
  | .agg cs => by rw [AV.leafs, AV.leafsL_self f hf cs]
  | .tup cs => by rw [AV.leafs, AV.leafsL_self f hf cs]
  | .clo fn as bs => by rw [AV.leafs, AV.leafsL_self f hf as, AV.leafsL_self f hf bs]
  | .own .. => hf _ rfl
  | .ref .. => hf _ rfl
  | .eref .. => hf _ rfl
  | .mref .. => hf _ rfl
  | .top => rfl
  | .raw _ => rfl
  | .lst _ _ => rfl
  | .cptr _ => rfl
theorem AV.leafsL_self (f : AV → AV) (hf : ∀ x, x.isLeaf = true → f x = x) : ∀ l : List AV, AV.leafsL f l = l
  | [] => rfl
  | a :: l => by rw [AV.leafsL, AV.leafs_self f hf a, AV.leafsL_self f hf l]
end

/-- What is said holds on: in a world in which the unwritten blocks are as they were, of more unwritten blocks, of more objects. -/
theorem Conc.mono {I I' : Nat → Prop} {w w' : World} {p p' : Place} {v : Value} {a : AV} (h : Conc I w p v a)
    (hw : ∀ b, I b → w'.heap[b]? = w.heap[b]?) (hI : ∀ b, I b → I' b) (hp : ∀ i r, p i = some r → p' i = some r) : Conc I' w' p' v a := by
  have := h.leafs (f := fun x => x) (p' := p') hw hI fun v x hx hc => by
    cases hc with
    | own hn hm h hr => exact .own hn hm (hp _ _ h) hr
    | ref h hl => exact .ref (hp _ _ h) hl
    | eref h hl => exact .eref (hp _ _ h) hl
    | mref h hl => exact .mref (hp _ _ h) hl
    | _ => cases hx
  rwa [AV.leafs_self _ fun _ _ => rfl] at this

/-- What is said without objects holds whatever the objects. -/
theorem Conc.anyPlace {I : Nat → Prop} {w : World} {p : Place} {v : Value} {a : AV} (h : Conc I w noPlace v a) : Conc I w p v a :=
  h.mono (fun _ _ => rfl) (fun _ h => h) (fun _ _ h => by cases h)

/-- The object that a value names. -/
def AV.nameOf : AV → Option Nat
  | .own i _ _ _ => some i
  | .ref i _ => some i
  | .eref i _ _ _ => some i
  | .mref i => some i
  | _ => none
def AV.withName (j : Nat) : AV → AV
  | .own _ k lo n => .own j k lo n
  | .ref _ o => .ref j o
  | .eref _ k i o => .eref j k i o
  | .mref _ => .mref j
  | x => x
/-- Names that are given others; those without one say nothing any more. -/
def AV.ren (g : Nat → Option Nat) (x : AV) : AV := match x.nameOf with
  | some i => match g i with
    | some j => x.withName j
    | none => .top
  | none => x

theorem Conc.ren {I I' : Nat → Prop} {w w' : World} {p p' : Place} {v : Value} {x : AV} (g : Nat → Option Nat) (h : Conc I w p v x)
    (hw : ∀ b, I b → w'.heap[b]? = w.heap[b]?) (hI : ∀ b, I b → I' b) (hg : ∀ i j r, g i = some j → p i = some r → p' j = some r) : Conc I' w' p' v (x.leafs (AV.ren g)) := by
  refine h.leafs hw hI fun v x hx hc => ?_
  cases hc with
  | own hn hm h hr =>
    simp only [AV.ren, AV.nameOf]
    split
    · rename_i j hj; exact .own hn hm (hg _ _ _ hj h) hr
    · exact .top
  | ref h hl =>
    simp only [AV.ren, AV.nameOf]
    split
    · rename_i j hj; exact .ref (hg _ _ _ hj h) hl
    · exact .top
  | eref h hl =>
    simp only [AV.ren, AV.nameOf]
    split
    · rename_i j hj; exact .eref (hg _ _ _ hj h) hl
    · exact .top
  | mref h hl =>
    simp only [AV.ren, AV.nameOf]
    split
    · rename_i j hj; exact .mref (hg _ _ _ hj h) hl
    · exact .top
  | _ => cases hx

/-- Objects that are gone: whatever named them says nothing any more. -/
def AV.kill (id : Nat) (x : AV) : AV := x.leafs (AV.ren fun i => if i = id then none else some i)

theorem Conc.kill {I I' : Nat → Prop} {w w' : World} {p p' : Place} {v : Value} {a : AV} (id : Nat) (h : Conc I w p v a) (hw : ∀ b, I b → w'.heap[b]? = w.heap[b]?) (hI : ∀ b, I b → I' b)
    (hp : ∀ i, i ≠ id → p' i = p i) : Conc I' w' p' v (a.kill id) := by
  refine h.ren _ hw hI fun i j r hg hr => ?_
  split at hg
  · cases hg
  · injection hg with hg; subst hg; rw [hp _ (by assumption)]; exact hr

/-- What an abstract object says. -/
def ObjConc (I : Nat → Prop) (w : World) (p : Place) (id : Nat) : Obj → Prop
  | .dead => p id = none
  | .box cs => ∃ (r : Real) (c : Array Value) (E : TypeId), p id = some r ∧ r.nul = false ∧ w.heap[r.blk]? = some (.cells c E (0, 0)) ∧ r.base + cs.length ≤ c.size ∧
      ∀ j a, cs[j]? = some a → ∃ v, c[r.base + j]? = some v ∧ v.oneCell' = true ∧ Conc I w p v a
  | .arr k xs => ∃ r : Real, p id = some r ∧ ((r.nul = true ∧ xs = []) ∨ (r.nul = false ∧ ∃ (c : Array Value) (E : TypeId), w.heap[r.blk]? = some (.cells c E (0, 0)) ∧
      (xs.length ≤ r.cap ∧ xs.length = r.len) ∧ r.cap ≤ maxLen ∧ r.base + r.cap * k ≤ c.size ∧ (∀ x, x ∈ xs → x.length = k) ∧
      ∀ i j x a, xs[i]? = some x → x[j]? = some a → ∃ v, c[r.base + i * k + j]? = some v ∧ v.oneCell' = true ∧ Conc I w noPlace v a))
  | .mp kd m => ∃ (r : Real) (es : Array MapEntry), p id = some r ∧ r.nul = false ∧ w.heap[r.blk]? = some (.map es es.size) ∧ m.length = es.size ∧ (∀ x, x ∈ m → x.1.kind = kd) ∧ (m.map (·.1)).Nodup ∧
      ∀ (i : Nat) (e : MapEntry) (key : MKey) (a : AV), es[i]? = some e → m[i]? = some (key, a) → e.key = key.val ∧ e.born = i ∧ Conc I w noPlace e.val a

/-- What a call leaves of what was there: G the blocks that were given to it. -/
structure Frm (w0 : World) (G : Nat → Prop) (w : World) : Prop where
  os : w.os = w0.os
  tape : w.tape = w0.tape
  output : w.output = w0.output
  size : w0.heap.size ≤ w.heap.size
  block : ∀ k, k < w0.heap.size → ¬ G k → w.heap[k]? = w0.heap[k]?

theorem Frm.refl (w : World) (G : Nat → Prop) : Frm w G w := ⟨rfl, rfl, rfl, Nat.le_refl _, fun _ _ _ => rfl⟩

structure St where
  slots : List AV
  objs : List Obj

def St.obj (s : St) (id : Nat) : Obj := s.objs.getD id .dead
def St.put (s : St) (d : Option Tmp) (v : AV) : St :=
  match d with
  | some d => { s with slots := s.slots.set d v }
  | none => s

/-- What is known of package-level variables. -/
abbrev Globs := List (Nat × List AV)
/-- What stays in a call: what is known of package-level variables, and how many objects were given to it. -/
structure Ctx where
  tab : Globs
  given : Nat

/-- The relation between an abstract state and a frame in a world. w0: the world in which the call began. -/
structure Sim (GT : Ctx) (w0 : World) (G : Nat → Prop) (p : Place) (I : Nat → Prop) (s : St) (a : Act) (w : World) : Prop where
  size : a.tmps.size = s.slots.length
  slot : ∀ (i : Nat) (v : Value) (x : AV), a.tmps[i]? = some v → s.slots[i]? = some x → Conc I w p v x
  defers : a.defers = []
  obj : ∀ id, ObjConc I w p id (s.obj id)
  inj : ∀ i j r r', p i = some r → p j = some r' → r.nul = false → r'.nul = false → r.blk = r'.blk → i = j
  own : ∀ i r, p i = some r → r.nul = false → (w0.heap.size ≤ r.blk ∨ G r.blk) ∧ r.blk < w.heap.size ∧ ¬ I r.blk
  imm : ∀ b, I b → b < w.heap.size
  frame : Frm w0 G w
  glob : ∀ g cs, (g, cs) ∈ GT.tab → Conc I w noPlace (.pointer (some ⟨g, 0, none⟩)) (.cptr cs)
  given : GT.given ≤ s.objs.length

def lookupG (GT : Globs) (g : Nat) : AV :=
  match GT.find? (fun x => x.1 == g) with
  | some (_, cs) => .cptr cs
  | none => .raw (.pointer (some ⟨g, 0, none⟩))

/-- The abstract value of an operand. -/
def ev (GT : Ctx) (s : St) : Operand → AV
  | .tmp t => s.slots.getD t .top
  | .const v => .raw v
  | .global g => lookupG GT.tab g
  | .func f => .clo (.func f) [] []

section
variable {GT : Ctx} {w0 : World} {G : Nat → Prop} {p : Place} {I : Nat → Prop} {s : St} {a : Act} {w : World}

theorem Sim.ev (h : Sim GT w0 G p I s a w) (o : Operand) : Conc I w p (a.eval o) (ev GT s o) := by
  cases o with
  | tmp t =>
    simp only [Act.eval, Abs.ev, List.getD_eq_getElem?_getD, Array.getD_eq_getD_getElem?]
    rcases Nat.lt_or_ge t s.slots.length with ht | ht
    · have ht' : t < a.tmps.size := by rw [h.size]; exact ht
      rw [List.getElem?_eq_getElem ht, Array.getElem?_eq_getElem ht']
      exact h.slot t _ _ (Array.getElem?_eq_getElem ht') (List.getElem?_eq_getElem ht)
    · rw [List.getElem?_eq_none ht]
      exact .top
  | const v => exact .raw
  | global g =>
    simp only [Act.eval, Abs.ev, lookupG]
    split
    · rename_i x cs he
      have hm := List.mem_of_find?_eq_some he
      have hg := List.find?_some he
      simp at hg
      subst hg
      exact (h.glob _ _ hm).anyPlace
    · exact .raw
  | func f => exact .clo (by simp) (by simp) (fun i v a e _ => by simp at e) (fun i v a e _ => by simp at e)

theorem Sim.put (h : Sim GT w0 G p I s a w) (d : Option Tmp) {v : Value} {x : AV} (hv : Conc I w p v x) : Sim GT w0 G p I (s.put d x) (a.put d v) w := by
  cases d with
  | none => exact h
  | some d =>
    refine { h with size := ?_, slot := ?_, obj := h.obj, defers := h.defers, given := h.given }
    · simp [Act.put, St.put, h.size]
    · intro i v' x' e e'
      simp only [Act.put, St.put, Array.getElem?_setIfInBounds, List.getElem?_set] at e e'
      by_cases hd : d = i
      · subst hd
        have hs := h.size
        by_cases hlt : d < a.tmps.size
        · simp [hlt, ← hs] at e e'
          subst e; subst e'
          exact hv
        · simp [hlt] at e
      · simp [hd] at e e'
        exact h.slot i v' x' e e'

theorem Sim.unplaced (h : Sim GT w0 G p I s a w) {i : Nat} (hi : s.objs.length ≤ i) : p i = none := by
  have := h.obj i
  simpa [St.obj, List.getElem?_eq_none hi, ObjConc] using this

theorem Sim.lt (h : Sim GT w0 G p I s a w) {i : Nat} {r : Real} (hi : p i = some r) : i < s.objs.length := by
  rcases Nat.lt_or_ge i s.objs.length with h' | h'
  · exact h'
  · rw [h.unplaced h'] at hi; cases hi

theorem obj_lt {id : Nat} (h : s.obj id ≠ .dead) : id < s.objs.length := by
  rcases Nat.lt_or_ge id s.objs.length with h' | h'
  · exact h'
  · simp [St.obj, List.getElem?_eq_none h'] at h

/-- The same world, another set of objects: by the parts that hang on it. -/
theorem ObjConc.mono {I' : Nat → Prop} {w' : World} {id : Nat} {o : Obj} (h : ObjConc I w p id o) (hw : ∀ b, I b → w'.heap[b]? = w.heap[b]?) (hI : ∀ b, I b → I' b)
    (hb : ∀ r, p id = some r → r.nul = false → w'.heap[r.blk]? = w.heap[r.blk]?) : ObjConc I' w' p id o := by
  cases o with
  | dead => exact h
  | box cs =>
    obtain ⟨r, c, E, hp, hn, hh, hl, hv⟩ := h
    refine ⟨r, c, E, hp, hn, (hb r hp hn).trans hh, hl, fun j a e => ?_⟩
    obtain ⟨v, h1, h2, h3⟩ := hv j a e
    exact ⟨v, h1, h2, h3.mono hw hI fun _ _ h => h⟩
  | arr k xs =>
    obtain ⟨r, hp, h | ⟨hn, c, E, hh, hl, hm, hs, hk, hv⟩⟩ := h
    · exact ⟨r, hp, .inl h⟩
    · refine ⟨r, hp, .inr ⟨hn, c, E, (hb r hp hn).trans hh, hl, hm, hs, hk, fun i j x a e e' => ?_⟩⟩
      obtain ⟨v, h1, h2, h3⟩ := hv i j x a e e'
      exact ⟨v, h1, h2, h3.mono hw hI fun _ _ h => h⟩
  | mp kd m =>
    obtain ⟨r, es, hp, hn, hh, hl, hkd, hnd, hv⟩ := h
    refine ⟨r, es, hp, hn, (hb r hp hn).trans hh, hl, hkd, hnd, fun i e key a he hm => ?_⟩
    obtain ⟨h1, h2, h3⟩ := hv i e key a he hm
    exact ⟨h1, h2, h3.mono hw hI fun _ _ h => h⟩

/-- Placing one more object. -/
def Place.with (p : Place) (id : Nat) (r : Option Real) : Place := fun i => if i = id then r else p i
theorem Place.with_same (p : Place) (id : Nat) (r : Option Real) : p.with id r id = r := by simp [Place.with]
theorem Place.with_other (p : Place) {id i : Nat} (r : Option Real) (h : i ≠ id) : p.with id r i = p i := by simp [Place.with, h]

/-- Names in an object. -/
def Obj.leafs (f : AV → AV) : Obj → Obj
  | .box cs => .box (AV.leafsL f cs)
  | .dead => .dead
  | .arr k xs => .arr k xs
  | .mp kd m => .mp kd m

theorem ObjConc.leafs {I' : Nat → Prop} {w' : World} {p' : Place} {id id' : Nat} {o : Obj} {f : AV → AV} (h : ObjConc I w p id o) (hw : ∀ b, I b → w'.heap[b]? = w.heap[b]?) (hI : ∀ b, I b → I' b)
    (hb : ∀ r, p id = some r → r.nul = false → w'.heap[r.blk]? = w.heap[r.blk]?) (hp : p' id' = p id)
    (hf : ∀ (v : Value) (x : AV), x.isLeaf = true → Conc I w p v x → Conc I' w' p' v (f x)) : ObjConc I' w' p' id' (o.leafs f) := by
  cases o with
  | dead => exact hp.trans h
  | box cs =>
    obtain ⟨r, c, E, hr, hn, hh, hl, hv⟩ := h
    refine ⟨r, c, E, hp.trans hr, hn, (hb r hr hn).trans hh, by simpa [AV.leafsL_eq] using hl, fun j a e => ?_⟩
    rw [AV.leafsL_eq] at e
    obtain ⟨y, hy, rfl⟩ := map_get e
    obtain ⟨v, h1, h2, h3⟩ := hv j y hy
    exact ⟨v, h1, h2, h3.leafs hw hI hf⟩
  | arr k xs =>
    obtain ⟨r, hr, h | ⟨hn, c, E, hh, hl, hm, hs, hk, hv⟩⟩ := h
    · exact ⟨r, hp.trans hr, .inl h⟩
    · refine ⟨r, hp.trans hr, .inr ⟨hn, c, E, (hb r hr hn).trans hh, hl, hm, hs, hk, fun i j x a e e' => ?_⟩⟩
      obtain ⟨v, h1, h2, h3⟩ := hv i j x a e e'
      exact ⟨v, h1, h2, h3.mono hw hI fun _ _ h => h⟩
  | mp kd m =>
    obtain ⟨r, es, hr, hn, hh, hl, hkd, hnd, hv⟩ := h
    refine ⟨r, es, hp.trans hr, hn, (hb r hr hn).trans hh, hl, hkd, hnd, fun i e key a he hm => ?_⟩
    obtain ⟨h1, h2, h3⟩ := hv i e key a he hm
    exact ⟨h1, h2, h3.mono hw hI fun _ _ h => h⟩

theorem Obj.leafs_self (f : AV → AV) (hf : ∀ x, x.isLeaf = true → f x = x) (o : Obj) : o.leafs f = o := by
  cases o <;> simp [Obj.leafs, AV.leafsL_self f hf]

theorem ObjConc.place {p' : Place} {id : Nat} {o : Obj} (h : ObjConc I w p id o) (hp : ∀ i r, p i = some r → p' i = some r) (hn : p id = none → p' id = none) : ObjConc I w p' id o := by
  have hid : p' id = p id := by
    cases hp' : p id with
    | none => exact hn hp'
    | some r => exact hp _ _ hp'
  have := h.leafs (f := fun x => x) (p' := p') (id' := id) (fun _ _ => rfl) (fun _ h => h) (fun _ _ _ => rfl) hid fun v x hx hc => hc.mono (fun _ _ => rfl) (fun _ h => h) hp
  rwa [Obj.leafs_self _ fun _ _ => rfl] at this

end

end Go.Proofs.YtangkndckghblaaDoor.Abs
