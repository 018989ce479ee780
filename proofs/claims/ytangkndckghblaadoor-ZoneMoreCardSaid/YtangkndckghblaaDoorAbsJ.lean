/- The runner's equations, for simp. -/
import Derived.Test.YtangkndckghblaaDoorAbsI
namespace Go.Proofs.YtangkndckghblaaDoor.Abs
set_option linter.unusedSimpArgs false
set_option linter.unusedVariables false
open Go Go.RowKit

/-- A condition, its value reckoned. -/
def condW (P : Program) (GT : Ctx) (Q : Exit → St → Prop) (n : Nat) (c : Operand) (a b : Code) (k : List Item) (s : St) : AV → Prop
  | .raw (.bool t) => (t = true → W P GT Q n (.code (.code a :: k)) (s.know c true)) ∧ (t = false → W P GT Q n (.code (.code b :: k)) (s.know c false))
  | _ => False
/-- The way after an exit. -/
def exitW (P : Program) (GT : Ctx) (Q : Exit → St → Prop) (n id : Nat) (s : St) : Option (List Item) → Prop
  | some k' => W P GT Q n (.code k') s
  | none => Q (.exit id) s
/-- An operation with a guard, the guard's value reckoned. -/
def guardW (P : Program) (GT : Ctx) (Q : Exit → St → Prop) (n : Nat) (all : Array Oper) (i : Nat) (o : Oper) (rest : List Oper) (k : List Item) (s : St) (t : Nat) (want : Bool) : AV → Prop
  | .raw (.bool b) => (b = want → Exec P GT true (s.know (.tmp t) want) o (W P GT Q n (.ops all i rest k))) ∧ (b = (!want) → W P GT Q n (.ops all i rest k) ((s.know (.tmp t) (!want)).put o.dst (.raw undef)))
  | .raw (.tuple _) => W P GT Q n (.ops all i rest k) (s.put o.dst (.raw undef))
  | _ => False
def guardAt (P : Program) (GT : Ctx) (Q : Exit → St → Prop) (n : Nat) (all : Array Oper) (i : Nat) (o : Oper) (rest : List Oper) (k : List Item) (s : St) (want : Bool) : Option Nat → Prop
  | some t => guardW P GT Q n all i o rest k s t want (s.slots.getD t .top)
  | none => False
/-- An operation, reckoned. -/
def resW (K : St → Prop) (d : Option Tmp) : Option Res → Prop
  | some r => r.need ∧ K (r.st.put d r.val)
  | none => False
/-- The same behind what has to be handed over first. -/
def resF (P : Program) (GT : Ctx) (s : St) (op : Op) (K : St → Prop) (d : Option Tmp) (T : List Nat) : Prop := resW K d (evalOp P GT (s.frz T) op)
/-- Whether a slice is nil, reckoned. -/
def nilW (P : Program) (GT : Ctx) (s : St) (op : Op) (d : Option Tmp) (K : St → Prop) : Option (Prop × Bool) → Prop
  | some (c, neg) => ∀ b : Bool, (b = true → c) → K (s.put d (.raw (.bool (b ^^ neg))))
  | none => resF P GT s op K d (needFrz GT s op)
def execW (P : Program) (GT : Ctx) (m : Bool) (s : St) (op : Op) (d : Option Tmp) (K : St → Prop) : Option (FuncId × List AV) → Prop
  | some (f, args) => CallA P GT m s f args d K
  | none => nilW P GT s op d K (nilOf P GT s op)
/-- The runner behind an operation. -/
def Wk (P : Program) (GT : Ctx) (Q : Exit → St → Prop) (n : Nat) (all : Array Oper) (i : Nat) (rest : List Oper) (k : List Item) (s : St) : Prop := W P GT Q n (.ops all i rest k) s

/-- The runner behind a step of a plan. -/
def Wp (P : Program) (GT : Ctx) (Q : Exit → St → Prop) (n : Nat) (all : Array Oper) (M : List Nat) (p : Plan) (k : List Item) (s : St) : Prop := W P GT Q n (.plan all M p k) s
def stepGuard (P : Program) (GT : Ctx) (m : Bool) (o : Oper) (s : St) (K : St → Prop) (t : Nat) (want : Bool) : AV → Prop
  | .raw (.bool b) => (b = want → Exec P GT m (s.know (.tmp t) want) o K) ∧ (b = (!want) → K ((s.know (.tmp t) (!want)).put o.dst (.raw undef)))
  | .raw (.tuple _) => K (s.put o.dst (.raw undef))
  | _ => False
def stepSlot (P : Program) (GT : Ctx) (m : Bool) (o : Oper) (s : St) (K : St → Prop) (want : Bool) : Option Nat → Prop
  | some t => stepGuard P GT m o s K t want (s.slots.getD t .top)
  | none => False

/-- A slot. -/
def sget : List AV → Nat → AV
  | [], _ => .top
  | a :: _, 0 => a
  | _ :: l, n + 1 => sget l n
theorem sget_eq : ∀ (l : List AV) (n : Nat), l.getD n .top = sget l n
  | [], _ => rfl
  | _ :: _, 0 => rfl
  | _ :: l, n + 1 => sget_eq l n
@[go_sem] theorem sget_nil {n : Nat} : sget [] n = .top := rfl
@[go_sem] theorem sget_zero {a : AV} {l : List AV} : sget (a :: l) 0 = a := rfl
@[go_sem] theorem sget_one {a : AV} {l : List AV} {n : Nat} : sget (a :: l) (n + 1) = sget l n := rfl
@[go_sem high] theorem sget_eight {a b c d e f g h : AV} {l : List AV} {n : Nat} : sget (a :: b :: c :: d :: e :: f :: g :: h :: l) (n + 8) = sget l n := rfl
/-- A slot is written. -/
def sset : List AV → Nat → AV → List AV
  | [], _, _ => []
  | _ :: l, 0, v => v :: l
  | a :: l, n + 1, v => a :: sset l n v
theorem sset_eq : ∀ (l : List AV) (n : Nat) (v : AV), l.set n v = sset l n v
  | [], _, _ => rfl
  | _ :: _, 0, _ => rfl
  | a :: l, n + 1, v => congrArg (a :: ·) (sset_eq l n v)
@[go_sem] theorem sset_nil {n : Nat} {v : AV} : sset [] n v = [] := rfl
@[go_sem] theorem sset_zero {a v : AV} {l : List AV} : sset (a :: l) 0 v = v :: l := rfl
@[go_sem] theorem sset_one {a v : AV} {l : List AV} {n : Nat} : sset (a :: l) (n + 1) v = a :: sset l n v := rfl
@[go_sem high] theorem sset_eight {a b c d e f g h v : AV} {l : List AV} {n : Nat} : sset (a :: b :: c :: d :: e :: f :: g :: h :: l) (n + 8) v = a :: b :: c :: d :: e :: f :: g :: h :: sset l n v := rfl
/-- An object. -/
def oget : List Obj → Nat → Obj
  | [], _ => .dead
  | a :: _, 0 => a
  | _ :: l, n + 1 => oget l n
theorem oget_eq : ∀ (l : List Obj) (n : Nat), l.getD n .dead = oget l n
  | [], _ => rfl
  | _ :: _, 0 => rfl
  | _ :: l, n + 1 => oget_eq l n
@[go_sem] theorem oget_nil {n : Nat} : oget [] n = .dead := rfl
@[go_sem] theorem oget_zero {a : Obj} {l : List Obj} : oget (a :: l) 0 = a := rfl
@[go_sem] theorem oget_one {a : Obj} {l : List Obj} {n : Nat} : oget (a :: l) (n + 1) = oget l n := rfl

section
variable {P : Program} {GT : Ctx} {s : St} {k : List Item} {Q : Exit → St → Prop} {n : Nat} {all : Array Oper} {i : Nat} {rest : List Oper}

@[go_sem] theorem W_nil : W P GT Q (n + 1) (.code []) s = Q .normal s := rfl
@[go_sem] theorem W_inBlock {id : Nat} : W P GT Q (n + 1) (.code (.inBlock id :: k)) s = W P GT Q n (.code k) s := rfl
@[go_sem] theorem W_skip : W P GT Q (n + 1) (.code (.code .skip :: k)) s = W P GT Q n (.code k) s := rfl
@[go_sem] theorem W_label {l : Nat} : W P GT Q (n + 1) (.code (.code (.label l) :: k)) s = W P GT Q n (.code k) s := rfl
@[go_sem] theorem W_seq {a b : Code} : W P GT Q (n + 1) (.code (.code (.seq a b) :: k)) s = W P GT Q n (.code (.code a :: .code b :: k)) s := rfl
@[go_sem] theorem W_block {id : Nat} {c : Code} : W P GT Q (n + 1) (.code (.code (.block id c) :: k)) s = W P GT Q n (.code (.code c :: .inBlock id :: k)) s := rfl
@[go_sem] theorem W_ret : W P GT Q (n + 1) (.code (.code .ret :: k)) s = Q .ret s := rfl
@[go_sem] theorem W_loop {c : Code} : W P GT Q (n + 1) (.code (.code (.loop c) :: k)) s = J P GT (.code (.loop c) :: k) s Q := rfl
@[go_sem] theorem W_scope {c : Code} : W P GT Q (n + 1) (.code (.code (.scope c) :: k)) s = J P GT (.code (.scope c) :: k) s Q := rfl
@[go_sem] theorem W_goto {l : Nat} : W P GT Q (n + 1) (.code (.code (.goto l) :: k)) s = J P GT (.code (.goto l) :: k) s Q := rfl
@[go_sem] theorem W_inScope {c : Code} : W P GT Q (n + 1) (.code (.inScope c :: k)) s = J P GT (.inScope c :: k) s Q := rfl
/-- A region: run unless its operations have guards. -/
def regW (P : Program) (GT : Ctx) (Q : Exit → St → Prop) (n id : Nat) (ops : List Oper) (k : List Item) (s : St) : Bool → Prop
  | true => J P GT (.code (.region id ops.toArray false) :: k) s Q
  | false => W P GT Q n (.ops ops.toArray 0 ops k) s
@[go_sem] theorem W_region {id : Nat} {ops : List Oper} : W P GT Q (n + 1) (.code (.code (.region id ops.toArray false) :: k)) s = regW P GT Q n id ops k s (hasGuard ops) := by
  show (if hasGuard ops = true then _ else _) = _
  cases hasGuard ops <;> rfl
@[go_sem] theorem regW_true {id : Nat} {ops : List Oper} : regW P GT Q n id ops k s true = J P GT (.code (.region id ops.toArray false) :: k) s Q := rfl
@[go_sem] theorem regW_false {id : Nat} {ops : List Oper} : regW P GT Q n id ops k s false = W P GT Q n (.ops ops.toArray 0 ops k) s := rfl
@[go_sem] theorem hasGuard_nil : hasGuard [] = false := rfl
@[go_sem] theorem hasGuard_none {dst : Option Tmp} {op : Op} {ty : TypeId} {pos : String} {after : Array Edge} {l : List Oper} : hasGuard (⟨dst, op, ty, pos, after, none⟩ :: l) = hasGuard l := rfl
@[go_sem] theorem hasGuard_some {dst : Option Tmp} {op : Op} {ty : TypeId} {pos : String} {after : Array Edge} {l : List Oper} {g : Nat × Bool} : hasGuard (⟨dst, op, ty, pos, after, some g⟩ :: l) = true := rfl
@[go_sem] theorem W_draw {id : Nat} {ops : Array Oper} : W P GT Q (n + 1) (.code (.code (.region id ops true) :: k)) s = J P GT (.code (.region id ops true) :: k) s Q := rfl
@[go_sem] theorem W_ops_nil : W P GT Q (n + 1) (.ops all i [] k) s = W P GT Q n (.code k) s := rfl
@[go_sem] theorem W_done {M : List Nat} : W P GT Q (n + 1) (.plan all M .done k) s = W P GT Q n (.code k) s := rfl
@[go_sem] theorem W_take {M : List Nat} {j : Nat} {p : Plan} : W P GT Q (n + 1) (.plan all M (.take j p) k) s = StepAt P GT all (M.contains j) s (Wp P GT Q n all M p k) all[j]? := rfl
@[go_sem] theorem W_fork {M : List Nat} {j : Nat} {p r : Plan} : W P GT Q (n + 1) (.plan all M (.fork j p r) k) s = (StepAt P GT all (M.contains j) s (Wp P GT Q n all M p k) all[j]? ∧ W P GT Q n (.plan all M r k) s) := rfl
@[go_sem] theorem W_none {M : List Nat} : W P GT Q (n + 1) (.plan all M .none k) s = True := rfl
@[go_sem] theorem Wp_eq {M : List Nat} {p : Plan} : Wp P GT Q n all M p k s = W P GT Q n (.plan all M p k) s := rfl
@[go_sem] theorem oper_at {l : List Oper} {j : Nat} : l.toArray[j]? = l[j]? := by simp
/-- The same, looked for in what is to come. -/
def exitC (P : Program) (GT : Ctx) (Q : Exit → St → Prop) (n id : Nat) (k : List Item) (s : St) : Prop := exitW P GT Q n id s (exitTo id k)
@[go_sem] theorem W_exit {id : Nat} : W P GT Q (n + 1) (.code (.code (.exit id) :: k)) s = exitC P GT Q n id k s := by
  unfold W exitC exitW; rfl
@[go_sem] theorem exitC_nil {id : Nat} : exitC P GT Q n id [] s = Q (.exit id) s := rfl
@[go_sem] theorem exitC_in {id id' : Nat} : exitC P GT Q n id (.inBlock id' :: k) s = if id' = id then W P GT Q n (.code k) s else exitC P GT Q n id k s := by
  simp only [exitC, exitTo, beq_iff_eq]; split <;> rfl
@[go_sem] theorem exitC_code {id : Nat} {c : Code} : exitC P GT Q n id (.code c :: k) s = exitC P GT Q n id k s := rfl
@[go_sem] theorem exitC_loop {id : Nat} {c : Code} : exitC P GT Q n id (.inLoop c :: k) s = exitC P GT Q n id k s := rfl
@[go_sem] theorem exitC_scope {id : Nat} {c : Code} : exitC P GT Q n id (.inScope c :: k) s = exitC P GT Q n id k s := rfl
@[go_sem] theorem exitW_some {id : Nat} {k' : List Item} : exitW P GT Q n id s (some k') = W P GT Q n (.code k') s := rfl
@[go_sem] theorem exitW_none {id : Nat} : exitW P GT Q n id s none = Q (.exit id) s := rfl
@[go_sem] theorem exitTo_nil {id : Nat} : exitTo id [] = none := rfl
@[go_sem] theorem exitTo_in {id id' : Nat} : exitTo id (.inBlock id' :: k) = if id' = id then some k else exitTo id k := by
  simp only [exitTo, beq_iff_eq]
@[go_sem] theorem exitTo_code {id : Nat} {c : Code} : exitTo id (.code c :: k) = exitTo id k := rfl
@[go_sem] theorem W_cond {c : Operand} {a b : Code} : W P GT Q (n + 1) (.code (.code (.cond c a b) :: k)) s = condW P GT Q n c a b k s (ev GT s c) := by
  unfold W condW; rfl
theorem set_getD {α : Type} {l : List α} {t : Nat} {d x : α} (h : l.getD t d = x) (hne : t < l.length) : l.set t x = l := by
  subst h
  apply List.ext_getElem?
  intro i
  rw [List.getElem?_set]
  split
  · rename_i h; subst h; simp [hne, List.getD_eq_getElem?_getD]
  · rfl
theorem condW_by {c : Operand} {a b : Code} {t : Bool} (h1 : t = true → W P GT Q n (.code (.code a :: k)) (s.know c true)) (h2 : t = false → W P GT Q n (.code (.code b :: k)) (s.know c false)) : condW P GT Q n c a b k s (.raw (.bool t)) := ⟨h1, h2⟩
@[go_sem] theorem condW_true {c : Operand} {a b : Code} : condW P GT Q n c a b k s (.raw (.bool true)) = W P GT Q n (.code (.code a :: k)) (s.know c true) := by
  simp [condW]
@[go_sem] theorem condW_false {c : Operand} {a b : Code} : condW P GT Q n c a b k s (.raw (.bool false)) = W P GT Q n (.code (.code b :: k)) (s.know c false) := by
  simp [condW]
@[go_sem] theorem W_op {dst : Option Tmp} {op : Op} {ty : TypeId} {pos : String} {after : Array Edge} : W P GT Q (n + 1) (.ops all i (⟨dst, op, ty, pos, after, none⟩ :: rest) k) s = execW P GT true s op dst (Wk P GT Q n all (i + 1) rest k) (callOf GT s op) := by
  unfold W Exec execW nilW resF resW; rfl
@[go_sem] theorem W_opg {dst : Option Tmp} {op : Op} {ty : TypeId} {pos : String} {after : Array Edge} {j : Nat} {want : Bool} : W P GT Q (n + 1) (.ops all i (⟨dst, op, ty, pos, after, some (j, want)⟩ :: rest) k) s = guardAt P GT Q n all (i + 1) ⟨dst, op, ty, pos, after, some (j, want)⟩ rest k s want (guardSlot all j) := by
  unfold W guardAt guardW; rfl
@[go_sem] theorem step_op {m : Bool} {K : St → Prop} {dst : Option Tmp} {op : Op} {ty : TypeId} {pos : String} {after : Array Edge} : StepAt P GT all m s K (some ⟨dst, op, ty, pos, after, none⟩) = execW P GT m s op dst K (callOf GT s op) := by
  unfold StepAt Exec execW nilW resF resW; rfl
@[go_sem] theorem step_opg {m : Bool} {K : St → Prop} {dst : Option Tmp} {op : Op} {ty : TypeId} {pos : String} {after : Array Edge} {j : Nat} {want : Bool} : StepAt P GT all m s K (some ⟨dst, op, ty, pos, after, some (j, want)⟩) = stepSlot P GT m ⟨dst, op, ty, pos, after, some (j, want)⟩ s K want (guardSlot all j) := by
  unfold StepAt stepSlot stepGuard; rfl
@[go_sem] theorem stepSlot_some {m : Bool} {o : Oper} {K : St → Prop} {want : Bool} {t : Nat} {sl : List AV} {os : List Obj} : stepSlot P GT m o ⟨sl, os⟩ K want (some t) = stepGuard P GT m o ⟨sl, os⟩ K t want (sget sl t) := by
  rw [← sget_eq]; rfl
theorem stepGuard_same {m : Bool} {K : St → Prop} {dst : Option Tmp} {op : Op} {ty : TypeId} {pos : String} {after : Array Edge} {j : Nat} {t : Nat} {want b : Bool} (h : b = want) : stepGuard P GT m ⟨dst, op, ty, pos, after, some (j, want)⟩ s K t want (.raw (.bool b)) = execW P GT m (s.know (.tmp t) want) op dst K (callOf GT (s.know (.tmp t) want) op) := by
  subst h
  simp only [stepGuard, Exec, execW, nilW, resF, resW]
  cases b <;> simp <;> (cases callOf GT _ op <;> rfl)
theorem stepGuard_other {m : Bool} {K : St → Prop} {o : Oper} {t : Nat} {want b : Bool} (h : b = !want) : stepGuard P GT m o s K t want (.raw (.bool b)) = K ((s.know (.tmp t) (!want)).put o.dst (.raw undef)) := by
  subst h
  simp only [stepGuard]
  cases want <;> simp
theorem stepGuard_by {m : Bool} {K : St → Prop} {o : Oper} {t : Nat} {want b : Bool} (h1 : b = want → stepGuard P GT m o (s.know (.tmp t) want) K t want (.raw (.bool want))) (h2 : b = (!want) → K ((s.know (.tmp t) (!want)).put o.dst (.raw undef))) : stepGuard P GT m o s K t want (.raw (.bool b)) := by
  refine ⟨fun h => ?_, h2⟩
  have := (h1 h).1 rfl
  have hk : (s.know (.tmp t) want).know (.tmp t) want = s.know (.tmp t) want := by simp [St.know]
  rw [hk] at this
  exact this
@[go_sem] theorem guardSlot_eq {l : List Oper} {j : Nat} : guardSlot l.toArray j = (l[j]?).bind (·.dst) := by simp [guardSlot]
@[go_sem] theorem guardAt_some {o : Oper} {want : Bool} {t : Nat} {sl : List AV} {os : List Obj} : guardAt P GT Q n all i o rest k ⟨sl, os⟩ want (some t) = guardW P GT Q n all i o rest k ⟨sl, os⟩ t want (sget sl t) := by
  rw [← sget_eq]; rfl
theorem guardW_same {dst : Option Tmp} {op : Op} {ty : TypeId} {pos : String} {after : Array Edge} {j : Nat} {t : Nat} {want b : Bool} (h : b = want) : guardW P GT Q n all i ⟨dst, op, ty, pos, after, some (j, want)⟩ rest k s t want (.raw (.bool b)) = execW P GT true (s.know (.tmp t) want) op dst (Wk P GT Q n all i rest k) (callOf GT (s.know (.tmp t) want) op) := by
  subst h
  simp only [guardW, Exec, execW, nilW, resF, resW]
  cases b <;> simp <;> (cases callOf GT _ op <;> rfl)
theorem guardW_other {o : Oper} {t : Nat} {want b : Bool} (h : b = !want) : guardW P GT Q n all i o rest k s t want (.raw (.bool b)) = W P GT Q n (.ops all i rest k) ((s.know (.tmp t) (!want)).put o.dst (.raw undef)) := by
  subst h
  simp only [guardW]
  cases want <;> simp
theorem guardW_by {o : Oper} {t : Nat} {want b : Bool} (h1 : b = want → guardW P GT Q n all i o rest k (s.know (.tmp t) want) t want (.raw (.bool want))) (h2 : b = (!want) → W P GT Q n (.ops all i rest k) ((s.know (.tmp t) (!want)).put o.dst (.raw undef))) : guardW P GT Q n all i o rest k s t want (.raw (.bool b)) := by
  refine ⟨fun h => ?_, h2⟩
  have := (h1 h).1 rfl
  have hk : (s.know (.tmp t) want).know (.tmp t) want = s.know (.tmp t) want := by simp [St.know]
  rw [hk] at this
  exact this
@[go_sem] theorem stepGuard_true {m : Bool} {K : St → Prop} {dst : Option Tmp} {op : Op} {ty : TypeId} {pos : String} {after : Array Edge} {j : Nat} {t : Nat} : stepGuard P GT m ⟨dst, op, ty, pos, after, some (j, true)⟩ s K t true (.raw (.bool true)) = execW P GT m (s.know (.tmp t) true) op dst K (callOf GT (s.know (.tmp t) true) op) := stepGuard_same rfl
@[go_sem] theorem stepGuard_not_true {m : Bool} {K : St → Prop} {o : Oper} {t : Nat} : stepGuard P GT m o s K t true (.raw (.bool false)) = K ((s.know (.tmp t) false).put o.dst (.raw undef)) := stepGuard_other (want := true) rfl
@[go_sem] theorem guardW_true {dst : Option Tmp} {op : Op} {ty : TypeId} {pos : String} {after : Array Edge} {j : Nat} {t : Nat} : guardW P GT Q n all i ⟨dst, op, ty, pos, after, some (j, true)⟩ rest k s t true (.raw (.bool true)) = execW P GT true (s.know (.tmp t) true) op dst (Wk P GT Q n all i rest k) (callOf GT (s.know (.tmp t) true) op) := guardW_same rfl
@[go_sem] theorem guardW_not_true {o : Oper} {t : Nat} : guardW P GT Q n all i o rest k s t true (.raw (.bool false)) = W P GT Q n (.ops all i rest k) ((s.know (.tmp t) false).put o.dst (.raw undef)) := guardW_other (want := true) rfl
@[go_sem] theorem stepGuard_false {m : Bool} {K : St → Prop} {dst : Option Tmp} {op : Op} {ty : TypeId} {pos : String} {after : Array Edge} {j : Nat} {t : Nat} : stepGuard P GT m ⟨dst, op, ty, pos, after, some (j, false)⟩ s K t false (.raw (.bool false)) = execW P GT m (s.know (.tmp t) false) op dst K (callOf GT (s.know (.tmp t) false) op) := stepGuard_same rfl
@[go_sem] theorem stepGuard_not_false {m : Bool} {K : St → Prop} {o : Oper} {t : Nat} : stepGuard P GT m o s K t false (.raw (.bool true)) = K ((s.know (.tmp t) true).put o.dst (.raw undef)) := stepGuard_other (want := false) rfl
@[go_sem] theorem guardW_false {dst : Option Tmp} {op : Op} {ty : TypeId} {pos : String} {after : Array Edge} {j : Nat} {t : Nat} : guardW P GT Q n all i ⟨dst, op, ty, pos, after, some (j, false)⟩ rest k s t false (.raw (.bool false)) = execW P GT true (s.know (.tmp t) false) op dst (Wk P GT Q n all i rest k) (callOf GT (s.know (.tmp t) false) op) := guardW_same rfl
@[go_sem] theorem guardW_not_false {o : Oper} {t : Nat} : guardW P GT Q n all i o rest k s t false (.raw (.bool true)) = W P GT Q n (.ops all i rest k) ((s.know (.tmp t) true).put o.dst (.raw undef)) := guardW_other (want := false) rfl
@[go_sem] theorem stepGuard_undef {m : Bool} {K : St → Prop} {o : Oper} {t : Nat} {want : Bool} : stepGuard P GT m o s K t want (.raw undef) = K (s.put o.dst (.raw undef)) := rfl
@[go_sem] theorem guardW_undef {o : Oper} {t : Nat} {want : Bool} : guardW P GT Q n all i o rest k s t want (.raw undef) = W P GT Q n (.ops all i rest k) (s.put o.dst (.raw undef)) := rfl
/- The same where what is asked is decided by a proposition. -/
theorem condW_dec {c : Operand} {a b : Code} {t : Prop} {_ : Decidable t} (h1 : t → W P GT Q n (.code (.code a :: k)) (s.know c true)) (h2 : ¬ t → W P GT Q n (.code (.code b :: k)) (s.know c false)) : condW P GT Q n c a b k s (.raw (.bool (decide t))) :=
  condW_by (fun h => h1 (of_decide_eq_true h)) fun h => h2 (of_decide_eq_false h)
theorem condW_ndec {c : Operand} {a b : Code} {t : Prop} {_ : Decidable t} (h1 : ¬ t → W P GT Q n (.code (.code a :: k)) (s.know c true)) (h2 : t → W P GT Q n (.code (.code b :: k)) (s.know c false)) : condW P GT Q n c a b k s (.raw (.bool (!decide t))) :=
  condW_by (fun h => h1 (by simpa using h)) fun h => h2 (by simpa using h)
theorem guardW_dect {o : Oper} {t : Nat} {b : Prop} {_ : Decidable b} (h1 : b → guardW P GT Q n all i o rest k (s.know (.tmp t) true) t true (.raw (.bool true))) (h2 : ¬ b → W P GT Q n (.ops all i rest k) ((s.know (.tmp t) false).put o.dst (.raw undef))) : guardW P GT Q n all i o rest k s t true (.raw (.bool (decide b))) :=
  guardW_by (fun h => h1 (of_decide_eq_true h)) fun h => h2 (of_decide_eq_false h)
theorem guardW_decf {o : Oper} {t : Nat} {b : Prop} {_ : Decidable b} (h1 : ¬ b → guardW P GT Q n all i o rest k (s.know (.tmp t) false) t false (.raw (.bool false))) (h2 : b → W P GT Q n (.ops all i rest k) ((s.know (.tmp t) true).put o.dst (.raw undef))) : guardW P GT Q n all i o rest k s t false (.raw (.bool (decide b))) :=
  guardW_by (fun h => h1 (of_decide_eq_false h)) fun h => h2 (of_decide_eq_true h)
theorem guardW_ndect {o : Oper} {t : Nat} {b : Prop} {_ : Decidable b} (h1 : ¬ b → guardW P GT Q n all i o rest k (s.know (.tmp t) true) t true (.raw (.bool true))) (h2 : b → W P GT Q n (.ops all i rest k) ((s.know (.tmp t) false).put o.dst (.raw undef))) : guardW P GT Q n all i o rest k s t true (.raw (.bool (!decide b))) :=
  guardW_by (fun h => h1 (by simpa using h)) fun h => h2 (by simpa using h)
theorem guardW_ndecf {o : Oper} {t : Nat} {b : Prop} {_ : Decidable b} (h1 : b → guardW P GT Q n all i o rest k (s.know (.tmp t) false) t false (.raw (.bool false))) (h2 : ¬ b → W P GT Q n (.ops all i rest k) ((s.know (.tmp t) true).put o.dst (.raw undef))) : guardW P GT Q n all i o rest k s t false (.raw (.bool (!decide b))) :=
  guardW_by (fun h => h1 (by simpa using h)) fun h => h2 (by simpa using h)
theorem stepGuard_dect {m : Bool} {K : St → Prop} {o : Oper} {t : Nat} {b : Prop} {_ : Decidable b} (h1 : b → stepGuard P GT m o (s.know (.tmp t) true) K t true (.raw (.bool true))) (h2 : ¬ b → K ((s.know (.tmp t) false).put o.dst (.raw undef))) : stepGuard P GT m o s K t true (.raw (.bool (decide b))) :=
  stepGuard_by (fun h => h1 (of_decide_eq_true h)) fun h => h2 (of_decide_eq_false h)
theorem stepGuard_decf {m : Bool} {K : St → Prop} {o : Oper} {t : Nat} {b : Prop} {_ : Decidable b} (h1 : ¬ b → stepGuard P GT m o (s.know (.tmp t) false) K t false (.raw (.bool false))) (h2 : b → K ((s.know (.tmp t) true).put o.dst (.raw undef))) : stepGuard P GT m o s K t false (.raw (.bool (decide b))) :=
  stepGuard_by (fun h => h1 (of_decide_eq_false h)) fun h => h2 (of_decide_eq_true h)
theorem stepGuard_ndect {m : Bool} {K : St → Prop} {o : Oper} {t : Nat} {b : Prop} {_ : Decidable b} (h1 : ¬ b → stepGuard P GT m o (s.know (.tmp t) true) K t true (.raw (.bool true))) (h2 : b → K ((s.know (.tmp t) false).put o.dst (.raw undef))) : stepGuard P GT m o s K t true (.raw (.bool (!decide b))) :=
  stepGuard_by (fun h => h1 (by simpa using h)) fun h => h2 (by simpa using h)
theorem stepGuard_ndecf {m : Bool} {K : St → Prop} {o : Oper} {t : Nat} {b : Prop} {_ : Decidable b} (h1 : b → stepGuard P GT m o (s.know (.tmp t) false) K t false (.raw (.bool false))) (h2 : ¬ b → K ((s.know (.tmp t) true).put o.dst (.raw undef))) : stepGuard P GT m o s K t false (.raw (.bool (!decide b))) :=
  stepGuard_by (fun h => h1 (by simpa using h)) fun h => h2 (by simpa using h)
@[go_sem] theorem execW_some {m : Bool} {op : Op} {d : Option Tmp} {K : St → Prop} {f : FuncId} {args : List AV} : execW P GT m s op d K (some (f, args)) = CallA P GT m s f args d K := rfl
@[go_sem] theorem execW_none {m : Bool} {op : Op} {d : Option Tmp} {K : St → Prop} : execW P GT m s op d K none = nilW P GT s op d K (nilOf P GT s op) := rfl
@[go_sem] theorem nilW_none {op : Op} {d : Option Tmp} {K : St → Prop} : nilW P GT s op d K none = resF P GT s op K d (needFrz GT s op) := rfl
@[go_sem] theorem resF_nil {op : Op} {d : Option Tmp} {K : St → Prop} : resF P GT s op K d [] = resW K d (evalOp P GT s op) := by rw [resF, St.frz_nil]
@[go_sem] theorem resF_cons {op : Op} {d : Option Tmp} {K : St → Prop} {i : Nat} {T : List Nat} : resF P GT s op K d (i :: T) = resW K d (evalOp P GT (s.frz (i :: T)) op) := rfl
@[go_sem] theorem nilW_some {op : Op} {d : Option Tmp} {K : St → Prop} {c : Prop} {neg : Bool} : nilW P GT s op d K (some (c, neg)) = ∀ b : Bool, (b = true → c) → K (s.put d (.raw (.bool (b ^^ neg)))) := rfl
@[go_sem] theorem nilOf_binOp {op : BinOp} {E E' : TypeId} {x y : Operand} : nilOf P GT s (.binOp op E x y E') = nilCmp op (td P E) (ev GT s x) (ev GT s y) := rfl
@[go_sem] theorem needFrz_binOp {op : BinOp} {E E' : TypeId} {x y : Operand} : needFrz GT s (.binOp op E x y E') = [] := rfl
@[go_sem] theorem xor_false' {b : Bool} : (b ^^ false) = b := by cases b <;> rfl
@[go_sem] theorem xor_true' {b : Bool} : (b ^^ true) = !b := by cases b <;> rfl
@[go_sem] theorem resW_some {K : St → Prop} {d : Option Tmp} {need : Prop} {v : AV} {st : St} : resW K d (some ⟨need, v, st⟩) = (need ∧ K (st.put d v)) := rfl
@[go_sem high] theorem resW_true {K : St → Prop} {d : Option Tmp} {v : AV} {st : St} : resW K d (some ⟨True, v, st⟩) = K (st.put d v) := by simp [resW]
@[go_sem high] theorem resW_need {K : St → Prop} {d : Option Tmp} {need : Prop} {v : AV} {st : St} (h : need) : resW K d (some ⟨need, v, st⟩) = K (st.put d v) := by simp [resW, h]
@[go_sem] theorem Wk_eq : Wk P GT Q n all i rest k s = W P GT Q n (.ops all i rest k) s := rfl
@[go_sem] theorem put_some {sl : List AV} {os : List Obj} {d : Nat} {v : AV} : St.put ⟨sl, os⟩ (some d) v = ⟨sset sl d v, os⟩ := by rw [← sset_eq]; rfl
@[go_sem] theorem put_none {v : AV} : s.put none v = s := rfl
@[go_sem] theorem know_tmp {sl : List AV} {os : List Obj} {t : Nat} {b : Bool} : St.know ⟨sl, os⟩ (.tmp t) b = ⟨sset sl t (.raw (.bool b)), os⟩ := by rw [← sset_eq]; rfl
@[go_sem] theorem know_const {v : Value} {b : Bool} : St.know s (.const v) b = s := rfl
@[go_sem] theorem ev_tmp {sl : List AV} {os : List Obj} {t : Nat} : ev GT ⟨sl, os⟩ (.tmp t) = sget sl t := by rw [← sget_eq]; rfl
@[go_sem] theorem ev_const {v : Value} : ev GT s (.const v) = .raw v := rfl
@[go_sem] theorem ev_func {f : Nat} : ev GT s (.func f) = .clo (.func f) [] [] := rfl
@[go_sem] theorem ev_global {g : Nat} : ev GT s (.global g) = lookupG GT.tab g := rfl
@[go_sem] theorem obj_eq {sl : List AV} {os : List Obj} {id : Nat} : St.obj ⟨sl, os⟩ id = oget os id := by rw [← oget_eq]; rfl

@[go_sem] theorem callOf_func {f : Nat} {args : List Operand} {ts : Array TypeId} : callOf GT s (.call { callee := .value (.func f), args := args.toArray, argTypes := ts }) = some (f, args.map (ev GT s)) := by
  simp [callOf, ev]
def callClo (GT : Ctx) (s : St) (args : List Operand) : AV → Option (FuncId × List AV)
  | .clo (.func g) first captured => some (g, first ++ args.map (ev GT s) ++ captured)
  | _ => none
@[go_sem] theorem callOf_tmp {t : Nat} {args : List Operand} {ts : Array TypeId} : callOf GT s (.call { callee := .value (.tmp t), args := args.toArray, argTypes := ts }) = callClo GT s args (ev GT s (.tmp t)) := by
  simp only [callOf, callClo]; split <;> simp_all
@[go_sem] theorem callClo_some {g : Nat} {first captured : List AV} {args : List Operand} : callClo GT s args (.clo (.func g) first captured) = some (g, first ++ args.map (ev GT s) ++ captured) := rfl
@[go_sem] theorem callOf_builtin {b : Builtin} {args : Array Operand} {ts : Array TypeId} : callOf GT s (.call { callee := .builtin b, args := args, argTypes := ts }) = none := rfl
@[go_sem] theorem nilOf_builtin {b : Builtin} {args : Array Operand} {ts : Array TypeId} : nilOf P GT s (.call { callee := .builtin b, args := args, argTypes := ts }) = none := rfl
@[go_sem] theorem needFrz_builtin {b : Builtin} {args : Array Operand} {ts : Array TypeId} : needFrz GT s (.call { callee := .builtin b, args := args, argTypes := ts }) = [] := rfl
@[go_sem] theorem callOf_move {x : Operand} : callOf GT s (.move x) = none := rfl
@[go_sem] theorem nilOf_move {x : Operand} : nilOf P GT s (.move x) = none := rfl
@[go_sem] theorem needFrz_move {x : Operand} : needFrz GT s (.move x) = [] := rfl
@[go_sem] theorem callOf_assign {x : Operand} : callOf GT s (.assign x) = none := rfl
@[go_sem] theorem nilOf_assign {x : Operand} : nilOf P GT s (.assign x) = none := rfl
@[go_sem] theorem needFrz_assign {x : Operand} : needFrz GT s (.assign x) = [] := rfl
@[go_sem] theorem callOf_pick {x y z : Operand} : callOf GT s (.pick x y z) = none := rfl
@[go_sem] theorem nilOf_pick {x y z : Operand} : nilOf P GT s (.pick x y z) = none := rfl
@[go_sem] theorem needFrz_pick {x y z : Operand} : needFrz GT s (.pick x y z) = [] := rfl
@[go_sem] theorem callOf_alloc {E : TypeId} : callOf GT s (.alloc E) = none := rfl
@[go_sem] theorem nilOf_alloc {E : TypeId} : nilOf P GT s (.alloc E) = none := rfl
@[go_sem] theorem needFrz_alloc {E : TypeId} : needFrz GT s (.alloc E) = [] := rfl
@[go_sem] theorem callOf_box {E : TypeId} {x : Operand} : callOf GT s (.box E x) = none := rfl
@[go_sem] theorem nilOf_box {E : TypeId} {x : Operand} : nilOf P GT s (.box E x) = none := rfl
@[go_sem] theorem needFrz_box {E : TypeId} {x : Operand} : needFrz GT s (.box E x) = [] := rfl
@[go_sem] theorem callOf_build {E : TypeId} {x : Array (Nat × Operand)} : callOf GT s (.build E x) = none := rfl
@[go_sem] theorem nilOf_build {E : TypeId} {x : Array (Nat × Operand)} : nilOf P GT s (.build E x) = none := rfl
@[go_sem] theorem needFrz_build {E : TypeId} {x : Array (Nat × Operand)} : needFrz GT s (.build E x) = [] := rfl
@[go_sem] theorem callOf_buildSlice {E : TypeId} {m : Nat} {x : Array (Nat × Operand)} : callOf GT s (.buildSlice E m x) = none := rfl
@[go_sem] theorem nilOf_buildSlice {E : TypeId} {m : Nat} {x : Array (Nat × Operand)} : nilOf P GT s (.buildSlice E m x) = none := rfl
@[go_sem] theorem needFrz_buildSlice {E : TypeId} {m : Nat} {x : List (Nat × Operand)} : needFrz GT s (.buildSlice E m x.toArray) = (x.map fun x => s.reach 3 (ev GT s x.2).names).flatten := rfl
def storeFrz (s : St) (v : AV) : AV → List Nat
  | .eref .. => s.reach 3 v.names
  | _ => []
@[go_sem] theorem needFrz_store {E : TypeId} {x y : Operand} : needFrz GT s (.store E x y) = storeFrz s (ev GT s y) (ev GT s x) := by
  simp only [needFrz, storeFrz]; cases ev GT s x <;> rfl
@[go_sem] theorem storeFrz_ref {v : AV} {i o : Nat} : storeFrz s v (.ref i o) = [] := rfl
@[go_sem] theorem storeFrz_eref {v : AV} {i k j o : Nat} : storeFrz s v (.eref i k j o) = s.reach 3 v.names := rfl
@[go_sem] theorem callOf_load {E : TypeId} {x : Operand} : callOf GT s (.load E x) = none := rfl
@[go_sem] theorem nilOf_load {E : TypeId} {x : Operand} : nilOf P GT s (.load E x) = none := rfl
@[go_sem] theorem needFrz_load {E : TypeId} {x : Operand} : needFrz GT s (.load E x) = [] := rfl
@[go_sem] theorem callOf_store {E : TypeId} {x y : Operand} : callOf GT s (.store E x y) = none := rfl
@[go_sem] theorem nilOf_store {E : TypeId} {x y : Operand} : nilOf P GT s (.store E x y) = none := rfl
@[go_sem] theorem callOf_binOp {op : BinOp} {E E' : TypeId} {x y : Operand} : callOf GT s (.binOp op E x y E') = none := rfl
@[go_sem] theorem callOf_unOp {op : UnOp} {E : TypeId} {x : Operand} : callOf GT s (.unOp op E x) = none := rfl
@[go_sem] theorem nilOf_unOp {op : UnOp} {E : TypeId} {x : Operand} : nilOf P GT s (.unOp op E x) = none := rfl
@[go_sem] theorem needFrz_unOp {op : UnOp} {E : TypeId} {x : Operand} : needFrz GT s (.unOp op E x) = [] := rfl
@[go_sem] theorem callOf_convert {E E' : TypeId} {x : Operand} : callOf GT s (.convert E E' x) = none := rfl
@[go_sem] theorem nilOf_convert {E E' : TypeId} {x : Operand} : nilOf P GT s (.convert E E' x) = none := rfl
@[go_sem] theorem needFrz_convert {E E' : TypeId} {x : Operand} : needFrz GT s (.convert E E' x) = [] := rfl
@[go_sem] theorem callOf_makeFunc {fn : Fn} {x y : Array Operand} : callOf GT s (.makeFunc fn x y) = none := rfl
@[go_sem] theorem nilOf_makeFunc {fn : Fn} {x y : Array Operand} : nilOf P GT s (.makeFunc fn x y) = none := rfl
@[go_sem] theorem needFrz_makeFunc {fn : Fn} {x y : Array Operand} : needFrz GT s (.makeFunc fn x y) = [] := rfl
@[go_sem] theorem callOf_makeSlice {E : TypeId} {x y : Operand} : callOf GT s (.makeSlice E x y) = none := rfl
@[go_sem] theorem nilOf_makeSlice {E : TypeId} {x y : Operand} : nilOf P GT s (.makeSlice E x y) = none := rfl
@[go_sem] theorem needFrz_makeSlice {E : TypeId} {x y : Operand} : needFrz GT s (.makeSlice E x y) = [] := rfl
@[go_sem] theorem callOf_slice {E : TypeId} {x : Operand} {a b c : Option Operand} : callOf GT s (.slice E x a b c) = none := rfl
@[go_sem] theorem nilOf_slice {E : TypeId} {x : Operand} {a b c : Option Operand} : nilOf P GT s (.slice E x a b c) = none := rfl
@[go_sem] theorem needFrz_slice {E : TypeId} {x : Operand} {a b c : Option Operand} : needFrz GT s (.slice E x a b c) = [] := rfl
@[go_sem] theorem callOf_fieldAddr {E : TypeId} {x : Operand} {f : Nat} : callOf GT s (.fieldAddr E x f) = none := rfl
@[go_sem] theorem nilOf_fieldAddr {E : TypeId} {x : Operand} {f : Nat} : nilOf P GT s (.fieldAddr E x f) = none := rfl
@[go_sem] theorem needFrz_fieldAddr {E : TypeId} {x : Operand} {f : Nat} : needFrz GT s (.fieldAddr E x f) = [] := rfl
@[go_sem] theorem callOf_field {E : TypeId} {x : Operand} {f : Nat} : callOf GT s (.field E x f) = none := rfl
@[go_sem] theorem nilOf_field {E : TypeId} {x : Operand} {f : Nat} : nilOf P GT s (.field E x f) = none := rfl
@[go_sem] theorem needFrz_field {E : TypeId} {x : Operand} {f : Nat} : needFrz GT s (.field E x f) = [] := rfl
@[go_sem] theorem callOf_indexAddr {E : TypeId} {x y : Operand} : callOf GT s (.indexAddr E x y) = none := rfl
@[go_sem] theorem nilOf_indexAddr {E : TypeId} {x y : Operand} : nilOf P GT s (.indexAddr E x y) = none := rfl
@[go_sem] theorem needFrz_indexAddr {E : TypeId} {x y : Operand} : needFrz GT s (.indexAddr E x y) = [] := rfl
@[go_sem] theorem callOf_index {E : TypeId} {x y : Operand} : callOf GT s (.index E x y) = none := rfl
@[go_sem] theorem nilOf_index {E : TypeId} {x y : Operand} : nilOf P GT s (.index E x y) = none := rfl
@[go_sem] theorem needFrz_index {E : TypeId} {x y : Operand} : needFrz GT s (.index E x y) = [] := rfl
@[go_sem] theorem callOf_nilCheck {x : Operand} : callOf GT s (.nilCheck x) = none := rfl
@[go_sem] theorem nilOf_nilCheck {x : Operand} : nilOf P GT s (.nilCheck x) = none := rfl
@[go_sem] theorem needFrz_nilCheck {x : Operand} : needFrz GT s (.nilCheck x) = [] := rfl
@[go_sem] theorem callOf_lookup {T : TypeId} {x y : Operand} {b : Bool} : callOf GT s (.lookup T x y b) = none := rfl
@[go_sem] theorem nilOf_lookup {T : TypeId} {x y : Operand} {b : Bool} : nilOf P GT s (.lookup T x y b) = none := rfl
@[go_sem] theorem needFrz_lookup {T : TypeId} {x y : Operand} {b : Bool} : needFrz GT s (.lookup T x y b) = [] := rfl
@[go_sem] theorem callOf_makeMap {T : TypeId} {h : Option Operand} : callOf GT s (.makeMap T h) = none := rfl
@[go_sem] theorem nilOf_makeMap {T : TypeId} {h : Option Operand} : nilOf P GT s (.makeMap T h) = none := rfl
@[go_sem] theorem needFrz_makeMap {T : TypeId} {h : Option Operand} : needFrz GT s (.makeMap T h) = [] := rfl
@[go_sem] theorem callOf_mapUpdate {T : TypeId} {x y z : Operand} : callOf GT s (.mapUpdate T x y z) = none := rfl
@[go_sem] theorem nilOf_mapUpdate {T : TypeId} {x y z : Operand} : nilOf P GT s (.mapUpdate T x y z) = none := rfl
@[go_sem] theorem needFrz_mapUpdate {T : TypeId} {x y z : Operand} : needFrz GT s (.mapUpdate T x y z) = [] := rfl
@[go_sem] theorem callOf_insert {T : TypeId} {x y z : Operand} : callOf GT s (.insert T x y z) = none := rfl
@[go_sem] theorem nilOf_insert {T : TypeId} {x y z : Operand} : nilOf P GT s (.insert T x y z) = none := rfl
@[go_sem] theorem needFrz_insert {T : TypeId} {x y z : Operand} : needFrz GT s (.insert T x y z) = [] := rfl
@[go_sem] theorem callOf_mapEntry {T : TypeId} {x y : Operand} : callOf GT s (.mapEntry T x y) = none := rfl
@[go_sem] theorem nilOf_mapEntry {T : TypeId} {x y : Operand} : nilOf P GT s (.mapEntry T x y) = none := rfl
@[go_sem] theorem needFrz_mapEntry {T : TypeId} {x y : Operand} : needFrz GT s (.mapEntry T x y) = [] := rfl
@[go_sem] theorem callOf_entryStore {T : TypeId} {x y z : Operand} : callOf GT s (.entryStore T x y z) = none := rfl
@[go_sem] theorem nilOf_entryStore {T : TypeId} {x y z : Operand} : nilOf P GT s (.entryStore T x y z) = none := rfl
@[go_sem] theorem needFrz_entryStore {T : TypeId} {x y z : Operand} : needFrz GT s (.entryStore T x y z) = [] := rfl
@[go_sem] theorem callOf_extract {x : Operand} {f : Nat} : callOf GT s (.extract x f) = none := rfl
@[go_sem] theorem nilOf_extract {x : Operand} {f : Nat} : nilOf P GT s (.extract x f) = none := rfl
@[go_sem] theorem needFrz_extract {x : Operand} {f : Nat} : needFrz GT s (.extract x f) = [] := rfl

end

@[go_sem] theorem resVar_tmp {P : Program} {sl : List AV} {os : List Obj} {t : Nat} : resVar P ⟨sl, os⟩ (.tmp t) = some (sget sl t) := by rw [← sget_eq]; rfl
def resCell (_s : St) (d : Option TD) (L : Option (List AV)) : Option AV :=
  match d, L with
  | some d, some L => loadFrom d L
  | _, _ => none
@[go_sem] theorem resVar_cell {P : Program} {sl : List AV} {os : List Obj} {t : Nat} {T : TypeId} : resVar P ⟨sl, os⟩ (.cell t T) = resCell ⟨sl, os⟩ (td P T) (memAt ⟨sl, os⟩ (sget sl t)) := by rw [← sget_eq]; rfl
@[go_sem] theorem resCell_some {s : St} {d : TD} {L : List AV} : resCell s (some d) (some L) = loadFrom d L := rfl
@[go_sem] theorem decide_pos {p : Prop} [Decidable p] (h : p) : decide p = true := decide_eq_true h
@[go_sem] theorem decide_neg {p : Prop} [Decidable p] (h : ¬ p) : decide p = false := decide_eq_false h
@[go_sem] theorem wrap_in {x : Int} (h1 : -9223372036854775808 ≤ x) (h2 : x ≤ 9223372036854775807) : IntKind.i64.wrap x = x := by
  rw [IntKind.wrap_i64]; omega

attribute [go_sem] Bool.false_eq_true Bool.true_eq_false reduceIte List.map_cons List.map_nil List.cons_append List.nil_append List.append_nil List.length_cons List.length_nil List.take_succ_cons List.take_zero List.drop_succ_cons List.drop_zero List.take_nil List.drop_nil
  List.getElem?_cons_zero List.getElem?_cons_succ List.getElem?_nil Option.bind_some Option.bind_none Option.map_some Option.map_none List.replicate_succ List.replicate_zero List.flatten_cons List.flatten_nil List.head?_cons List.head?_nil
  true_and and_true false_and and_false if_true if_false not_true_eq_false not_false_eq_true ite_true ite_false cond_true cond_false Bool.not_true Bool.not_false Bool.and_true Bool.and_false Bool.true_and Bool.false_and
  List.contains_cons List.contains_nil List.mapIdx_cons List.mapIdx_nil List.all_cons List.all_nil List.filter_cons List.filter_nil List.idxOf_cons Int.toNat_natCast ne_eq Nat.add_zero Nat.zero_add List.size_toArray List.toList_toArray
attribute [go_sem] Nat.reduceMul Nat.reduceAdd Nat.reduceSub Nat.reduceLeDiff Nat.reduceGT Nat.reduceBEq Nat.reduceEqDiff Nat.reduceDiv Nat.reduceMod Int.reduceToNat Int.reduceLE Int.reduceLT Int.reduceAdd Int.reduceSub Int.reduceMul Int.reduceNeg Int.reduceEq Nat.zero_le and_self List.set_cons_zero List.set_cons_succ List.set_nil Bool.or_false Bool.false_or Bool.or_true Bool.true_or List.drop_zero
attribute [go_sem] evSlice3 nilCmp eqCells eqLeaf evalOp evBuiltin evPick evBox evAlloc evLoad evStore evFieldAddr evField evIndexAddr evIndex evBin evBinOp evUnOp evConvert evMakeFunc evExtract evBound evSlice evAppend evBuild evBuildSlice evMakeSlice evLen evMinMax newBox cellsOf memAt setAt moved partOf loadFrom splice srcOf zeroAV placesOf fillA chunks
attribute [go_sem] evNilCheck evLookup evMakeMap evMapUpdate evMapEntry evEntryStore mapAt keyKind keyOf mapTypes lookAV avOf
attribute [go_sem] evClear evConvBytes numsOf selfSrc Option.some_or Option.none_or Option.or_none
attribute [go_sem] AV.imm AV.immL AV.leafs AV.leafsL AV.ren AV.nameOf AV.withName AV.names AV.namesL AV.plain AV.plainL AV.shift AV.flat AV.flatL Obj.leafs Obj.kill Obj.isDead idxIn backName leftName St.adopt St.relay St.move St.back St.frz St.reach
  nodupB dedupB boxNames finish finK finF finOf resVars resOf Value.oneCell' Ret List.getD_cons_zero List.getD_cons_succ List.getD_nil List.range_zero List.range_succ List.mapIdx_cons List.mapIdx_nil List.isEmpty_cons List.isEmpty_nil

/- What is handed over, name by name. -/
def frzN (s : St) (T : List Nat) (n : Nat) (x : AV) : AV := frzLeaf s T (AV.frz s T n) x
def frzArr (k lo n : Nat) : Obj → AV
  | .arr k' xs => if k' = k then .lst k ((xs.drop lo).take n) else .top
  | _ => .top
def frzRow (k i off : Nat) : Obj → AV
  | .arr k' xs => if k' = k then .cptr ((xs.getD i []).drop off) else .top
  | _ => .top
def immPtr (l : List AV) : Bool → AV
  | true => .cptr l
  | false => .top
def frzBox (s : St) (T : List Nat) (n off : Nat) : Obj → AV
  | .box cs => immPtr ((cs.drop off).map (AV.frz s T n)) (AV.immL ((cs.drop off).map (AV.frz s T n)))
  | _ => .top
def frzIf (x y : AV) : Bool → AV
  | true => x
  | false => y
section
variable {s : St} {T : List Nat} {n : Nat}
@[go_sem] theorem frzIf_true {x y : AV} : frzIf x y true = x := rfl
@[go_sem] theorem frzIf_false {x y : AV} : frzIf x y false = y := rfl
@[go_sem] theorem immPtr_true {l : List AV} : immPtr l true = .cptr l := rfl
@[go_sem] theorem immPtr_false {l : List AV} : immPtr l false = .top := rfl
@[go_sem] theorem frzN_own {id k lo m : Nat} : frzN s T n (.own id k lo m) = frzIf (frzArr k lo m (s.obj id)) (.own id k lo m) (T.contains id) := by
  simp only [frzN, frzLeaf]
  cases T.contains id
  · rfl
  · simp only [if_true, frzIf]; cases s.obj id <;> rfl
@[go_sem] theorem frzN_eref {id k i o : Nat} : frzN s T n (.eref id k i o) = frzIf (frzRow k i o (s.obj id)) (.eref id k i o) (T.contains id) := by
  simp only [frzN, frzLeaf]
  cases T.contains id
  · rfl
  · simp only [if_true, frzIf]; cases s.obj id <;> rfl
@[go_sem] theorem frzN_ref {id o : Nat} : frzN s T n (.ref id o) = frzIf (frzBox s T n o (s.obj id)) (.ref id o) (T.contains id) := by
  simp only [frzN, frzLeaf]
  cases T.contains id
  · rfl
  · simp only [if_true, frzIf]
    cases s.obj id <;> try rfl
    rename_i cs
    simp only [frzBox]
    cases AV.immL ((cs.drop o).map (AV.frz s T n)) <;> rfl
@[go_sem] theorem frzN_mref {id : Nat} : frzN s T n (.mref id) = frzIf .top (.mref id) (T.contains id) := by
  simp only [frzN, frzLeaf]
  cases T.contains id <;> rfl
@[go_sem] theorem frzF_app {x : AV} : frzF s T x = frzN s T 2 x := rfl
@[go_sem] theorem frz_zero {x : AV} : AV.frz s T 0 x = x.leafs (frzLeaf s T fun _ => .top) := rfl
@[go_sem] theorem frz_succ {m : Nat} {x : AV} : AV.frz s T (m + 1) x = x.leafs (frzN s T m) := rfl
@[go_sem] theorem frz_two {x : AV} : AV.frz s T 2 x = x.leafs (frzN s T 1) := rfl
@[go_sem] theorem frz_one {x : AV} : AV.frz s T 1 x = x.leafs (frzN s T 0) := rfl
@[congr] theorem frzN_congr {x x' : AV} (h : x = x') : frzN s T n x = frzN s T n x' := by rw [h]
@[congr] theorem frzF_congr {x x' : AV} (h : x = x') : frzF s T x = frzF s T x' := by rw [h]
@[congr] theorem frz_congr {x x' : AV} (h : x = x') : AV.frz s T n x = AV.frz s T n x' := by rw [h]
@[congr] theorem frzBox_congr {o : Nat} {b b' : Obj} (h : b = b') : frzBox s T n o b = frzBox s T n o b' := by rw [h]
@[congr] theorem leafs_congr {f : AV → AV} {x x' : AV} (h : x = x') : x.leafs f = x'.leafs f := by rw [h]
@[congr] theorem leafsL_congr {f : AV → AV} {x x' : List AV} (h : x = x') : AV.leafsL f x = AV.leafsL f x' := by rw [h]
@[congr] theorem oleafs_congr {f : AV → AV} {x x' : Obj} (h : x = x') : x.leafs f = x'.leafs f := by rw [h]
end
attribute [go_sem] frzArr frzRow frzBox
/- What simp looks at: states and values, never the code that is still to come. -/
section
variable {P : Program} {GT : Ctx} {Q : Exit → St → Prop} {n : Nat}
@[congr] theorem W_congr {j : Job} {s s' : St} (h : s = s') : W P GT Q n j s = W P GT Q n j s' := by rw [h]
@[congr] theorem Wk_congr {all : Array Oper} {i : Nat} {rest : List Oper} {k : List Item} {s s' : St} (h : s = s') : Wk P GT Q n all i rest k s = Wk P GT Q n all i rest k s' := by rw [h]
@[congr] theorem Wp_congr {all : Array Oper} {M : List Nat} {p : Plan} {k : List Item} {s s' : St} (h : s = s') : Wp P GT Q n all M p k s = Wp P GT Q n all M p k s' := by rw [h]
@[congr] theorem condW_congr {c : Operand} {a b : Code} {k : List Item} {s s' : St} {v v' : AV} (h : s = s') (h' : v = v') : condW P GT Q n c a b k s v = condW P GT Q n c a b k s' v' := by rw [h, h']
@[congr] theorem guardW_congr {all : Array Oper} {i : Nat} {o : Oper} {rest : List Oper} {k : List Item} {s s' : St} {t : Nat} {want : Bool} {v v' : AV} (h : s = s') (h' : v = v') : guardW P GT Q n all i o rest k s t want v = guardW P GT Q n all i o rest k s' t want v' := by rw [h, h']
@[congr] theorem stepGuard_congr {m : Bool} {o : Oper} {s s' : St} {K : St → Prop} {t : Nat} {want : Bool} {v v' : AV} (h : s = s') (h' : v = v') : stepGuard P GT m o s K t want v = stepGuard P GT m o s' K t want v' := by rw [h, h']
@[congr] theorem resW_congr {K : St → Prop} {d : Option Tmp} {r r' : Option Res} (h : r = r') : resW K d r = resW K d r' := by rw [h]
@[congr] theorem execW_congr {m : Bool} {s s' : St} {op : Op} {d : Option Tmp} {K : St → Prop} {c c' : Option (FuncId × List AV)} (h : s = s') (h' : c = c') : execW P GT m s op d K c = execW P GT m s' op d K c' := by rw [h, h']
@[congr] theorem nilW_congr {s s' : St} {op : Op} {d : Option Tmp} {K : St → Prop} {c c' : Option (Prop × Bool)} (h : s = s') (h' : c = c') : nilW P GT s op d K c = nilW P GT s' op d K c' := by rw [h, h']
@[congr] theorem resF_congr {s s' : St} {op : Op} {K : St → Prop} {d : Option Tmp} {T T' : List Nat} (h : s = s') (h' : T = T') : resF P GT s op K d T = resF P GT s' op K d T' := by rw [h, h']
@[congr] theorem CallA_congr {m : Bool} {s s' : St} {f : FuncId} {args args' : List AV} {d : Option Tmp} {K : St → Prop} (h : s = s') (h' : args = args') : CallA P GT m s f args d K = CallA P GT m s' f args' d K := by rw [h, h']
@[congr] theorem exitC_congr {id : Nat} {k : List Item} {s s' : St} (h : s = s') : exitC P GT Q n id k s = exitC P GT Q n id k s' := by rw [h]
@[congr] theorem regW_congr {id : Nat} {ops : List Oper} {k : List Item} {s s' : St} {b b' : Bool} (h : s = s') (h' : b = b') : regW P GT Q n id ops k s b = regW P GT Q n id ops k s' b' := by rw [h, h']
@[congr] theorem hasGuard_congr {l : List Oper} : hasGuard l = hasGuard l := rfl
@[congr] theorem J_congr {k : List Item} {s s' : St} (h : s = s') : J P GT k s Q = J P GT k s' Q := by rw [h]
@[congr] theorem FinQ_congr {res : List ResultVar} {R : AV → List Obj → Prop} {e : Exit} {s s' : St} (h : s = s') : FinQ P GT res R e s = FinQ P GT res R e s' := by rw [h]
end

section
variable {P : Program} {GT : Ctx} {s : St} {R : AV → List Obj → Prop} {res : List ResultVar}
theorem FinQ.now (h : finOf R ((resOf P s res).bind (finish GT.given s))) : FinQ P GT res R .ret s := ⟨s, .refl _ _, h⟩
theorem FinQ.end (h : finOf R ((resOf P s res).bind (finish GT.given s))) : FinQ P GT res R .normal s := ⟨s, .refl _ _, h⟩
theorem FinQ.le {s' : St} (hle : SemLe GT s s') (h : FinQ P GT res R .ret s') : FinQ P GT res R .ret s := by
  obtain ⟨s2, h1, h2⟩ := h
  exact ⟨s2, hle.trans h1, h2⟩
theorem FinQ.mono {R' : AV → List Obj → Prop} {e : Exit} (h : FinQ P GT res R e s) (hr : ∀ r os, R r os → R' r os) : FinQ P GT res R' e s := by
  have key : (∃ s', SemLe GT s s' ∧ finOf R ((resOf P s' res).bind (finish GT.given s'))) → (∃ s', SemLe GT s s' ∧ finOf R' ((resOf P s' res).bind (finish GT.given s'))) := by
    rintro ⟨s', h1, h2⟩
    refine ⟨s', h1, ?_⟩
    cases hq : (resOf P s' res).bind (finish GT.given s') with
    | none => rw [hq] at h2; exact h2
    | some x => rw [hq] at h2; exact hr _ _ h2
  cases e <;> first | exact h.elim | exact key h
end
end Go.Proofs.YtangkndckghblaaDoor.Abs
