/- Regions that draw their order: every order, with what a step that is taken first needs of the others. -/
import Derived.Orders
import Derived.Laws.Cover3
import Derived.Test.YtangkndckghblaaDoorAbsH
namespace Go.Proofs.YtangkndckghblaaDoor.Abs
set_option linter.unusedSimpArgs false
set_option linter.unusedVariables false
open Go Go.RowKit

section
variable {P : Program} {ops : Array Oper} {Q : Exit → Act → World → Prop} {md : Region.Mode} {M : List Nat}

/-- M: the calls that take objects over. -/
def quietAt (M : List Nat) (ops : Array Oper) (i : Nat) : Bool :=
  match ops[i]? with
  | some o => Op.quiet o.op && !M.contains i
  | none => true

/-- Every order; each step of a quiet operation writes no block that was there. -/
def wpQ (P : Program) (M : List Nat) (md : Region.Mode) (ops : Array Oper) (Q : Exit → Act → World → Prop) : Nat → Array Bool → Act → World → Prop
  | 0, listed, a, w => Region.ready md ops listed = [] ∧ Q .normal a w
  | n + 1, listed, a, w => (Region.ready md ops listed = [] → Q .normal a w) ∧
    ∀ i ∈ Region.ready md ops listed, wpOp P ops Q i (fun a' w' => (quietAt M ops i = true → Agree w w') ∧ wpQ P M md ops Q n (listed.setIfInBounds i true) a' w') a w

theorem wpQ_any : ∀ (n : Nat) (listed : Array Bool) (a : Act) (w : World), wpQ P M md ops Q n listed a w → wpAny P md ops Q n listed a w
  | 0, _, _, _, h => h
  | n + 1, _, _, _, h => ⟨h.1, fun i hi => wpOp_mono (fun _ _ h' => wpQ_any n _ _ _ h'.2) (h.2 i hi)⟩

/-- What an operation gives, now and later. -/
def Gives (P : Program) (ops : Array Oper) (o : Oper) (v : Value) (a : Act) (w : World) : Prop :=
  (Region.wanted o (yielded ops a.tmps) = true ∧ ∀ w', (Op.reads o.op = true → Agree w w') → (execOp a.eval o).run P w' = .ok (.value v) w') ∨
  (Region.wanted o (yielded ops a.tmps) = false ∧ v = undef)

theorem Gives.later {o : Oper} {v : Value} {a : Act} {w w' : World} (h : Gives P ops o v a w) (hw : Op.reads o.op = true → Agree w w') : Gives P ops o v a w' :=
  h.imp (fun h => ⟨h.1, fun w'' hw'' => h.2 w'' fun hr => (hw hr).trans (hw'' hr)⟩) id

theorem Gives.of_same {o : Oper} {v : Value} {a a' : Act} {w : World} (hy : Gives P ops o v a w) (he : execOp a'.eval o = execOp a.eval o)
    (hw : Region.wanted o (yielded ops a'.tmps) = Region.wanted o (yielded ops a.tmps)) : Gives P ops o v a' w := by
  unfold Gives at *
  rw [he, hw]
  exact hy

theorem Gives.wpOp {i : Nat} {o : Oper} {v : Value} {a : Act} {w : World} (hi : ops[i]? = some o) (hy : Gives P ops o v a w)
    {K : Act → World → Prop} (h : K (a.put o.dst v) w) : wpOp P ops Q i K a w := by
  unfold Go.wpOp
  simp only [hi]
  rcases hy with ⟨hw, hv⟩ | ⟨hw, rfl⟩
  · simp only [hw, if_true, Oper.wp, hv w fun _ => .refl w, Oper.upon]; exact .inl h
  · simp only [hw, Bool.false_eq_true, if_false]; exact h

theorem wpOp_putQ {j : Nat} {oi oj : Oper} {v : Value} (hj : ops[j]? = some oj) (hap : oi.apart ops oj = true)
    (hsi : ∀ cs b, oi.op ≠ .select cs b) (hsj : ∀ cs b, oj.op ≠ .select cs b)
    (hQ : ∀ c a w, ¬ Q (.panic c) a w) {R : World → Prop} {K : Act → World → Prop} {a : Act} {w : World} (hR : ∀ w', R w' → Op.reads oi.op = true → Agree w w')
    (hy : Gives P ops oi v a w) (h : wpOp P ops Q j (fun a' w' => R w' ∧ K a' w') (a.put oi.dst v) w) :
    wpOp P ops Q j (fun a' w' => R w' ∧ Gives P ops oi v a' w' ∧ K (a'.put oi.dst v) w') a w := by
  obtain ⟨h1, h2, h3⟩ := Oper.apart_spec hap
  have keep : ∀ (a : Act) (w' : World), Gives P ops oi v a w → R w' → ∀ u, Gives P ops oi v (a.put oj.dst u) w' := fun a w' hy hr u =>
    (hy.later (hR w' hr)).of_same (execOp_put oi hsi a oj.dst u h3) (wanted_put oi a oj.dst u h3)
  have keepD : ∀ d, Gives P ops oi v { a with defers := d :: a.defers } w := fun d => hy.of_same rfl rfl
  unfold wpOp at *
  simp only [hj] at *
  rw [wanted_put oj a oi.dst v h1] at h
  split
  · rename_i hw
    simp only [hw, if_true] at h
    rcases h with h | ⟨hasks, hlets⟩
    case inr => exact .inr ⟨by unfold Oper.asks at *; rw [execOp_put oj hsj a oi.dst v h1] at hasks; exact hasks, hlets⟩
    refine .inl ?_
    unfold Oper.wp at *
    rw [execOp_put oj hsj a oi.dst v h1] at h
    generalize (execOp a.eval oj).run P w = r at *
    cases r with
    | ok n w' =>
      cases n <;> simp only [Oper.upon] at h ⊢
      case value u => exact ⟨h.1, keep a _ hy h.1 u, by rw [← Act.put_comm a v u h2]; exact h.2⟩
      case skip => exact ⟨h.1, keep a _ hy h.1 _, by rw [← Act.put_comm a v undef h2]; exact h.2⟩
      case defer d =>
        refine ⟨h.1, keep _ _ (keepD d) h.1 _, ?_⟩
        rw [← Act.put_comm _ v undef h2, ← Act.put_defers]
        exact h.2
      case enter f args =>
        refine Calls.mono h fun e w'' he => ?_
        cases e with
        | returned u => exact ⟨he.1, keep a _ hy he.1 u, by rw [← Act.put_comm a v u h2]; exact he.2⟩
        | panicked c => exact absurd he (hQ _ _ _)
        | outgrown => exact he
      case row row args => exact Rows.mono h fun u w'' he => ⟨he.1, keep a _ hy he.1 u, by rw [← Act.put_comm a v u h2]; exact he.2⟩
    | halt x w' =>
      cases x <;> simp only [Oper.upon] at h ⊢
      case panic u => exact absurd h (hQ _ _ _)
  · rename_i hw
    simp only [hw] at h
    exact ⟨h.1, keep a _ hy h.1 _, by rw [← Act.put_comm a v undef h2]; exact h.2⟩

theorem wpQ_first {i : Nat} {oi : Oper} {v : Value} (hi : ops[i]? = some oi) (hsel : ∀ (j : Nat) (o : Oper) cs b, ops[j]? = some o → o.op ≠ .select cs b)
    (hQ : ∀ c a w, ¬ Q (.panic c) a w) {D : List Nat} (hD : ∀ j, j ∈ D → ∃ oj, ops[j]? = some oj ∧ ∃ e ∈ oj.after, Region.binds md e = true ∧ (e.on = i ∨ e.on ∈ D)) :
    ∀ (fuel : Nat) (listed : Array Bool) (a : Act) (w : World), (∀ j, j ∈ D → listed.getD j false = false) →
      (∀ j oj, ops[j]? = some oj → j ≠ i → listed.getD j true = false → j ∉ D → oi.apart ops oj = true ∧ (Op.reads oi.op = true → quietAt M ops j = true)) →
      i ∈ Region.ready md ops listed → Gives P ops oi v a w →
      wpQ P M md ops Q fuel (listed.setIfInBounds i true) (a.put oi.dst v) w → wpQ P M md ops Q (fuel + 1) listed a w := by
  intro fuel
  induction fuel with
  | zero =>
    intro listed a w _ _ hr hy H
    refine ⟨fun h => (by rw [h] at hr; cases hr), fun j hj => ?_⟩
    by_cases hji : j = i
    · subst hji; exact hy.wpOp hi ⟨fun _ => .refl w, H⟩
    · have := ready_mono hj hji
      rw [H.1] at this
      cases this
  | succ fuel ih =>
    intro listed a w hun hfree hr hy H
    refine ⟨fun h => (by rw [h] at hr; cases hr), fun j hj => ?_⟩
    by_cases hji : j = i
    · subst hji; exact hy.wpOp hi ⟨fun _ => .refl w, H⟩
    · have h1 := H.2 j (ready_mono hj hji)
      obtain ⟨hjun, oj, hoj, hall⟩ := mem_ready.1 hj
      have hiu : listed.getD i false = false := by
        have h0 := (mem_ready.1 hr).1
        rcases Nat.lt_or_ge i listed.size with h' | h'
        · simp [h'] at h0 ⊢; exact h0
        · simp [Array.getElem?_eq_none h']
      have hnot : j ∉ D := fun hjD => by
        obtain ⟨oj', hoj', e, he, hb, hon⟩ := hD j hjD
        rw [hoj] at hoj'
        injection hoj' with hoj'
        subst hoj'
        have h1 := hall e he hb
        rcases hon with hon | hon
        · rw [hon, hiu] at h1; cases h1
        · rw [hun _ hon] at h1; cases h1
      obtain ⟨hap, hqj⟩ := hfree j oj hoj hji hjun hnot
      have h2 := wpOp_putQ hoj hap (fun cs b => hsel i oi cs b hi) (fun cs b => hsel j oj cs b hoj) hQ (R := fun w' => quietAt M ops j = true → Agree w w')
        (fun w' hw' hrd => hw' (hqj hrd)) hy h1
      have hfree' : ∀ k ok, ops[k]? = some ok → k ≠ i → (listed.setIfInBounds j true).getD k true = false →
          k ∉ D → oi.apart ops ok = true ∧ (Op.reads oi.op = true → quietAt M ops k = true) := fun k ok hk hki hu2 hno => by
        refine hfree k ok hk hki ?_ hno
        by_cases hjk : j = k
        · subst hjk; exact hjun
        · rw [getD_set_ne true hjk] at hu2; exact hu2
      refine wpOp_mono (fun a' w' h3 => ⟨h3.1, ih (listed.setIfInBounds j true) a' w' (fun k hk => by rw [getD_set_ne false (show j ≠ k from fun h => hnot (by rw [h]; exact hk))]; exact hun k hk) hfree' (ready_mono hr (Ne.symm hji)) h3.2.1 ?_⟩) h2
      rw [Array.setIfInBounds_comm _ _ hji]
      exact h3.2.2

/-- What waits for i. -/
def waits (md : Region.Mode) (ops : Array Oper) (listed : Array Bool) (i : Nat) : List Nat :=
  (List.range ops.size).foldl (fun D j => if listed.getD j false then D else match ops[j]? with
    | some oj => if oj.after.any fun e => Region.binds md e && (e.on == i || D.contains e.on) then j :: D else D
    | none => D) []

/-- Nothing that is still to come and may come before i stands in its way; D: what waits for i. -/
def freeD (M : List Nat) (md : Region.Mode) (ops : Array Oper) (listed : Array Bool) (i : Nat) (D : List Nat) : Bool :=
  match ops[i]? with
  | none => false
  | some oi => D.all (fun j => !listed.getD j false && match ops[j]? with
      | some oj => oj.after.any fun e => Region.binds md e && (e.on == i || D.contains e.on)
      | none => false) &&
    (List.range ops.size).all fun j => j == i || listed.getD j true || D.contains j || match ops[j]? with
      | some oj => oi.apart ops oj && (!Op.reads oi.op || quietAt M ops j)
      | none => true

def freeQ (M : List Nat) (md : Region.Mode) (ops : Array Oper) (listed : Array Bool) (i : Nat) : Bool := freeD M md ops listed i (waits md ops listed i)

theorem freeD_spec {i : Nat} {oi : Oper} {listed : Array Bool} {D : List Nat} (hi : ops[i]? = some oi) (h : freeD M md ops listed i D = true) :
    (∀ j, j ∈ D → ∃ oj, ops[j]? = some oj ∧ ∃ e ∈ oj.after, Region.binds md e = true ∧ (e.on = i ∨ e.on ∈ D)) ∧ (∀ j, j ∈ D → listed.getD j false = false) ∧
    (∀ j oj, ops[j]? = some oj → j ≠ i → listed.getD j true = false → j ∉ D → oi.apart ops oj = true ∧ (Op.reads oi.op = true → quietAt M ops j = true)) := by
  simp only [freeD, hi, Bool.and_eq_true] at h
  obtain ⟨hD, h⟩ := h
  rw [List.all_eq_true] at hD
  refine ⟨fun j hj => ?_, fun j hj => ?_, fun j oj hj hne hun hno => ?_⟩
  · have h1 := hD j hj
    simp only [Bool.and_eq_true] at h1
    obtain ⟨_, h1⟩ := h1
    cases ho : ops[j]? with
    | none => rw [ho] at h1; cases h1
    | some oj =>
      rw [ho] at h1
      obtain ⟨e, he, hb⟩ := Array.any_eq_true'.1 h1
      simp only [Bool.and_eq_true, Bool.or_eq_true, beq_iff_eq, List.contains_eq_mem, decide_eq_true_eq] at hb
      exact ⟨oj, rfl, e, he, hb⟩
  · have h1 := hD j hj
    simp only [Bool.and_eq_true, Bool.not_eq_true'] at h1
    exact h1.1
  · rw [List.all_eq_true] at h
    have h1 := h j (List.mem_range.2 (Array.getElem?_eq_some_iff.1 hj).1)
    have hc : D.contains j = false := by simpa using hno
    simp only [hj, Bool.or_eq_true, beq_iff_eq, hne, false_or, hun, hc, Bool.false_eq_true, Bool.and_eq_true, Bool.not_eq_true'] at h1
    exact ⟨h1.1, fun hr => h1.2.resolve_left (by rw [hr]; simp)⟩

end

/-- An order of the steps: which is taken first, or which may come next. -/
inductive Plan where
  | done
  | take (i : Nat) (p : Plan)
  | fork (i : Nat) (p rest : Plan)
  | none
  deriving Repr

/-- Operations that leave the world alone, and are no call. -/
def Op.takes : Op → Bool
  | .call { callee := .value _, .. } => false
  | .select .. => false
  | op => Op.isPure op

def Plan.heads : Plan → List Nat
  | .fork i _ r => i :: r.heads
  | _ => []

def takesAt (ops : Array Oper) (i : Nat) : Bool :=
  match ops[i]? with
  | some o => Op.takes o.op
  | none => false

/-- The plan is sound. -/
def Plan.ok (M : List Nat) (ops : Array Oper) : Bool → Nat → Array Bool → Plan → Bool
  | top, _, listed, .done => top && (Region.ready .any ops listed).isEmpty
  | top, m + 1, listed, .take i p => top && (Region.ready .any ops listed).contains i && freeQ M .any ops listed i && takesAt ops i && Plan.ok M ops true m (listed.setIfInBounds i true) p
  | top, m + 1, listed, .fork i p r => (!top || (!(Region.ready .any ops listed).isEmpty && (Region.ready .any ops listed).all fun x => (Plan.heads (.fork i p r)).contains x)) && (ops[i]?).isSome && Plan.ok M ops true m (listed.setIfInBounds i true) p && Plan.ok M ops false (m + 1) listed r
  | top, _, _, .none => !top
  | _, 0, _, _ => false

/-- A plan for a region. -/
def planOf (M : List Nat) (ops : Array Oper) : Nat → Array Bool → Plan
  | 0, _ => .done
  | m + 1, listed =>
    let rs := Region.ready .any ops listed
    match rs.find? fun i => freeQ M .any ops listed i && takesAt ops i with
    | some i => .take i (planOf M ops m (listed.setIfInBounds i true))
    | Option.none => if rs.isEmpty then .done else rs.foldr (fun i r => .fork i (planOf M ops m (listed.setIfInBounds i true)) r) .none

section
variable {P : Program} {GT : Ctx} {s : St} {k : List Item} {Q : Exit → St → Prop} {ops : Array Oper} {M : List Nat}

/-- What is to hold behind the region. -/
def after (P : Program) (GT : Ctx) (B : Base) (k : List Item) (Q : Exit → St → Prop) : Exit → Act → World → Prop := fun e a' w' =>
  e = .normal ∧ ∀ (b : Frame) (k0 : List Item) (cs : List Frame), ∃ e a2 w2 s', Q e s' ∧ StC GT B s' a2 w2 ∧ Arrives P (lone (b.at a' (k ++ k0)) cs w') b k0 cs e a2 w2

def DO (P : Program) (GT : Ctx) (M : List Nat) (ops : Array Oper) (m : Nat) (listed : Array Bool) (k : List Item) (s : St) (Q : Exit → St → Prop) : Prop :=
  ∀ (B : Base) (a : Act) (w : World), StC GT B s a w → wpQ P M .any ops (after P GT B k Q) m listed a w

/-- One step. -/
def DS (P : Program) (GT : Ctx) (M : List Nat) (ops : Array Oper) (m : Nat) (listed : Array Bool) (k : List Item) (s : St) (Q : Exit → St → Prop) (i : Nat) : Prop :=
  ∀ (B : Base) (a : Act) (w : World), StC GT B s a w → wpOp P ops (after P GT B k Q) i (fun a' w' => (quietAt M ops i = true → Agree w w') ∧ wpQ P M .any ops (after P GT B k Q) m (listed.setIfInBounds i true) a' w') a w

theorem Sim.drew {w0 : World} {G : Nat → Prop} {p : Place} {I : Nat → Prop} {a : Act} {w : World} (h : Sim GT w0 G p I s a w) : Sim GT w0 G p I s a { w with drawn := w.drawn + 1 } :=
  ⟨h.size, fun i v x e e' => (h.slot i v x e e').mono (fun _ _ => rfl) (fun _ h => h) fun _ _ h => h, h.defers, fun i => (h.obj i).mono (fun _ _ => rfl) (fun _ h => h) fun _ _ _ => rfl, h.inj, h.own, h.imm,
    ⟨h.frame.os, h.frame.tape, h.frame.output, h.frame.size, h.frame.block⟩, fun g cs hg => (h.glob g cs hg).mono (fun _ _ => rfl) (fun _ h => h) fun _ _ h => h, h.given⟩

theorem J_drawn {id : Nat} (hm : P.follows .mixedOrders = true) (h : DO P GT M ops ops.size (Array.replicate ops.size false) k s Q) : J P GT (.code (.region id ops true) :: k) s Q := by
  intro B a w hs b k0 cs
  have hs' : StC GT B s a { w with drawn := w.drawn + 1 } := by
    obtain ⟨p, I, hsim, h1, h2⟩ := hs
    exact ⟨p, I, hsim.drew, h1, h2⟩
  have hwp : (Code.region id ops true).wp P (after P GT B k Q) a w := wp_region_any hm (wpQ_any _ _ _ _ (h B a _ hs'))
  obtain ⟨e, a', w', ⟨rfl, hq⟩, harr⟩ := hwp b (k ++ k0) cs
  obtain ⟨e, a2, w2, s', h1, h2, h3⟩ := hq b k0 cs
  exact ⟨e, a2, w2, s', h1, h2, .of_steps harr h3⟩

theorem DO_done {m : Nat} {listed : Array Bool} (hr : Region.ready .any ops listed = []) (h : J P GT k s Q) : DO P GT M ops m listed k s Q := by
  intro B a w hs
  have hq : after P GT B k Q .normal a w := ⟨rfl, fun b k0 cs => h B a w hs b k0 cs⟩
  cases m with
  | zero => exact ⟨hr, hq⟩
  | succ m => exact ⟨fun _ => hq, by rw [hr]; simp⟩

theorem DO_fork {m : Nat} {listed : Array Bool} (hne : Region.ready .any ops listed ≠ []) (h : ∀ i, i ∈ Region.ready .any ops listed → DS P GT M ops m listed k s Q i) : DO P GT M ops (m + 1) listed k s Q :=
  fun B a w hs => ⟨fun h0 => absurd h0 hne, fun i hi => h i hi B a w hs⟩

/-- Whether a slice is nil: of an empty one it is not known. The first part: what is so if it is; the second: whether the operation asks for the contrary. -/
def nilCmp (op : BinOp) : Option TD → AV → AV → Option (Prop × Bool)
  | some d, .lst _ xs, .raw (.slice none 0 0) => match d.kind with
    | .slice _ => match op with
      | .eql => some (xs = [], false)
      | .neq => some (xs = [], true)
      | _ => none
    | _ => none
  | some d, .own _ _ _ n, .raw (.slice none 0 0) => match d.kind with
    | .slice _ => match op with
      | .eql => some (n = 0, false)
      | .neq => some (n = 0, true)
      | _ => none
    | _ => none
  | _, _, _ => none
def nilOf (P : Program) (GT : Ctx) (s : St) : Op → Option (Prop × Bool)
  | .binOp op T x y _ => nilCmp op (td P T) (ev GT s x) (ev GT s y)
  | _ => none

theorem run_nilCmp {op : BinOp} {T : TypeId} {e : TypeId} {A : Option Addr} {n c : Nat} {ox oy : Operand} {neg : Bool} (hu : P.underlying T = some (.slice e)) (h : (op = .eql ∧ neg = false) ∨ (op = .neq ∧ neg = true)) (w : World) :
    (do eqGuard op T ox oy (.slice A n c) (.slice none 0 0); binOp op T (.slice A n c) (.slice none 0 0) : Sem Value).run P w = .ok (.bool (A.isNone ^^ neg)) w := by
  have he := fun w => run_equal_slice_nil (P := P) w T e A n c hu
  rcases h with ⟨rfl, rfl⟩ | ⟨rfl, rfl⟩ <;> simp [eqGuard, binOp, he]

theorem nilOf_run {o : Oper} {c : Prop} {neg : Bool} (h : nilOf P GT s o.op = some (c, neg)) {w0 : World} {G : Nat → Prop} {p : Place} {I : Nat → Prop} {a : Act} {w : World} (hs : Sim GT w0 G p I s a w) :
    ∃ b : Bool, (b = true → c) ∧ ∀ w', (execOp a.eval o).run P w' = .ok (.value (.bool (b ^^ neg))) w' := by
  unfold nilOf at h
  split at h
  · rename_i op T x y T' ho
    have hexec : execOp a.eval o = (do let v ← (do eqGuard op T x y (a.eval x) (a.eval y); binOp op T (a.eval x) (a.eval y) : Sem Value); pure (.value v)) := by
      simp [execOp, ho]
    have hcx := hs.ev x
    have hcy := hs.ev y
    have main : ∀ (A : Option Addr) (n k : Nat) (d : TD), td P T = some d → (∃ e, d.kind = .slice e) → (op = .eql ∧ neg = false) ∨ (op = .neq ∧ neg = true) → a.eval x = .slice A n k → a.eval y = .slice none 0 0 → (A = none → c) →
        ∃ b : Bool, (b = true → c) ∧ ∀ w', (execOp a.eval o).run P w' = .ok (.value (.bool (b ^^ neg))) w' := by
      intro A n k d hd ⟨e, hk⟩ hop hvx hvy hc
      refine ⟨A.isNone, fun hn => hc (by simpa using hn), fun w' => ?_⟩
      rw [hexec, Sem.run_bind, hvx, hvy, run_nilCmp (td_slice hd hk) hop]
      rfl
    unfold nilCmp at h
    split at h
    · rename_i d k xs hd hx hy
      rw [hx] at hcx
      rw [hy] at hcy
      have hvy := hcy.raw_eq
      generalize hvx : a.eval x = vx at hcx
      split at h
      · rename_i e hk
        cases hcx with
        | @lst _ _ _ A cc m f hn hc hm hkl hxx h1 hcc =>
          have hA : A = none → xs = [] := fun hA => by
            rcases hxx with hxx | ⟨b, off, hA', _⟩
            · exact hxx
            · rw [hA] at hA'; cases hA'
          split at h
          · simp only [Option.some.injEq, Prod.mk.injEq] at h
            obtain ⟨rfl, rfl⟩ := h
            exact main A _ _ d hd ⟨e, hk⟩ (.inl ⟨rfl, rfl⟩) hvx hvy hA
          · simp only [Option.some.injEq, Prod.mk.injEq] at h
            obtain ⟨rfl, rfl⟩ := h
            exact main A _ _ d hd ⟨e, hk⟩ (.inr ⟨rfl, rfl⟩) hvx hvy hA
          · cases h
      · cases h
    · rename_i d id k lo n hd hx hy
      rw [hx] at hcx
      rw [hy] at hcy
      have hvy := hcy.raw_eq
      generalize hvx : a.eval x = vx at hcx
      split at h
      · rename_i e hk
        cases hcx with
        | @own _ _ _ _ _ A cc r hn hm hr hcc =>
          have hA : A = none → n = 0 := fun hA => by
            rcases hcc with ⟨_, hcc⟩ | ⟨_, hA' | hA', _⟩
            · omega
            · omega
            · rw [hA] at hA'; cases hA'
          split at h
          · simp only [Option.some.injEq, Prod.mk.injEq] at h
            obtain ⟨rfl, rfl⟩ := h
            exact main A _ _ d hd ⟨e, hk⟩ (.inl ⟨rfl, rfl⟩) hvx hvy hA
          · simp only [Option.some.injEq, Prod.mk.injEq] at h
            obtain ⟨rfl, rfl⟩ := h
            exact main A _ _ d hd ⟨e, hk⟩ (.inr ⟨rfl, rfl⟩) hvx hvy hA
          · cases h
      · cases h
    · cases h
  · cases h

/-- What has to be handed over for good before an operation: what becomes an element of an array. -/
def needFrz (GT : Ctx) (s : St) : Op → List Nat
  | .buildSlice _ _ parts => (parts.toList.map fun x => s.reach 3 (ev GT s x.2).names).flatten
  | .store _ x v => match ev GT s x with
    | .eref .. => s.reach 3 (ev GT s v).names
    | _ => []
  | _ => []

/-- One operation, its guard let by. -/
def Exec (P : Program) (GT : Ctx) (m : Bool) (s : St) (o : Oper) (K : St → Prop) : Prop :=
  match callOf GT s o.op with
  | some (f, args) => CallA P GT m s f args o.dst K
  | none => match nilOf P GT s o.op with
    | some (c, neg) => ∀ b : Bool, (b = true → c) → K (s.put o.dst (.raw (.bool (b ^^ neg))))
    | none => match evalOp P GT (s.frz (needFrz GT s o.op)) o.op with
      | some r => r.need ∧ K (r.st.put o.dst r.val)
      | none => False

/-- An operation at the place where its turn is. -/
def StepAt (P : Program) (GT : Ctx) (ops : Array Oper) (m : Bool) (s : St) (K : St → Prop) : Option Oper → Prop
  | some o => match o.guard with
    | none => Exec P GT m s o K
    | some (j, want) => match guardSlot ops j with
      | some t => match s.slots.getD t .top with
        | .raw (.bool b) => (b = want → Exec P GT m (s.know (.tmp t) want) o K) ∧ (b = (!want) → K ((s.know (.tmp t) (!want)).put o.dst (.raw undef)))
        | .raw (.tuple _) => K (s.put o.dst (.raw undef))
        | _ => False
      | none => False
  | none => False

/-- What a step comes to. -/
theorem Exec_wp {m : Bool} {o : Oper} {K : St → Prop} (h : Exec P GT m s o K) {B : Base} {a : Act} {w : World} (hs : StC GT B s a w) {next : Act → World → Prop} {Q : Exit → Act → World → Prop}
    (hnext : ∀ s' a' w', K s' → (Op.quiet o.op = true → m = false → Agree w w') → StC GT B s' a' w' → next a' w') : o.wp P a w next Q := by
  unfold Exec at h
  split at h
  · rename_i f args hc
    exact hs.call hc h fun s' a' w' hk ha hs' => hnext s' a' w' hk (fun _ hm => ha hm) hs'
  split at h
  · rename_i c neg hc
    obtain ⟨p, I, hsim, h1, h2, h3⟩ := hs
    obtain ⟨b, hb, hrun⟩ := nilOf_run hc hsim
    unfold Oper.wp
    rw [hrun w, Oper.upon_value]
    exact hnext _ _ _ (h b hb) (fun _ _ => .refl w) ⟨p, I, hsim.put o.dst .raw, h1, h2, h3⟩
  · split at h
    · rename_i r hr
      obtain ⟨p, I, hsim, h1, h2, h3⟩ := hs.frz (needFrz GT s o.op)
      obtain ⟨p', x, w', hy, hs', hv, ha, hg⟩ := evalOp_ok hr h.1 B.w0 B.G p I a w hsim
      have hst : StC GT B (r.st.put o.dst r.val) (a.put o.dst x) w' := ⟨p', I, hs'.put o.dst hv, h1, h2, fun i hi => (hg i hi).elim (fun h => by rw [h]; exact h3 i hi) .inr⟩
      unfold Oper.wp
      rcases hy with hy | ⟨hy, rfl⟩
      · rw [hy, Oper.upon_value]
        exact hnext _ _ _ h.2 (fun hq _ => ha hq) hst
      · rw [hy, Oper.upon_skip]
        exact hnext _ _ _ h.2 (fun hq _ => ha hq) hst
    · exact h.elim

theorem slot_get {t : Nat} {b : Bool} (hb : s.slots.getD t .top = .raw (.bool b)) : s.slots[t]? = some (.raw (.bool b)) ∧ (s.know (.tmp t) b).slots[t]? = some (.raw (.bool b)) ∧ ev GT s (.tmp t) = .raw (.bool b) := by
  have hlt : t < s.slots.length := by
    rcases Nat.lt_or_ge t s.slots.length with h | h
    · exact h
    · rw [List.getD_eq_getElem?_getD, List.getElem?_eq_none h] at hb; cases hb
  refine ⟨?_, by simp [St.know, hlt], hb⟩
  rw [List.getD_eq_getElem?_getD, List.getElem?_eq_getElem hlt] at hb
  rw [List.getElem?_eq_getElem hlt]
  exact congrArg some hb

theorem DS_of {m : Nat} {listed : Array Bool} {i : Nat} {K : St → Prop} (h : StepAt P GT ops (M.contains i) s K ops[i]?) (hk : ∀ s', K s' → DO P GT M ops m (listed.setIfInBounds i true) k s' Q) : DS P GT M ops m listed k s Q i := by
  intro B a w hs
  cases ho : ops[i]? with
  | none => rw [ho] at h; exact h.elim
  | some o =>
    rw [ho] at h
    have hqa : quietAt M ops i = true → Op.quiet o.op = true ∧ M.contains i = false := by simp only [quietAt, ho, Bool.and_eq_true, Bool.not_eq_true']; exact id
    simp only [StepAt] at h
    unfold wpOp
    simp only [ho]
    split at h
    · rename_i hg
      rw [if_pos (by simp [Region.wanted, hg])]
      exact .inl (Exec_wp h hs fun s' a' w' hK ha hs' => ⟨fun hq => ha (hqa hq).1 (hqa hq).2, hk s' hK B a' w' hs'⟩)
    · rename_i j want hg
      split at h
      · rename_i t hj
        split at h
        · rename_i b hb
          obtain ⟨hb1, hb2, hb3⟩ := slot_get (GT := GT) hb
          have hs2 := hs.know hb3
          have hy := yielded_of hs2 hj hb2
          by_cases hbw : b = want
          · subst hbw
            rw [if_pos (by simp [Region.wanted, hg, hy])]
            exact .inl (Exec_wp (h.1 rfl) hs2 fun s' a' w' hK ha hs' => ⟨fun hq => ha (hqa hq).1 (hqa hq).2, hk s' hK B a' w' hs'⟩)
          · have hbn : b = !want := by cases b <;> cases want <;> simp_all
            rw [if_neg (by simp only [Region.wanted, hg, hy]; subst hbn; cases want <;> simp)]
            have := h.2 hbn
            rw [← hbn] at this
            exact ⟨fun _ => .refl w, hk _ this B _ _ (hs2.put o.dst)⟩
        · rename_i vs hb
          have hy := yielded_undef hs hj hb
          rw [if_neg (by simp [Region.wanted, hg, hy])]
          exact ⟨fun _ => .refl w, hk _ h B _ _ (hs.put o.dst)⟩
        · exact h.elim
      · exact h.elim

theorem takes_call {o : Oper} (h : Op.takes o.op = true) : callOf GT s o.op = none := by
  unfold callOf
  split
  · rename_i fo argso ty ho
    rw [ho] at h
    cases h
  · rfl

theorem takes_frz {op : Op} (h : Op.takes op = true) : needFrz GT s op = [] := by
  unfold needFrz
  split
  · cases h
  · cases h
  · rfl

theorem takes_pure {op : Op} (h : Op.takes op = true) : Op.isPure op = true := by
  unfold Op.takes at h
  split at h
  · cases h
  · cases h
  · exact h

theorem DO_take {m : Nat} {listed : Array Bool} {i : Nat} {K : St → Prop} (hs : Region.noSelect ops = true) (hf : freeQ M .any ops listed i = true) (hr : (Region.ready .any ops listed).contains i = true) (ht : takesAt ops i = true)
    (h : StepAt P GT ops (M.contains i) s K ops[i]?) (hk : ∀ s', K s' → DO P GT M ops m (listed.setIfInBounds i true) k s' Q) : DO P GT M ops (m + 1) listed k s Q := by
  intro B a w hst
  cases ho : ops[i]? with
  | none => rw [ho] at h; exact h.elim
  | some o =>
    rw [ho] at h
    have htk : Op.takes o.op = true := by simpa [takesAt, ho] using ht
    -- the step: a value that holds on
    have pure : ∀ (s : St), Exec P GT (M.contains i) s o K → StC GT B s a w → Region.wanted o (yielded ops a.tmps) = true → wpQ P M .any ops (after P GT B k Q) (m + 1) listed a w := by
      intro s hE hst hwant
      unfold Exec at hE
      rw [takes_call htk] at hE
      simp only at hE
      split at hE
      · rename_i c neg hc
        obtain ⟨p, I, hsim, h1, h2, h3⟩ := hst
        obtain ⟨b, hb, hrun⟩ := nilOf_run hc hsim
        refine wpQ_first ho (Region.noSelect_spec hs) (fun _ _ _ hp => by cases hp.1) (freeD_spec ho hf).1 m listed a w (freeD_spec ho hf).2.1 (freeD_spec ho hf).2.2 (by simpa using hr) (.inl ⟨hwant, fun w' _ => hrun w'⟩) ?_
        exact hk _ (hE b hb) B _ _ ⟨p, I, hsim.put o.dst .raw, h1, h2, h3⟩
      split at hE
      · rename_i r hres
        rw [takes_frz htk, St.frz_nil] at hres
        obtain ⟨hst', hpure⟩ := evalOp_pure hres (takes_pure htk)
        obtain ⟨p, I, hsim, h1, h2, h3⟩ := hst
        obtain ⟨x, hx1, hx2⟩ := hpure hE.1 B.w0 B.G p I a w hsim
        refine wpQ_first ho (Region.noSelect_spec hs) (fun _ _ _ hp => by cases hp.1) (freeD_spec ho hf).1 m listed a w (freeD_spec ho hf).2.1 (freeD_spec ho hf).2.2 (by simpa using hr) (.inl ⟨hwant, hx1⟩) ?_
        refine hk _ hE.2 B _ _ ⟨p, I, Sim.put ?_ o.dst hx2, h1, h2, h3⟩
        rw [hst']
        exact hsim
      · exact hE.elim
    simp only [StepAt] at h
    split at h
    · rename_i hg
      exact pure s h hst (by simp [Region.wanted, hg])
    · rename_i j want hg
      split at h
      · rename_i t hj
        split at h
        · rename_i b hb
          obtain ⟨hb1, hb2, hb3⟩ := slot_get (GT := GT) hb
          have hs2 := hst.know hb3
          have hy := yielded_of hs2 hj hb2
          by_cases hbw : b = want
          · subst hbw
            exact pure _ (h.1 rfl) hs2 (by simp [Region.wanted, hg, hy])
          · have hbn : b = !want := by cases b <;> cases want <;> simp_all
            have := h.2 hbn
            rw [← hbn] at this
            refine wpQ_first ho (Region.noSelect_spec hs) (fun _ _ _ hp => by cases hp.1) (freeD_spec ho hf).1 m listed a w (freeD_spec ho hf).2.1 (freeD_spec ho hf).2.2 (by simpa using hr) (.inr ⟨by simp only [Region.wanted, hg, hy]; subst hbn; cases want <;> simp, rfl⟩) ?_
            exact hk _ this B _ _ (hs2.put o.dst)
        · rename_i vs hb
          have hy := yielded_undef hst hj hb
          refine wpQ_first ho (Region.noSelect_spec hs) (fun _ _ _ hp => by cases hp.1) (freeD_spec ho hf).1 m listed a w (freeD_spec ho hf).2.1 (freeD_spec ho hf).2.2 (by simpa using hr) (.inr ⟨by simp [Region.wanted, hg, hy], rfl⟩) ?_
          exact hk _ h B _ _ (hst.put o.dst)
        · exact h.elim
      · exact h.elim

end
end Go.Proofs.YtangkndckghblaaDoor.Abs
