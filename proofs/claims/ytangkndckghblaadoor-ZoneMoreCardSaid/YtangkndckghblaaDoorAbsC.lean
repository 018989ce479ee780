/- The abstract step, operation by operation. -/
import Derived.Test.YtangkndckghblaaDoorAbsB
namespace Go.Proofs.YtangkndckghblaaDoor.Abs
set_option linter.unusedSimpArgs false
set_option linter.unusedVariables false
open Go Go.RowKit

/-- What a step asks, what it gives, and the state behind it. -/
structure Res where
  need : Prop
  val : AV
  st : St

/-- The machine's own step of an operation: a value, and the world behind it. -/
def Yields (P : Program) (o : Oper) (a : Act) (w : World) (x : Value) (w' : World) : Prop :=
  (execOp a.eval o).run P w = .ok (.value x) w' ∨ ((execOp a.eval o).run P w = .ok .skip w' ∧ x = undef)

/-- No block that was there has been written. -/
def Agree (w w' : World) : Prop := w.heap.size ≤ w'.heap.size ∧ ∀ b, b < w.heap.size → w'.heap[b]? = w.heap[b]?
theorem Agree.refl (w : World) : Agree w w := ⟨Nat.le_refl _, fun _ _ => rfl⟩
theorem Agree.trans {w1 w2 w3 : World} (h : Agree w1 w2) (h' : Agree w2 w3) : Agree w1 w3 := ⟨Nat.le_trans h.1 h'.1, fun b hb => (h'.2 b (Nat.lt_of_lt_of_le hb h.1)).trans (h.2 b hb)⟩
theorem Agree.cell {w w' : World} (h : Agree w w') {b o : Nat} {x : Value} (hx : w.cell? ⟨b, o, none⟩ = some x) : w'.cell? ⟨b, o, none⟩ = some x := by
  rcases Nat.lt_or_ge b w.heap.size with hb | hb
  · exact (cell?_of_heap (h.2 b hb)).trans hx
  · simp [World.cell?, Array.getElem?_eq_none hb] at hx

/-- Operations that read the memory. -/
def Op.reads : Op → Bool
  | .load .. => true
  | .convert .. => true
  | .binOp .. => true
  | .call .. => true
  | .lookup .. => true
  | _ => false
/-- Operations that write no block that was there. -/
def Op.quiet : Op → Bool
  | .store .. => false
  | .call { callee := .builtin .append, .. } => false
  | .call { callee := .builtin .copy, .. } => false
  | .call { callee := .builtin .clear, .. } => false
  | .call { callee := .builtin .delete, .. } => false
  | .mapUpdate .. => false
  | .insert .. => false
  | .mapEntry .. => false
  | .entryStore .. => false
  | _ => true

/-- What is asked of an abstract step. The last part: it is a step that writes nothing, and it gives the same later on. -/
def StepOK (P : Program) (GT : Ctx) (o : Oper) (s : St) (r : Res) : Prop :=
  r.need → ∀ w0 G p I a w, Sim GT w0 G p I s a w → ∃ p' x w', Yields P o a w x w' ∧ Sim GT w0 G p' I r.st a w' ∧ Conc I w' p' x r.val ∧ (Op.quiet o.op = true → Agree w w') ∧ ∀ i, i < GT.given → p' i = p i ∨ p' i = none

/-- What is asked of a step that leaves the world alone. -/
def StepPure (P : Program) (GT : Ctx) (o : Oper) (s : St) (r : Res) : Prop :=
  r.st = s ∧ (r.need → ∀ w0 G p I a w, Sim GT w0 G p I s a w → ∃ x, (∀ w', (Op.reads o.op = true → Agree w w') → (execOp a.eval o).run P w' = .ok (.value x) w') ∧ Conc I w p x r.val)

theorem StepPure.ok {P : Program} {GT : Ctx} {o : Oper} {s : St} {r : Res} (h : StepPure P GT o s r) : StepOK P GT o s r := by
  intro hn w0 G p I a w hs
  obtain ⟨x, h1, h2⟩ := h.2 hn w0 G p I a w hs
  exact ⟨p, x, w, .inl (h1 w fun _ => .refl w), by rw [h.1]; exact hs, h2, fun _ => .refl w, fun _ _ => .inl rfl⟩

/-- A step that leaves the world alone. -/
theorem stepOK_pure {P : Program} {GT : Ctx} {o : Oper} {s : St} {n : Prop} {v : AV}
    (h : n → ∀ w0 G p I a w, Sim GT w0 G p I s a w → ∃ x, (∀ w', (Op.reads o.op = true → Agree w w') → (execOp a.eval o).run P w' = .ok (.value x) w') ∧ Conc I w p x v) : StepPure P GT o s ⟨n, v, s⟩ :=
  ⟨rfl, h⟩

section
variable {P : Program} {GT : Ctx} {o : Oper} {s : St}

def evPick (GT : Ctx) (s : St) (c a b : Operand) : Option Res :=
  match ev GT s c with
  | .raw (.bool t) => some ⟨True, cond t (ev GT s a) (ev GT s b), s⟩
  | _ => none

theorem evPick_ok {c x y : Operand} {r : Res} (ho : o.op = .pick c x y) (h : evPick GT s c x y = some r) : StepPure P GT o s r := by
  unfold evPick at h
  split at h
  · rename_i t ht
    injection h with h
    subst h
    refine stepOK_pure fun _ w0 G p I a w hs => ?_
    have hc := hs.ev c
    rw [ht] at hc
    generalize hcv : a.eval c = cv at hc
    cases hc with
    | raw =>
      cases t
      · exact ⟨a.eval y, by simp [execOp, ho, hcv, asBool], hs.ev y⟩
      · exact ⟨a.eval x, by simp [execOp, ho, hcv, asBool], hs.ev x⟩
  · cases h

theorem Agree.alloc (w : World) (b : Go.Obj) : Agree w (w.alloc b) := ⟨by show w.heap.size ≤ (w.heap.push b).size; simp, fun k hk => Below.heap_alloc w b k hk⟩

theorem Sim.fresh_given {w0 : World} {G : Nat → Prop} {p : Place} {I : Nat → Prop} {a : Act} {w : World} (hs : Sim GT w0 G p I s a w) (ro : Option Real) : ∀ i, i < GT.given → p.with s.objs.length ro i = p i ∨ p.with s.objs.length ro i = none :=
  fun i hi => .inl (Place.with_other _ _ (by have := hs.given; omega))

/-- A new variable. -/
def newBox (s : St) (cs : List AV) : Res := ⟨True, .ref s.objs.length 0, { s with objs := s.objs ++ [.box cs] }⟩

theorem newBox_ok {cs : List AV} (h : ∀ w0 G p I a w, Sim GT w0 G p I s a w → ∃ (v : Value) (E : TypeId), (execOp a.eval o).run P w = .ok (.value (.pointer (some ⟨w.heap.size, 0, none⟩))) (w.alloc (.cells v.cells E)) ∧
      v.cells.size = cs.length ∧ ∀ (j : Nat) (c : AV), cs[j]? = some c → ∃ u, v.cells[j]? = some u ∧ u.oneCell' = true ∧ Conc I w p u c) : StepOK P GT o s (newBox s cs) := by
  intro _ w0 G p I a w hs
  obtain ⟨v, E, hrun, hsz, hv⟩ := h w0 G p I a w hs
  have hn : p s.objs.length = none := hs.unplaced (Nat.le_refl _)
  refine ⟨p.with s.objs.length (some ⟨w.heap.size, 0, 0, 0, false⟩), _, _, .inl hrun, hs.new ⟨w.heap.size, 0, 0, 0, false⟩ rfl rfl (.cells v.cells E) (.box cs) rfl rfl rfl rfl ?_, ?_, fun _ => Agree.alloc w _, hs.fresh_given _⟩
  · refine ⟨⟨w.heap.size, 0, 0, 0, false⟩, v.cells, E, Place.with_same _ _ _, rfl, heap_alloc_new w _, by simp [hsz], fun j c e => ?_⟩
    obtain ⟨u, h1, h2, h3⟩ := hv j c e
    refine ⟨u, by simpa using h1, h2, h3.mono (fun b hb => ?_) (fun _ h => h) (Place.fresh hn)⟩
    exact Below.heap_alloc w _ b (hs.imm b hb)
  · exact Conc.ref (off := 0) (r := ⟨w.heap.size, 0, 0, 0, false⟩) (Place.with_same _ _ _) rfl

def evBox (GT : Ctx) (s : St) (x : Operand) : Option Res :=
  match cellsOf (ev GT s x) with
  | some cs => some (newBox s cs)
  | none => none

theorem evBox_ok {E : TypeId} {x : Operand} {r : Res} (ho : o.op = .box E x) (h : evBox GT s x = some r) : StepOK P GT o s r := by
  unfold evBox at h
  split at h
  · rename_i cs hcs
    injection h with h
    subst h
    refine newBox_ok fun w0 G p I a w hs => ?_
    obtain ⟨h1, h2⟩ := cellsOf_conc (hs.ev x) hcs
    exact ⟨a.eval x, E, by simp [execOp, ho, Instr.box, newVar, newRow], h1, h2⟩
  · cases h

def evAlloc (P : Program) (s : St) (E : TypeId) : Option Res :=
  match td P E with
  | some d => match d.zero with
    | some z => if z.all Value.oneCell' then some (newBox s (z.map .raw)) else none
    | none => none
  | none => none

theorem evAlloc_ok {E : TypeId} {r : Res} (ho : o.op = .alloc E) (h : evAlloc P s E = some r) : StepOK P GT o s r := by
  unfold evAlloc at h
  split at h
  · rename_i d hd
    split at h
    · rename_i z hz
      split at h
      · rename_i hall
        injection h with h
        subst h
        refine newBox_ok fun w0 G p I a w hs => ?_
        obtain ⟨v, hv, hz'⟩ := run_zeroValue hd hz w
        refine ⟨v, E, by simp [execOp, ho, Instr.alloc, hv, newVar, newRow], ?_, fun j c e => ?_⟩
        · rw [← Array.length_toList, hz']; simp
        · rw [List.getElem?_map] at e
          cases hj : z[j]? with
          | none => rw [hj] at e; cases e
          | some u =>
            rw [hj] at e
            simp at e
            subst e
            refine ⟨u, by rw [← Array.getElem?_toList, hz']; exact hj, ?_, .raw⟩
            exact List.all_eq_true.1 hall u (List.mem_of_getElem? hj)
      · cases h
    · cases h
  · cases h

/-- A load. -/
def loadFrom (d : TD) (L : List AV) : Option AV :=
  if d.isAgg then (if d.size ≤ L.length then some (.agg (L.take d.size)) else none) else L.head?

def evLoad (P : Program) (GT : Ctx) (s : St) (T : TypeId) (x : Operand) : Option Res :=
  match td P T, memAt s (ev GT s x) with
  | some d, some L => match loadFrom d L with
    | some v => some ⟨True, v, s⟩
    | none => none
  | _, _ => none

theorem evLoad_ok {T : TypeId} {x : Operand} {r : Res} (ho : o.op = .load T x) (h : evLoad P GT s T x = some r) : StepPure P GT o s r := by
  unfold evLoad at h
  split at h
  · rename_i d L hd hL
    split at h
    · rename_i v hv
      injection h with h
      subst h
      refine stepOK_pure fun _ w0 G p I a w hs => ?_
      obtain ⟨b, off, hx, hc⟩ := memAt_conc hs (hs.ev x) hL
      unfold loadFrom at hv
      split at hv
      · rename_i hagg
        split at hv
        · rename_i hle
          injection hv with hv
          subst hv
          -- the cells, as a function
          have hf : ∃ f : Nat → Value, ∀ j, j < d.size → w.cell? ⟨b, off + j, none⟩ = some (f j) := by
            refine ⟨fun j => (w.cell? ⟨b, off + j, none⟩).getD undef, fun j hj => ?_⟩
            obtain ⟨u, h1, _⟩ := hc j _ (List.getElem?_eq_getElem (by omega))
            simp [h1]
          obtain ⟨f, hf⟩ := hf
          refine ⟨.agg ((List.range d.size).map f).toArray, ?_, ?_⟩
          · intro w' hw'
            have hw' := hw' (by simp [ho, Op.reads])
            have := run_loadCells (P := P) w' ⟨b, off, none⟩ d.size f (fun j hj => by rw [Addr.add_lit]; exact hw'.cell (hf j hj))
            simp [execOp, ho, hx, Instr.loadAt, Instr.sureAddr, loadVar, run_isAgg hd, run_sizeOf hd, hagg, this]
          · refine .agg (by simp; omega) (fun i u e => ?_) fun i u y e e' => ?_
            · simp only [List.getElem?_toArray, List.getElem?_map] at e
              cases hi : (List.range d.size)[i]? with
              | none => rw [hi] at e; cases e
              | some i' =>
                rw [hi] at e
                simp at e
                have hi2 : i < d.size := by
                  rcases Nat.lt_or_ge i d.size with h | h
                  · exact h
                  · rw [List.getElem?_eq_none (by simpa using h)] at hi; cases hi
                rw [List.getElem?_range hi2] at hi
                injection hi with hi
                subst hi
                obtain ⟨u', h1, h2, _⟩ := hc i _ (List.getElem?_eq_getElem (by omega))
                rw [hf i hi2] at h1
                injection h1 with h1
                subst e
                rw [h1]
                exact h2
            · rw [List.getElem?_take] at e'
              split at e'
              · rename_i hi2
                obtain ⟨u', h1, _, h3⟩ := hc i _ e'
                rw [hf i hi2] at h1
                injection h1 with h1
                simp only [List.getElem?_toArray, List.getElem?_map, List.getElem?_range hi2, Option.map_some] at e
                injection e with e
                subst e
                rw [h1]
                exact h3
              · cases e'
        · cases hv
      · rename_i hagg
        cases L with
        | nil => cases hv
        | cons v' rest =>
          simp at hv
          subst hv
          obtain ⟨u, h1, _, h3⟩ := hc 0 _ rfl
          refine ⟨u, ?_, h3⟩
          simp only [Nat.add_zero] at h1
          intro w' hw'
          have h1 := (hw' (by simp [ho, Op.reads])).cell h1
          simp [execOp, ho, hx, Instr.loadAt, Instr.sureAddr, loadVar, run_isAgg hd, hagg, h1]
    · cases h
  · cases h

/-- A store. -/
def splice (l : List AV) (o : Nat) (new : List AV) : List AV := l.take o ++ new ++ l.drop (o + new.length)

def setAt (s : St) (new : List AV) : AV → Option (Prop × St)
  | .ref id off => match s.obj id with
    | .box cs => if off + new.length ≤ cs.length then some (True, { s with objs := s.objs.set id (.box (splice cs off new)) }) else none
    | _ => none
  | .eref id k i off => match s.obj id with
    | .arr k' xs => if k' = k ∧ off + new.length ≤ k ∧ AV.immL new = true then some (i < xs.length, { s with objs := s.objs.set id (.arr k (xs.set i (splice (xs.getD i []) off new))) }) else none
    | _ => none
  | _ => none

def evStore (P : Program) (GT : Ctx) (s : St) (T : TypeId) (x v : Operand) : Option Res :=
  match td P T, cellsOf (ev GT s v) with
  | some d, some new => if new.length = d.size then (match setAt s new (ev GT s x) with
    | some (n, s') => some ⟨n, .top, s'⟩
    | none => none) else none
  | _, _ => none

theorem splice_get (l new : List AV) (o j : Nat) (h : o + new.length ≤ l.length) : (splice l o new)[j]? = if o ≤ j ∧ j < o + new.length then new[j - o]? else l[j]? := by
  unfold splice
  have hm : min o l.length = o := by omega
  by_cases h1 : j < o
  · rw [if_neg (by omega), List.append_assoc, List.getElem?_append_left (by simp; omega)]
    simp [h1]
  · by_cases h2 : j < o + new.length
    · rw [if_pos ⟨by omega, h2⟩, List.append_assoc, List.getElem?_append_right (by simp; omega), List.getElem?_append_left (by simp; omega)]
      simp [hm]
    · rw [if_neg (by omega), List.getElem?_append_right (by simp; omega)]
      simp only [List.getElem?_drop, List.length_append, List.length_take, hm]
      congr 1
      omega

theorem splice_get_val (l : Array Value) (new : List Value) (o j : Nat) (h : o + new.length ≤ l.size) :
    (l.toList.take o ++ new ++ l.toList.drop (o + new.length)).toArray[j]? = if o ≤ j ∧ j < o + new.length then new[j - o]? else l[j]? := by
  rw [List.getElem?_toArray]
  have hm : min o l.size = o := by omega
  by_cases h1 : j < o
  · rw [if_neg (by omega), List.append_assoc, List.getElem?_append_left (by simp; omega)]
    simp [h1]
  · by_cases h2 : j < o + new.length
    · rw [if_pos ⟨by omega, h2⟩, List.append_assoc, List.getElem?_append_right (by simp; omega), List.getElem?_append_left (by simp; omega)]
      simp [hm]
    · rw [if_neg (by omega), List.getElem?_append_right (by simp; omega)]
      simp only [List.getElem?_drop, List.length_append, List.length_take, Array.length_toList, hm]
      rw [← Array.getElem?_toList]
      congr 1
      omega

theorem splice_length (l new : List AV) (o : Nat) (h : o + new.length ≤ l.length) : (splice l o new).length = l.length := by
  unfold splice; simp; omega

theorem setRow_eq (w : World) (g : Nat) (cs : Array Value) : (w.setRow g cs).heap.size = w.heap.size ∧ (∀ b, b ≠ g → (w.setRow g cs).heap[b]? = w.heap[b]?) ∧ (w.setRow g cs).os = w.os ∧ (w.setRow g cs).tape = w.tape ∧ (w.setRow g cs).output = w.output := by
  refine ⟨by simp [World.setRow], fun b hb => ?_, rfl, rfl, rfl⟩
  simp only [World.setRow, Array.getElem?_modify]
  rw [if_neg (fun e => hb e.symm)]

theorem evStore_ok {T : TypeId} {x y : Operand} {r : Res} (ho : o.op = .store T x y) (h : evStore P GT s T x y = some r) : StepOK P GT o s r := by
  unfold evStore at h
  split at h
  · rename_i d new hd hnew
    split at h
    · rename_i hlen
      split at h
      · rename_i n s' hset
        injection h with h
        subst h
        intro hneed w0 G p I a w hs
        obtain ⟨hsz, hv⟩ := cellsOf_conc (hs.ev y) hnew
        have h1 : ∀ u ∈ (a.eval y).cells.toList, u.oneCell' = true := fun u hu => by
          obtain ⟨j, hj, hju⟩ := List.getElem_of_mem hu
          have hj' : j < new.length := by rw [← hsz, ← Array.length_toList]; exact hj
          obtain ⟨u', e1, e2, _⟩ := hv j _ (List.getElem?_eq_getElem hj')
          have : (a.eval y).cells.toList[j]? = some u := by rw [List.getElem?_eq_getElem hj, hju]
          rw [Array.getElem?_toList, e1] at this
          injection this with this
          exact this ▸ e2
        -- what is written, wherever
        have hwrite : ∀ (g off : Nat) (c : Array Value) (E : TypeId), w.heap[g]? = some (.cells c E (0, 0)) → a.eval x = .pointer (some ⟨g, off, none⟩) → off + new.length ≤ c.size →
            Yields P o a w undef (w.setRow g (c.toList.take off ++ (a.eval y).cells.toList ++ c.toList.drop (off + (a.eval y).cells.toList.length)).toArray) := by
          intro g off c E hg hx hle
          refine .inr ⟨?_, rfl⟩
          have hst := run_storeCells_at P g off E (a.eval y).cells.toList 0 c w hg (by simp [hsz]; omega) h1
          simp only [Nat.add_zero] at hst
          simp [execOp, ho, hx, Instr.storeAt, Instr.sureAddr, storeVar, run_sizeOf hd, hsz, hlen, hst]
        have hcx := hs.ev x
        generalize hex : a.eval x = vx at hcx
        generalize hevx : ev GT s x = ax at hcx hset
        cases hcx with
        | @ref _ id off r hr hnl =>
          simp only [setAt] at hset
          have hob := hs.obj id
          split at hset
          · rename_i cs heq
            split at hset
            · rename_i hle
              injection hset with hset
              injection hset with hn hset
              subst hset
              rw [heq] at hob
              obtain ⟨r', c, E, hr', _, hh, hl, hcv⟩ := hob
              obtain rfl : r = r' := Option.some.inj (hr.symm.trans hr')
              obtain ⟨q1, q2, q3, q4, q5⟩ := setRow_eq w r.blk (c.toList.take (r.base + off) ++ (a.eval y).cells.toList ++ c.toList.drop (r.base + off + (a.eval y).cells.toList.length)).toArray
              refine ⟨p, undef, _, hwrite r.blk (r.base + off) c E hh hex (by omega), hs.write hr hnl _ q1 q2 q3 q4 q5 ?_, .top, fun h => by simp [ho, Op.quiet] at h, fun _ _ => .inl rfl⟩
              have hsz' : (a.eval y).cells.toList.length = new.length := by simp [hsz]
              refine ⟨r, _, E, hr, hnl, setRow_heap w r.blk c _ E _ hh, ?_, fun j z e => ?_⟩
              · simp [splice_length _ _ _ hle, hsz]; omega
              · rw [splice_get _ _ _ _ hle] at e
                rw [splice_get_val _ _ _ _ (by rw [hsz']; omega), hsz']
                have hIw : ∀ (cs : Array Value) (b : Nat), I b → (w.setRow r.blk cs).heap[b]? = w.heap[b]? :=
                  fun cs b hb => (setRow_eq w r.blk cs).2.1 b (by rintro rfl; exact (hs.own id r hr hnl).2.2 hb)
                split at e
                · rename_i hin
                  rw [if_pos (by omega)]
                  obtain ⟨u, e1, e2, e3⟩ := hv _ _ e
                  refine ⟨u, ?_, e2, e3.mono (hIw _) (fun _ h => h) fun _ _ h => h⟩
                  rw [Array.getElem?_toList, ← e1]
                  congr 1
                  omega
                · rename_i hout
                  rw [if_neg (by omega)]
                  obtain ⟨u, e1, e2, e3⟩ := hcv _ _ e
                  exact ⟨u, e1, e2, e3.mono (hIw _) (fun _ h => h) fun _ _ h => h⟩
            · cases hset
          · cases hset
        | @eref _ id k i off r hr hnl =>
          simp only [setAt] at hset
          have hob := hs.obj id
          split at hset
          · rename_i k' xs heq
            split at hset
            · rename_i hcond
              obtain ⟨hk', hle, himm⟩ := hcond
              subst hk'
              injection hset with hset
              injection hset with hn hset
              subst hset
              have hi : i < xs.length := by rw [← hn] at hneed; exact hneed
              rw [heq] at hob
              obtain ⟨r', hr', hob⟩ := hob
              obtain rfl : r = r' := Option.some.inj (hr.symm.trans hr')
              rcases hob with ⟨hnone, _⟩ | ⟨_, c, E, hh, hl, hm, hcs, hkx, hcv⟩
              · rw [hnl] at hnone; cases hnone
              have hik : i * k' + k' ≤ r.cap * k' := by
                have h1 : (i + 1) * k' ≤ r.cap * k' := Nat.mul_le_mul_right _ (by omega)
                rw [Nat.add_mul] at h1
                omega
              obtain ⟨q1, q2, q3, q4, q5⟩ := setRow_eq w r.blk (c.toList.take (r.base + i * k' + off) ++ (a.eval y).cells.toList ++ c.toList.drop (r.base + i * k' + off + (a.eval y).cells.toList.length)).toArray
              refine ⟨p, undef, _, hwrite r.blk (r.base + i * k' + off) c E hh hex (by omega), hs.write hr hnl _ q1 q2 q3 q4 q5 ?_, .top, fun h => by simp [ho, Op.quiet] at h, fun _ _ => .inl rfl⟩
              have hsz' : (a.eval y).cells.toList.length = new.length := by simp [hsz]
              have hxi : xs.getD i [] = xs[i] := by simp [List.getD_eq_getElem?_getD, hi]
              have hki : xs[i].length = k' := hkx _ (List.getElem_mem hi)
              refine ⟨r, hr, .inr ⟨hnl, _, E, setRow_heap w r.blk c _ E _ hh, by simpa using hl, hm, ?_, fun z hz => ?_, fun i2 j z z' e e' => ?_⟩⟩
              · simp [hsz]; omega
              · rcases List.mem_or_eq_of_mem_set hz with hz | rfl
                · exact hkx z hz
                · rw [splice_length _ _ _ (by rw [hxi, hki]; exact hle), hxi, hki]
              · have hIw : ∀ (cs : Array Value) (b : Nat), I b → (w.setRow r.blk cs).heap[b]? = w.heap[b]? :=
                  fun cs b hb => (setRow_eq w r.blk cs).2.1 b (by rintro rfl; exact (hs.own id r hr hnl).2.2 hb)
                rw [splice_get_val _ _ _ _ (by rw [hsz']; omega), hsz']
                rw [List.getElem?_set] at e
                by_cases hi2 : i = i2
                · subst hi2
                  simp [hi] at e
                  subst e
                  rw [splice_get _ _ _ _ (by rw [hki]; exact hle)] at e'
                  split at e'
                  · rename_i hin
                    rw [if_pos (by omega)]
                    obtain ⟨u, e1, e2, e3⟩ := hv _ _ e'
                    refine ⟨u, ?_, e2, (e3.ofImm (AV.immL_mem himm _ (List.mem_of_getElem? e'))).mono (hIw _) (fun _ h => h) fun _ _ h => h⟩
                    rw [Array.getElem?_toList, ← e1]
                    congr 1
                    omega
                  · rename_i hout
                    obtain ⟨u, e1, e2, e3⟩ := hcv i j _ _ (List.getElem?_eq_getElem hi) e'
                    rw [if_neg (by omega)]
                    exact ⟨u, e1, e2, e3.mono (hIw _) (fun _ h => h) fun _ _ h => h⟩
                · rw [if_neg hi2] at e
                  obtain ⟨u, e1, e2, e3⟩ := hcv i2 j z z' e e'
                  have hzk : z.length = k' := hkx z (List.mem_of_getElem? e)
                  have hj : j < k' := by rw [← hzk]; exact (List.getElem?_eq_some_iff.1 e').1
                  have hne : ¬ (r.base + i * k' + off ≤ r.base + i2 * k' + j ∧ r.base + i2 * k' + j < r.base + i * k' + off + new.length) := by
                    rintro ⟨g1, g2⟩
                    rcases Nat.lt_or_gt_of_ne hi2 with h | h
                    · have : (i + 1) * k' ≤ i2 * k' := Nat.mul_le_mul_right _ h
                      rw [Nat.add_mul] at this
                      omega
                    · have : (i2 + 1) * k' ≤ i * k' := Nat.mul_le_mul_right _ h
                      rw [Nat.add_mul] at this
                      omega
                  rw [if_neg hne]
                  exact ⟨u, e1, e2, e3.mono (hIw _) (fun _ h => h) fun _ _ h => h⟩
            · cases hset
          · cases hset
        | _ => cases hset
      · cases h
    · cases h
  · cases h

end
end Go.Proofs.YtangkndckghblaaDoor.Abs
