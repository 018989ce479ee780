/- The abstract step, operation by operation: addresses, arithmetic, comparisons, cuts. -/
import Derived.Test.YtangkndckghblaaDoorAbsC
namespace Go.Proofs.YtangkndckghblaaDoor.Abs
set_option linter.unusedSimpArgs false
set_option linter.unusedVariables false
open Go Go.RowKit

section
variable {P : Program} {GT : Ctx} {o : Oper} {s : St}

theorem Conc.raw_eq {I : Nat → Prop} {w : World} {p : Place} {v u : Value} (h : Conc I w p v (.raw u)) : v = u := by
  cases h; rfl

/-- A pointer moved on by so many cells. -/
def moved (n : Nat) : AV → Option AV
  | .cptr cs => if n ≤ cs.length then some (.cptr (cs.drop n)) else none
  | .ref id off => some (.ref id (off + n))
  | .eref id k i off => some (.eref id k i (off + n))
  | _ => none

theorem moved_conc {I : Nat → Prop} {w : World} {p : Place} {v : Value} {x y : AV} {n : Nat} (h : Conc I w p v x) (e : moved n x = some y) :
    ∃ b off, v = .pointer (some ⟨b, off, none⟩) ∧ Conc I w p (.pointer (some ⟨b, off + n, none⟩)) y := by
  cases h with
  | @cptr _ cs b off f hb hx h1 h =>
    simp only [moved] at e
    split at e
    · rename_i hn
      injection e with e
      subst e
      refine ⟨b, off, rfl, .cptr (f := fun j => f (n + j)) hb (fun j hj => ?_) (fun j hj => ?_) fun j a e => ?_⟩
      · rw [Nat.add_assoc]
        exact hx _ (by simp at hj; omega)
      · exact h1 _ (by simp at hj; omega)
      · rw [List.getElem?_drop] at e
        exact h _ _ e
    · cases e
  | ref hr hl =>
    injection e with e
    subst e
    exact ⟨_, _, rfl, by rw [Nat.add_assoc]; exact .ref hr hl⟩
  | eref hr hl =>
    injection e with e
    subst e
    exact ⟨_, _, rfl, by rw [Nat.add_assoc]; exact .eref hr hl⟩
  | _ => cases e

def evFieldAddr (P : Program) (GT : Ctx) (s : St) (S : TypeId) (x : Operand) (f : Nat) : Option Res :=
  match td P S with
  | some d => match d.kind with
    | .struct fs => match fs[f]? with
      | some (off, ty) => match td P ty with
        | some d' => if d'.size ≠ 0 then (match moved off (ev GT s x) with
          | some y => some ⟨True, y, s⟩
          | none => none) else none
        | none => none
      | none => none
    | _ => none
  | none => none

theorem evFieldAddr_ok {S : TypeId} {x : Operand} {f : Nat} {r : Res} (ho : o.op = .fieldAddr S x f) (h : evFieldAddr P GT s S x f = some r) : StepPure P GT o s r := by
  unfold evFieldAddr at h
  split at h
  · rename_i d hd
    split at h
    · rename_i fs hk
      split at h
      · rename_i off ty hf
        split at h
        · rename_i d' hd'
          split at h
          · rename_i hne
            split at h
            · rename_i y hy
              injection h with h
              subst h
              refine stepOK_pure fun _ w0 G p I a w hs => ?_
              obtain ⟨b, off', hx, hc⟩ := moved_conc (hs.ev x) hy
              obtain ⟨fields, hu, hfs⟩ := td_struct hd hk
              refine ⟨_, ?_, hc⟩
              rw [← hfs, List.getElem?_map] at hf
              cases hfi : fields[f]? with
              | none => rw [Array.getElem?_toList, hfi] at hf; cases hf
              | some fl =>
                rw [Array.getElem?_toList, hfi] at hf
                simp only [Option.map_some, Option.some.injEq, Prod.mk.injEq] at hf
                obtain ⟨rfl, rfl⟩ := hf
                simp [execOp, ho, hx, Instr.fieldAt, run_underlying hu, hfi, Instr.sureAddr, fieldPlace, run_sizeOf hd', hne, Addr.add_lit]
            · cases h
          · cases h
        · cases h
      · cases h
    · cases h
  · cases h

/-- A part of a struct or an array that is a value. -/
def partOf (d : TD) (cs : List AV) (off : Nat) : Option AV :=
  if d.isAgg then (if off + d.size ≤ cs.length then some (.agg ((cs.drop off).take d.size)) else none) else cs[off]?

theorem part_conc {t : TypeId} {d : TD} (hd : td P t = some d) {I : Nat → Prop} {w : World} {p : Place} {cs : Array Value} {as : List AV} {off : Nat} {y : AV} (hl : as.length = cs.size) (h1 : ∀ (i : Nat) (v : Value), cs[i]? = some v → v.oneCell' = true)
    (h : ∀ (i : Nat) (v : Value) (a : AV), cs[i]? = some v → as[i]? = some a → Conc I w p v a) (e : partOf d as off = some y) : ∃ x, (∀ w', (part t cs off).run P w' = .ok x w') ∧ Conc I w p x y := by
  unfold partOf at e
  split at e
  · rename_i hagg
    split at e
    · rename_i hle
      injection e with e
      subst e
      refine ⟨.agg (cs.extract off (off + d.size)), by simp [part, run_isAgg hd, hagg, run_sizeOf hd], .agg ?_ ?_ ?_⟩
      · simp; omega
      · intro i v e
        rw [Array.getElem?_extract] at e
        split at e
        · exact h1 _ _ e
        · cases e
      · intro i v a e e'
        rw [Array.getElem?_extract] at e
        rw [List.getElem?_take] at e'
        split at e
        · split at e'
          · rw [List.getElem?_drop] at e'
            exact h _ _ _ e e'
          · cases e'
        · cases e
    · cases e
  · rename_i hagg
    have hlt : off < cs.size := by rw [← hl]; exact (List.getElem?_eq_some_iff.1 e).1
    exact ⟨cs[off], by simp [part, run_isAgg hd, hagg, Array.getElem?_eq_getElem hlt], h _ _ _ (Array.getElem?_eq_getElem hlt) e⟩

def evField (P : Program) (GT : Ctx) (s : St) (S : TypeId) (x : Operand) (f : Nat) : Option Res :=
  match ev GT s x with
  | .agg cs => match td P S with
    | some d => match d.kind with
      | .struct fs => match fs[f]? with
        | some (off, ty) => match td P ty with
          | some d' => match partOf d' cs off with
            | some y => some ⟨True, y, s⟩
            | none => none
          | none => none
        | none => none
      | _ => none
    | none => none
  | _ => none

theorem evField_ok {S : TypeId} {x : Operand} {f : Nat} {r : Res} (ho : o.op = .field S x f) (h : evField P GT s S x f = some r) : StepPure P GT o s r := by
  unfold evField at h
  split at h
  · rename_i cs hx
    split at h
    · rename_i d hd
      split at h
      · rename_i fs hk
        split at h
        · rename_i off ty hf
          split at h
          · rename_i d' hd'
            split at h
            · rename_i y hy
              injection h with h
              subst h
              refine stepOK_pure fun _ w0 G p I a w hs => ?_
              have hc := hs.ev x
              rw [hx] at hc
              generalize hxv : a.eval x = xv at hc
              cases hc with
              | agg hl h1 h =>
                obtain ⟨z, hz, hzc⟩ := part_conc hd' hl h1 h hy
                obtain ⟨fields, hu, hfs⟩ := td_struct hd hk
                refine ⟨z, ?_, hzc⟩
                rw [← hfs, List.getElem?_map] at hf
                cases hfi : fields[f]? with
                | none => rw [Array.getElem?_toList, hfi] at hf; cases hf
                | some fl =>
                  rw [Array.getElem?_toList, hfi] at hf
                  simp only [Option.map_some, Option.some.injEq, Prod.mk.injEq] at hf
                  obtain ⟨rfl, rfl⟩ := hf
                  simp [execOp, ho, hxv, Instr.field, run_underlying hu, hfi, asAgg, hz]
            · cases h
          · cases h
        · cases h
      · cases h
    · cases h
  · cases h

/-- The address of an element. -/
def evIndexAddr (P : Program) (GT : Ctx) (s : St) (T : TypeId) (x i : Operand) : Option Res :=
  match ev GT s i, td P T with
  | .raw (.int _ n), some d => match d.kind with
    | .slice e => match td P e with
      | some d' => match ev GT s x with
        | .lst k xs => if k = d'.size then some ⟨0 ≤ n ∧ n < xs.length, .cptr (xs.getD n.toNat []), s⟩ else none
        | .own id k lo m => if k = d'.size then some ⟨0 ≤ n ∧ n < m, .eref id k (lo + n.toNat) 0, s⟩ else none
        | _ => none
      | none => none
    | .array len e => match td P e with
      | some d' => match ev GT s x with
        | .cptr cs => some ⟨0 ≤ n ∧ n < len ∧ (n.toNat * d'.size) ≤ cs.length, .cptr (cs.drop (n.toNat * d'.size)), s⟩
        | .ref id off => some ⟨0 ≤ n ∧ n < len, .ref id (off + n.toNat * d'.size), s⟩
        | .eref id k j off => some ⟨0 ≤ n ∧ n < len, .eref id k j (off + n.toNat * d'.size), s⟩
        | _ => none
      | none => none
    | _ => none
  | _, _ => none

theorem evIndexAddr_ok {T : TypeId} {x i : Operand} {r : Res} (ho : o.op = .indexAddr T x i) (h : evIndexAddr P GT s T x i = some r) : StepPure P GT o s r := by
  unfold evIndexAddr at h
  split at h
  · rename_i kn n d hi hd
    have hint : ∀ {w0 G p I a w}, Sim GT w0 G p I s a w → a.eval i = .int kn n := fun hs => by
      have := hs.ev i
      rw [hi] at this
      exact this.raw_eq
    split at h
    · rename_i e hk
      have hu := td_slice hd hk
      split at h
      · rename_i d' hd'
        split at h
        · rename_i k xs hx
          split at h
          · rename_i hkk
            injection h with h
            subst h
            refine stepOK_pure fun hn w0 G p I a w hs => ?_
            have hc := hs.ev x
            rw [hx] at hc
            generalize hxv : a.eval x = xv at hc
            cases hc with
            | @lst _ _ _ A c m f hn' hc hm hkl hxx h1 hh =>
              subst hn'
              have hlt : n.toNat < xs.length := by omega
              rcases hxx with hxx | ⟨b, off, hA, hb, hxx⟩
              · subst hxx; simp at hlt
              subst hA
              have hxn : xs.getD n.toNat [] = xs[n.toNat] := by simp [List.getD_eq_getElem?_getD, hlt]
              have hxk : xs[n.toNat].length = k := hkl _ (List.getElem_mem hlt)
              refine ⟨.pointer (some ⟨b, off + n.toNat * k, none⟩), ?_, ?_⟩
              · have h1' : (0 ≤ n ∧ n < (xs.length : Int)) := hn
                simp [execOp, ho, hxv, hint hs, Instr.indexAt, asIntOf, run_underlying hu, h1'.1, h1'.2, run_sizeOf hd', Addr.add_lit, hkk]
              · simp only [hxn]
                refine .cptr (f := fun j => f n.toNat j) hb (fun j hj => hxx _ _ hlt (by omega)) (fun j hj => h1 _ _ hlt (by omega)) fun j a e => hh _ _ _ _ (List.getElem?_eq_getElem hlt) e
          · cases h
        · rename_i id k lo m hx
          split at h
          · rename_i hkk
            injection h with h
            subst h
            refine stepOK_pure fun hn w0 G p I a w hs => ?_
            have hc := hs.ev x
            rw [hx] at hc
            generalize hxv : a.eval x = xv at hc
            cases hc with
            | @own _ _ _ _ _ A c r hn' hm hr hh =>
              have h1' : (0 ≤ n ∧ n < (m : Int)) := hn
              rcases hh with ⟨_, hh⟩ | ⟨hnl, hA, hcap⟩
              · omega
              obtain rfl := hA.resolve_left (by omega)
              refine ⟨.pointer (some ⟨r.blk, r.base + (lo + n.toNat) * k + 0, none⟩), ?_, .eref hr hnl⟩
              simp [execOp, ho, hxv, hint hs, Instr.indexAt, asIntOf, run_underlying hu, h1'.1, h1'.2, run_sizeOf hd', Addr.add_lit, hkk]
              rw [Nat.add_mul]; omega
          · cases h
        · cases h
      · cases h
    · rename_i len e hk
      have hu := td_array hd hk
      split at h
      · rename_i d' hd'
        have hrun : ∀ {a : Act} {w : World} {b off : Nat}, a.eval i = .int kn n → a.eval x = .pointer (some ⟨b, off, none⟩) → 0 ≤ n → n < (len : Int) →
            (execOp a.eval o).run P w = .ok (.value (.pointer (some ⟨b, off + n.toNat * d'.size, none⟩))) w := by
          intro a w b off hi hx h0 h1
          simp [execOp, ho, hi, hx, Instr.indexAt, asIntOf, Instr.sureAddr, run_underlying hu, h0, h1, run_sizeOf hd', Addr.add_lit]
        split at h
        · rename_i cs hx
          injection h with h
          subst h
          refine stepOK_pure fun hn w0 G p I a w hs => ?_
          have hc := hs.ev x
          rw [hx] at hc
          obtain ⟨b, off, hxv, hc'⟩ := moved_conc (n := n.toNat * d'.size) (y := .cptr (cs.drop (n.toNat * d'.size))) hc (by simp [moved, hn.2.2])
          exact ⟨_, fun w' _ => hrun (hint hs) hxv hn.1 hn.2.1, hc'⟩
        · rename_i id off hx
          injection h with h
          subst h
          refine stepOK_pure fun hn w0 G p I a w hs => ?_
          have hc := hs.ev x
          rw [hx] at hc
          obtain ⟨b, off, hxv, hc'⟩ := moved_conc (n := n.toNat * d'.size) hc rfl
          exact ⟨_, fun w' _ => hrun (hint hs) hxv hn.1 hn.2, hc'⟩
        · rename_i id k j off hx
          injection h with h
          subst h
          refine stepOK_pure fun hn w0 G p I a w hs => ?_
          have hc := hs.ev x
          rw [hx] at hc
          obtain ⟨b, off, hxv, hc'⟩ := moved_conc (n := n.toNat * d'.size) hc rfl
          exact ⟨_, fun w' _ => hrun (hint hs) hxv hn.1 hn.2, hc'⟩
        · cases h
      · cases h
    · cases h
  · cases h

/-- An element of an array or a string that is a value. -/
def evIndex (P : Program) (GT : Ctx) (s : St) (T : TypeId) (x i : Operand) : Option Res :=
  match ev GT s i, td P T with
  | .raw (.int _ n), some d => match d.kind with
    | .str => match ev GT s x with
      | .raw (.string b) => some ⟨0 ≤ n ∧ n < b.size, .raw (.int .u8 (b.data.toList.getD n.toNat 0).toNat), s⟩
      | _ => none
    | .array len e => match td P e, ev GT s x with
      | some d', .agg cs => match partOf d' cs (n.toNat * d'.size) with
        | some y => some ⟨0 ≤ n ∧ n < len, y, s⟩
        | none => none
      | _, _ => none
    | _ => none
  | _, _ => none

theorem evIndex_ok {T : TypeId} {x i : Operand} {r : Res} (ho : o.op = .index T x i) (h : evIndex P GT s T x i = some r) : StepPure P GT o s r := by
  unfold evIndex at h
  split at h
  · rename_i kn n d hi hd
    have hint : ∀ {w0 G p I a w}, Sim GT w0 G p I s a w → a.eval i = .int kn n := fun hs => by
      have := hs.ev i
      rw [hi] at this
      exact this.raw_eq
    split at h
    · rename_i hk
      have hu := td_str hd hk
      split at h
      · rename_i b hx
        injection h with h
        subst h
        refine stepOK_pure fun hn w0 G p I a w hs => ?_
        have hc := hs.ev x
        rw [hx] at hc
        generalize hxv : a.eval x = xv at hc
        cases hc
        have h1 : 0 ≤ n ∧ n < (b.size : Int) := hn
        have hlt : n.toNat < b.size := by omega
        have hlt' : n.toNat < b.data.toList.length := by simpa using hlt
        refine ⟨.int .u8 b[n.toNat].toNat, ?_, ?_⟩
        · simp [execOp, ho, hxv, hint hs, Instr.index, asIntOf, run_underlying hu, h1.1, hlt]
        · have : b.data.toList.getD n.toNat 0 = b[n.toNat] := by
            rw [List.getD_eq_getElem?_getD, List.getElem?_eq_getElem hlt']
            rfl
          simp only [this]
          exact .raw
      · cases h
    · rename_i len e hk
      have hu := td_array hd hk
      split at h
      · rename_i d' cs hd' hx
        split at h
        · rename_i y hy
          injection h with h
          subst h
          refine stepOK_pure fun hn w0 G p I a w hs => ?_
          have hc := hs.ev x
          rw [hx] at hc
          generalize hxv : a.eval x = xv at hc
          cases hc with
          | agg hl h1 h =>
            obtain ⟨z, hz, hzc⟩ := part_conc hd' hl h1 h hy
            exact ⟨z, by simp [execOp, ho, hxv, hint hs, Instr.index, asIntOf, run_underlying hu, hn.1, hn.2, run_sizeOf hd', hz], hzc⟩
        · cases h
      · cases h
    · cases h
  · cases h

/-- The fields of a struct that may be compared: plain ones. -/
def eqFlat (P : Program) (t : TypeId) : Option (List (Nat × TypeId)) :=
  match P.underlying t with
  | some (.struct fs) => if P.stoodInHeld t || P.eqGuardType P.depth t || !(fs.toList.all fun f => f.name != "_") then none else some (fs.toList.map fun f => (f.offset, f.type))
  | _ => none
def eqLeaf : TK → AV → AV → Option Bool
  | .bool, .raw (.bool a), .raw (.bool b) => some (decide (a = b))
  | .int _, .raw (.int k a), .raw (.int k' b) => if k = k' then some (decide (a = b)) else none
  | .str, .raw (.string a), .raw (.string b) => some (decide (a = b))
  | _, _, _ => none
def eqCells (P : Program) : List (Nat × TypeId) → List AV → List AV → Option Bool
  | [], _, _ => some true
  | (o, t) :: fs, xs, ys => match td P t, xs[o]?, ys[o]?, eqCells P fs xs ys with
    | some d, some x, some y, some r => if d.isAgg then none else (match eqLeaf d.kind x y with
      | some b => some (b && r)
      | none => none)
    | _, _, _, _ => none

/-- Operators of two operands. -/
def evBin (P : Program) (op : BinOp) (T : TypeId) (x y : AV) : Option (Prop × AV) :=
  match x, y with
  | .raw (.int k a), .raw (.int k' b) => match op with
    | .shl => some (0 ≤ b, .raw (.int k (k.wrap (a * 2 ^ (min b.toNat k.bits)))))
    | .shr => some (0 ≤ b, .raw (.int k (a.fdiv (2 ^ (min b.toNat k.bits)))))
    | .add => if k = k' then some (True, .raw (.int k (k.wrap (a + b)))) else none
    | .sub => if k = k' then some (True, .raw (.int k (k.wrap (a - b)))) else none
    | .mul => if k = k' then some (True, .raw (.int k (k.wrap (a * b)))) else none
    | .quo => if k = k' then some (b ≠ 0, .raw (.int k (k.wrap (a.tdiv b)))) else none
    | .rem => if k = k' then some (b ≠ 0, .raw (.int k (a.tmod b))) else none
    | .and => if k = k' then some (True, .raw (.int k (k.wrap (BitVec.ofInt k.bits a &&& BitVec.ofInt k.bits b).toNat))) else none
    | .or => if k = k' then some (True, .raw (.int k (k.wrap (BitVec.ofInt k.bits a ||| BitVec.ofInt k.bits b).toNat))) else none
    | .xor => if k = k' then some (True, .raw (.int k (k.wrap (BitVec.ofInt k.bits a ^^^ BitVec.ofInt k.bits b).toNat))) else none
    | .andNot => if k = k' then some (True, .raw (.int k (k.wrap (BitVec.ofInt k.bits a &&& ~~~ BitVec.ofInt k.bits b).toNat))) else none
    | .eql => if k = k' then some (True, .raw (.bool (decide (a = b)))) else none
    | .neq => if k = k' then some (True, .raw (.bool (!decide (a = b)))) else none
    | .lss => if k = k' then some (True, .raw (.bool (decide (a < b)))) else none
    | .leq => if k = k' then some (True, .raw (.bool (decide (a ≤ b)))) else none
    | .gtr => if k = k' then some (True, .raw (.bool (decide (b < a)))) else none
    | .geq => if k = k' then some (True, .raw (.bool (decide (b ≤ a)))) else none
  | .raw (.string a), .raw (.string b) => match op with
    | .add => some (a.size + b.size ≤ 9223372036854775807, .raw (.string (a ++ b)))
    | .eql => some (True, .raw (.bool (decide (a = b))))
    | .neq => some (True, .raw (.bool (!decide (a = b))))
    | .lss => some (True, .raw (.bool (Op.bytesLess a.toList b.toList)))
    | .leq => some (True, .raw (.bool (Op.bytesLess a.toList b.toList || decide (a = b))))
    | .gtr => some (True, .raw (.bool (!(Op.bytesLess a.toList b.toList || decide (a = b)))))
    | .geq => some (True, .raw (.bool (!Op.bytesLess a.toList b.toList)))
    | _ => none
  | .raw (.bool a), .raw (.bool b) => match td P T with
    | some d => match d.kind with
      | .bool => match op with
        | .eql => some (True, .raw (.bool (decide (a = b))))
        | .neq => some (True, .raw (.bool (!decide (a = b))))
        | _ => none
      | _ => none
    | none => none
  | .agg xs, .agg ys => match eqFlat P T with
    | some fs => match eqCells P fs xs ys with
      | some b => match op with
        | .eql => some (True, .raw (.bool b))
        | .neq => some (True, .raw (.bool (!b)))
        | _ => none
      | none => none
    | none => none
  | _, _ => none

theorem beqBytes (a b : ByteArray) : (a.toList == b.toList) = decide (a = b) := by
  rw [ByteArray.toList_eq, ByteArray.toList_eq, Bool.eq_iff_iff]
  obtain ⟨⟨x⟩⟩ := a
  obtain ⟨⟨y⟩⟩ := b
  simp

theorem eqLeaf_run {t : TypeId} {d : TD} (hd : td P t = some d) {I : Nat → Prop} {w : World} {p : Place} {u v : Value} {x y : AV} {b : Bool} (hu : Conc I w p u x) (hv : Conc I w p v y) (h : eqLeaf d.kind x y = some b) (n : Nat) :
    ∀ w', (Op.equalIn (n + 1) t u v).run P w' = .ok b w' := by
  intro w'
  unfold eqLeaf at h
  split at h
  · rename_i hk
    obtain rfl := hu.raw_eq
    obtain rfl := hv.raw_eq
    injection h with h; subst h
    rw [run_equalIn_bool' w' n t _ _ (td_bool hd hk)]
    rename_i a b _
    cases a <;> cases b <;> rfl
  · rename_i hk
    obtain rfl := hu.raw_eq
    obtain rfl := hv.raw_eq
    split at h
    · rename_i hkk
      subst hkk
      injection h with h; subst h
      rw [run_equalIn_int w' n t _ _ _ _ (td_int hd hk)]
      congr 1
    · cases h
  · rename_i hk
    obtain rfl := hu.raw_eq
    obtain rfl := hv.raw_eq
    injection h with h; subst h
    rw [run_equalIn_string w' n t _ _ (td_str hd hk), beqBytes]
  · cases h

theorem eqFields_run {I : Nat → Prop} {w : World} {p : Place} {xs ys : Array Value} {as bs : List AV} (hlx : as.length = xs.size) (hly : bs.length = ys.size)
    (hx : ∀ (i : Nat) (v : Value) (a : AV), xs[i]? = some v → as[i]? = some a → Conc I w p v a) (hy : ∀ (i : Nat) (v : Value) (a : AV), ys[i]? = some v → bs[i]? = some a → Conc I w p v a) (n : Nat) (w' : World) :
    ∀ (fs : List Field) (r : Bool), (∀ f ∈ fs, f.name ≠ "_") → eqCells P (fs.map fun f => (f.offset, f.type)) as bs = some r → (Op.eqFields (n + 1) xs ys fs).run P w' = .ok r w'
  | [], r, _, h => by
    injection h with h; subst h
    simp [Op.eqFields]
  | f :: fs, r, hn, h => by
    simp only [List.map_cons, eqCells] at h
    split at h
    · rename_i d x y r' hd hxo hyo hr
      split at h
      · cases h
      · rename_i hagg
        split at h
        · rename_i b hb
          injection h with h; subst h
          have hltx : f.offset < xs.size := by rw [← hlx]; exact (List.getElem?_eq_some_iff.1 hxo).1
          have hlty : f.offset < ys.size := by rw [← hly]; exact (List.getElem?_eq_some_iff.1 hyo).1
          have ih := eqFields_run hlx hly hx hy n w' fs r' (fun g hg => hn g (List.mem_cons_of_mem _ hg)) hr
          have hleaf := eqLeaf_run hd (hx _ _ _ (Array.getElem?_eq_getElem hltx) hxo) (hy _ _ _ (Array.getElem?_eq_getElem hlty) hyo) hb n w'
          simp only [Op.eqFields, hn f List.mem_cons_self, ne_eq, not_false_eq_true, if_true, Sem.run_bind, part, run_isAgg hd, hagg, Result.andThen_ok, Bool.false_eq_true, if_false, Array.getElem?_eq_getElem hltx, Array.getElem?_eq_getElem hlty, Sem.run_pure, hleaf]
          cases b
          · simp
          · simp [ih]
        · cases h
    · cases h

theorem eqFlat_run {T : TypeId} {fl : List (Nat × TypeId)} (hf : eqFlat P T = some fl) {I : Nat → Prop} {w : World} {p : Place} {xs ys : Array Value} {as bs : List AV} (hlx : as.length = xs.size) (hly : bs.length = ys.size)
    (hx : ∀ (i : Nat) (v : Value) (a : AV), xs[i]? = some v → as[i]? = some a → Conc I w p v a) (hy : ∀ (i : Nat) (v : Value) (a : AV), ys[i]? = some v → bs[i]? = some a → Conc I w p v a) {r : Bool} (h : eqCells P fl as bs = some r) (w' : World) :
    (Op.equalIn 10000 T (.agg xs) (.agg ys)).run P w' = .ok r w' ∧ P.eqGuardType P.depth T = false := by
  unfold eqFlat at hf
  split at hf
  · rename_i fs hu
    split at hf
    · cases hf
    · rename_i hc
      simp only [Bool.or_eq_true, not_or, Bool.not_eq_true, Bool.not_eq_false'] at hc
      obtain ⟨⟨h1, h2⟩, h3⟩ := hc
      injection hf with hf
      subst hf
      have hfo : P.fieldsOf T = fs := by simp [Program.fieldsOf, hu]
      refine ⟨?_, h2⟩
      rw [run_equalIn_agg w' 9999 T xs ys (by rw [hfo]; exact hu) h1, hfo]
      refine eqFields_run hlx hly hx hy 9998 w' _ _ (fun f hm => ?_) h
      have := List.all_eq_true.1 h3 f hm
      simpa using this
  · cases hf

theorem evBin_ok {op : BinOp} {T : TypeId} {x y : AV} {n : Prop} {z : AV} (h : evBin P op T x y = some (n, z)) (hn : n) {I : Nat → Prop} {w : World} {p : Place} {vx vy : Value} {ox oy : Operand} (hx : Conc I w p vx x) (hy : Conc I w p vy y) :
    ∃ v, z = .raw v ∧ ∀ w', (do eqGuard op T ox oy vx vy; binOp op T vx vy : Sem Value).run P w' = .ok v w' := by
  unfold evBin at h
  split at h
  · rename_i k a k' b
    obtain rfl := hx.raw_eq
    obtain rfl := hy.raw_eq
    have hg : ∀ w, (eqGuard op T ox oy (.int k a) (.int k' b)).run P w = .ok () w := by cases op <;> simp [eqGuard]
    cases op <;> simp only at h <;> (try split at h) <;> first
      | (cases h; done)
      | (simp only [Option.some.injEq, Prod.mk.injEq] at h
         obtain ⟨rfl, rfl⟩ := h
         subst_vars
         refine ⟨_, rfl, fun w => ?_⟩
         simp only [Sem.run_bind, hg, Result.andThen_ok, binOp, Op.intArith, Op.intDiv, Op.intBits, Op.intCmp, Op.shift, ne_eq, not_true_eq_false, if_false]
         first
           | rfl
           | (rw [if_neg hn]; rfl)
           | (rw [if_neg (by omega)]; rfl)
           | (simp only [Sem.run_pure]; congr 2; simp [BEq.beq, bne]))
  · rename_i a b
    obtain rfl := hx.raw_eq
    obtain rfl := hy.raw_eq
    have hg : ∀ w, (eqGuard op T ox oy (.string a) (.string b)).run P w = .ok () w := by cases op <;> simp [eqGuard]
    cases op <;> simp only at h <;> first
      | (cases h; done)
      | (simp only [Option.some.injEq, Prod.mk.injEq] at h
         obtain ⟨rfl, rfl⟩ := h
         refine ⟨_, rfl, fun w => ?_⟩
         simp only [Sem.run_bind, hg, Result.andThen_ok, binOp, Op.stringOp, beqBytes]
         first
           | rfl
           | (rw [if_neg (by have : IntKind.i64.max = 9223372036854775807 := rfl; omega)]; rfl))
  · rename_i a b
    obtain rfl := hx.raw_eq
    obtain rfl := hy.raw_eq
    split at h
    · rename_i d hd
      split at h
      · rename_i hk
        have hu := td_bool hd hk
        have he := fun w => run_equal_bool (P := P) w T a b hu
        split at h
        · simp only [Option.some.injEq, Prod.mk.injEq] at h
          obtain ⟨rfl, rfl⟩ := h
          exact ⟨_, rfl, by simp [eqGuard, binOp, he]; cases a <;> cases b <;> rfl⟩
        · simp only [Option.some.injEq, Prod.mk.injEq] at h
          obtain ⟨rfl, rfl⟩ := h
          exact ⟨_, rfl, by simp [eqGuard, binOp, he]; cases a <;> cases b <;> rfl⟩
        · cases h
      · cases h
    · cases h
  · rename_i as bs
    split at h
    · rename_i fl hfl
      split at h
      · rename_i b hb
        generalize hvx' : vx = vx' at hx
        generalize hvy' : vy = vy' at hy
        cases hx with
        | agg hlx _ hxc =>
          cases hy with
          | agg hly _ hyc =>
            subst hvx'; subst hvy'
            have key := fun w' => eqFlat_run hfl hlx hly hxc hyc hb w'
            split at h
            · simp only [Option.some.injEq, Prod.mk.injEq] at h
              obtain ⟨rfl, rfl⟩ := h
              refine ⟨_, rfl, fun w' => ?_⟩
              rw [Sem.run_bind, run_eqGuard_agg w' .eql T ox oy _ _ (key w').2, Result.andThen_ok, run_eql_struct, (key w').1]
              rfl
            · simp only [Option.some.injEq, Prod.mk.injEq] at h
              obtain ⟨rfl, rfl⟩ := h
              refine ⟨_, rfl, fun w' => ?_⟩
              rw [Sem.run_bind, run_eqGuard_agg w' .neq T ox oy _ _ (key w').2, Result.andThen_ok, run_neq_struct, (key w').1]
              rfl
            · cases h
      · cases h
    · cases h
  · cases h

def evBinOp (P : Program) (GT : Ctx) (s : St) (op : BinOp) (T : TypeId) (x y : Operand) : Option Res :=
  match evBin P op T (ev GT s x) (ev GT s y) with
  | some (n, v) => some ⟨n, v, s⟩
  | none => none

theorem evBinOp_ok {op : BinOp} {T T' : TypeId} {x y : Operand} {r : Res} (ho : o.op = .binOp op T x y T') (h : evBinOp P GT s op T x y = some r) : StepPure P GT o s r := by
  unfold evBinOp at h
  split at h
  · rename_i n v hb
    injection h with h
    subst h
    refine stepOK_pure fun hn w0 G p I a w hs => ?_
    obtain ⟨u, rfl, h1⟩ := evBin_ok (ox := x) (oy := y) hb hn (hs.ev x) (hs.ev y)
    refine ⟨u, fun w' _ => ?_, .raw⟩
    have : (execOp a.eval o) = (do let v ← (do eqGuard op T x y (a.eval x) (a.eval y); binOp op T (a.eval x) (a.eval y) : Sem Value); pure (.value v)) := by
      simp [execOp, ho]
    rw [this, Sem.run_bind, h1]
    rfl
  · cases h

/-- Operators of one operand. -/
def evUnOp (GT : Ctx) (s : St) (op : UnOp) (x : Operand) : Option Res :=
  match op, ev GT s x with
  | .not, .raw (.bool b) => some ⟨True, .raw (.bool (!b)), s⟩
  | .neg, .raw (.int k n) => some ⟨True, .raw (.int k (k.wrap (0 - n))), s⟩
  | _, _ => none

theorem evUnOp_ok {op : UnOp} {T : TypeId} {x : Operand} {r : Res} (ho : o.op = .unOp op T x) (h : evUnOp GT s op x = some r) : StepPure P GT o s r := by
  unfold evUnOp at h
  split at h
  · rename_i b hx
    injection h with h
    subst h
    refine stepOK_pure fun hn w0 G p I a w hs => ?_
    have hc := hs.ev x
    rw [hx] at hc
    generalize hxv : a.eval x = xv at hc
    cases hc
    exact ⟨_, by simp [execOp, ho, hxv, Op.unary], .raw⟩
  · rename_i k n hx
    injection h with h
    subst h
    refine stepOK_pure fun hn w0 G p I a w hs => ?_
    have hc := hs.ev x
    rw [hx] at hc
    generalize hxv : a.eval x = xv at hc
    cases hc
    exact ⟨_, by simp [execOp, ho, hxv, Op.unary, Op.intArith], .raw⟩
  · cases h

/-- Conversions of integers and of strings. -/
def evConvert (P : Program) (GT : Ctx) (s : St) (S D : TypeId) (x : Operand) : Option Res :=
  match td P S, td P D, ev GT s x with
  | some _, some d, .raw (.int _ n) => match d.kind with
    | .int k => some ⟨True, .raw (.int k (k.wrap n)), s⟩
    | _ => none
  | some _, some d, .raw (.string b) => match d.kind with
    | .str => some ⟨True, .raw (.string b), s⟩
    | _ => none
  | _, _, _ => none

theorem evConvert_ok {S D : TypeId} {x : Operand} {r : Res} (ho : o.op = .convert S D x) (h : evConvert P GT s S D x = some r) : StepPure P GT o s r := by
  unfold evConvert at h
  split at h
  · rename_i d0 d k0 n hS hD hx
    split at h
    · rename_i k hk
      injection h with h
      subst h
      refine stepOK_pure fun hn w0 G p I a w hs => ?_
      have hc := hs.ev x
      rw [hx] at hc
      generalize hxv : a.eval x = xv at hc
      cases hc
      obtain ⟨_, desc, _, hu, _⟩ := td_info hS
      refine ⟨_, ?_, .raw⟩
      simp [execOp, ho, hxv, convert, run_underlying hu, run_underlying (td_int hD hk), Conv.intToInt]
    · cases h
  · rename_i d0 d b hS hD hx
    split at h
    · rename_i hk
      injection h with h
      subst h
      refine stepOK_pure fun hn w0 G p I a w hs => ?_
      have hc := hs.ev x
      rw [hx] at hc
      generalize hxv : a.eval x = xv at hc
      cases hc
      obtain ⟨_, desc, _, hu, _⟩ := td_info hS
      refine ⟨_, ?_, .raw⟩
      simp [execOp, ho, hxv, convert, run_underlying hu, run_underlying (td_str hD hk)]
    · cases h
  · cases h

def evMakeFunc (GT : Ctx) (s : St) (fn : Fn) (first captured : Array Operand) : Res :=
  ⟨True, .clo fn (first.toList.map (ev GT s)) (captured.toList.map (ev GT s)), s⟩

theorem evMakeFunc_ok {fn : Fn} {first captured : Array Operand} (ho : o.op = .makeFunc fn first captured) : StepPure P GT o s (evMakeFunc GT s fn first captured) := by
  refine stepOK_pure fun hn w0 G p I a w hs => ⟨.func fn (first.map a.eval) (captured.map a.eval), by simp [execOp, ho, Instr.makeFunc], .clo (by simp) (by simp) ?_ ?_⟩
  · intro i v x e e'
    rw [Array.getElem?_map] at e
    rw [List.getElem?_map, Array.getElem?_toList] at e'
    cases hi : first[i]? with
    | none => rw [hi] at e; cases e
    | some u =>
      rw [hi] at e e'
      injection e with e
      injection e' with e'
      subst e; subst e'
      exact hs.ev u
  · intro i v x e e'
    rw [Array.getElem?_map] at e
    rw [List.getElem?_map, Array.getElem?_toList] at e'
    cases hi : captured[i]? with
    | none => rw [hi] at e; cases e
    | some u =>
      rw [hi] at e e'
      injection e with e
      injection e' with e'
      subst e; subst e'
      exact hs.ev u

def evExtract (GT : Ctx) (s : St) (x : Operand) (i : Nat) : Option Res :=
  match ev GT s x with
  | .tup vs => match vs[i]? with
    | some v => some ⟨True, v, s⟩
    | none => none
  | _ => none

theorem evExtract_ok {x : Operand} {i : Nat} {r : Res} (ho : o.op = .extract x i) (h : evExtract GT s x i = some r) : StepPure P GT o s r := by
  unfold evExtract at h
  split at h
  · rename_i vs hx
    split at h
    · rename_i v hv
      injection h with h
      subst h
      refine stepOK_pure fun hn w0 G p I a w hs => ?_
      have hc := hs.ev x
      rw [hx] at hc
      generalize hxv : a.eval x = xv at hc
      cases hc with
      | @tup _ cs _ hl h =>
        have hlt : i < cs.size := by rw [← hl]; exact (List.getElem?_eq_some_iff.1 hv).1
        exact ⟨cs[i], by simp [execOp, ho, hxv, Instr.extract, hlt], h _ _ _ (Array.getElem?_eq_getElem hlt) hv⟩
    · cases h
  · cases h

/-- The bounds of a cut: none of an operand that is left out. -/
def evBound (GT : Ctx) (s : St) (dflt : Int) : Option Operand → Option Int
  | none => some dflt
  | some x => match ev GT s x with
    | .raw (.int _ n) => some n
    | _ => none

/-- A cut: of a string, of a slice. -/
def evSlice (P : Program) (GT : Ctx) (s : St) (T : TypeId) (x : Operand) (lo hi : Option Operand) : Option Res :=
  match td P T, evBound GT s 0 lo with
  | some d, some l => match d.kind with
    | .str => match ev GT s x with
      | .raw (.string b) => match evBound GT s b.size hi with
        | some h => some ⟨0 ≤ l ∧ l ≤ h ∧ h ≤ b.size, .raw (.string (b.extract l.toNat h.toNat)), s⟩
        | none => none
      | _ => none
    | .slice e => match td P e with
      | some d' => match ev GT s x with
        | .lst k xs => if k = d'.size then (match evBound GT s xs.length hi with
          | some h => some ⟨0 ≤ l ∧ l ≤ h ∧ h ≤ xs.length, .lst k ((xs.take h.toNat).drop l.toNat), s⟩
          | none => none) else none
        | .own id k o n => if k = d'.size then (match evBound GT s n hi with
          | some h => match s.obj id with
            | .arr k' xs => if k' = k then some ⟨0 ≤ l ∧ l ≤ h ∧ o + h.toNat ≤ xs.length, .own id k (o + l.toNat) (h.toNat - l.toNat), s⟩ else none
            | _ => none
          | none => none) else none
        | _ => none
      | none => none
    | _ => none
  | _, _ => none

theorem bound_run {w0 : World} {G : Nat → Prop} {p : Place} {I : Nat → Prop} {a : Act} {w : World} (hs : Sim GT w0 G p I s a w) {dflt n : Int} {x : Option Operand} (h : evBound GT s dflt x = some n) :
    (x.map a.eval = none ∧ n = dflt) ∨ ∃ k, x.map a.eval = some (.int k n) := by
  cases x with
  | none => injection h with h; exact .inl ⟨rfl, h.symm⟩
  | some x =>
    simp only [evBound] at h
    split at h
    · rename_i k m hx
      injection h with h
      subst h
      have hc := hs.ev x
      rw [hx] at hc
      generalize hxv : a.eval x = xv at hc
      cases hc
      exact .inr ⟨k, by simp [hxv]⟩
    · cases h

theorem run_sliceBound (w : World) (k : IntKind) {n : Int} {y : Nat} (h0 : 0 ≤ n) (h1 : n ≤ y) (code : BoundsCode) : (Instr.sliceBound (.int k n) y code).run P w = .ok n.toNat w := by
  simp [Instr.sliceBound, asIntOf, h0, h1]

theorem run_bounds {w0 : World} {G : Nat → Prop} {p : Place} {I : Nat → Prop} {a : Act} {w : World} (hs : Sim GT w0 G p I s a w) {lo hi : Option Operand} {l h : Int} (isSlice : Bool) {len cap : Nat}
    (hl : evBound GT s 0 lo = some l) (hh : evBound GT s len hi = some h) (h0 : 0 ≤ l) (h1 : l ≤ h) (h2 : h ≤ cap) :
    ∀ w', (Instr.sliceBounds isSlice len cap (lo.map a.eval) (hi.map a.eval) none).run P w' = .ok (l.toNat, h.toNat, cap) w' := by
  intro w
  rcases bound_run hs hl with ⟨e1, e2⟩ | ⟨k1, e1⟩ <;> rcases bound_run hs hh with ⟨e3, e4⟩ | ⟨k2, e3⟩ <;> rw [e1, e3]
  · subst e2; subst e4
    simp [Instr.sliceBounds]
  · subst e2
    simp [Instr.sliceBounds, run_sliceBound w k2 (by omega : 0 ≤ h) h2]
  · subst e4
    simp [Instr.sliceBounds, run_sliceBound w k1 h0 h1]
  · have h1' : l ≤ (h.toNat : Int) := by omega
    simp [Instr.sliceBounds, run_sliceBound w k2 (by omega : 0 ≤ h) h2, run_sliceBound w k1 h0 h1']

theorem evSlice_ok {T : TypeId} {x : Operand} {lo hi : Option Operand} {r : Res} (ho : o.op = .slice T x lo hi none) (h : evSlice P GT s T x lo hi = some r) : StepPure P GT o s r := by
  unfold evSlice at h
  split at h
  · rename_i d l hd hl
    split at h
    · rename_i hk
      have hu := td_str hd hk
      split at h
      · rename_i b hx
        split at h
        · rename_i h' hh
          injection h with h
          subst h
          refine stepOK_pure fun hn w0 G p I a w hs => ?_
          have hc := hs.ev x
          rw [hx] at hc
          generalize hxv : a.eval x = xv at hc
          cases hc
          have hb := run_bounds (P := P) hs false (cap := b.size) hl hh hn.1 hn.2.1 hn.2.2
          exact ⟨_, by simp [execOp, ho, hxv, Instr.sliceAt, Instr.slice, run_underlying hu, hb], .raw⟩
        · cases h
      · cases h
    · rename_i e hk
      have hu := td_slice hd hk
      split at h
      · rename_i d' hd'
        split at h
        · rename_i k xs hx
          split at h
          · rename_i hkk
            split at h
            · rename_i h' hh
              injection h with h
              subst h
              refine stepOK_pure fun hn w0 G p I a w hs => ?_
              have hc := hs.ev x
              rw [hx] at hc
              generalize hxv : a.eval x = xv at hc
              cases hc with
              | @lst _ _ _ A c m f hn' hc hm hkl hxx h1 hcc =>
                subst hn'
                have g1 : 0 ≤ l := hn.1
                have g2 : l ≤ h' := hn.2.1
                have g3 : h' ≤ (xs.length : Int) := hn.2.2
                have hb := run_bounds (P := P) hs true (len := xs.length) (cap := c) hl hh g1 g2 (by omega)
                refine ⟨.slice (if c = l.toNat then A else A.map (·.add (l.toNat * k))) (h'.toNat - l.toNat) (c - l.toNat), by simp [execOp, ho, hxv, Instr.sliceAt, Instr.slice, run_underlying hu, hb, run_sizeOf hd', hkk], ?_⟩
                refine .lst (f := fun i j => f (l.toNat + i) j) ?_ (by omega) (by omega) (fun y hy => hkl y (List.mem_of_mem_take (List.mem_of_mem_drop hy))) ?_ ?_ ?_
                · simp; omega
                · by_cases hz : h' = l
                  · left
                    subst hz
                    simp
                  · right
                    rcases hxx with hxx | ⟨b, off, hA, hIb, hxx⟩
                    · subst hxx
                      simp at g3
                      omega
                    · subst hA
                      rw [if_neg (by omega)]
                      refine ⟨b, off + l.toNat * k, by simp [Addr.add_lit], hIb, fun i j hi hj => ?_⟩
                      have := hxx (l.toNat + i) j (by simp at hi; omega) hj
                      rw [← this]
                      congr 2
                      rw [Nat.add_mul]
                      omega
                · intro i j hi hj
                  exact h1 _ _ (by simp at hi; omega) hj
                · intro i j y z e e'
                  rw [List.getElem?_drop, List.getElem?_take] at e
                  split at e
                  · exact hcc _ _ _ _ e e'
                  · cases e
            · cases h
          · cases h
        · rename_i id k o' m hx
          split at h
          · rename_i hkk
            split at h
            · rename_i h' hh
              split at h
              · rename_i k' xs hob
                split at h
                · rename_i hkk'
                  subst hkk'
                  injection h with h
                  subst h
                  refine stepOK_pure fun hn w0 G p I a w hs => ?_
                  have hc := hs.ev x
                  rw [hx] at hc
                  generalize hxv : a.eval x = xv at hc
                  have ho' := hs.obj id
                  rw [hob] at ho'
                  cases hc with
                  | @own _ _ _ _ _ A c r hn' hm hr hcc =>
                    have g1 : 0 ≤ l := hn.1
                    have g2 : l ≤ h' := hn.2.1
                    have g3 : o' + h'.toNat ≤ xs.length := hn.2.2
                    obtain ⟨r', hr', ho'⟩ := ho'
                    obtain rfl : r = r' := Option.some.inj (hr.symm.trans hr')
                    have g4 : h' ≤ (c : Int) ∧ (r.nul = false → o' + h'.toNat ≤ r.len) := by
                      rcases ho' with ⟨hnl, hx0⟩ | ⟨hnl, _, _, _, hl, _⟩
                      · subst hx0
                        simp at g3
                        refine ⟨by omega, fun h => by rw [hnl] at h; cases h⟩
                      · rcases hcc with ⟨hnl', _⟩ | ⟨_, _, hcap, _⟩
                        · rw [hnl] at hnl'; cases hnl'
                        · exact ⟨by omega, fun _ => by omega⟩
                    have hb := run_bounds (P := P) hs true (len := m) (cap := c) hl hh g1 g2 g4.1
                    refine ⟨.slice (if c = l.toNat then A else A.map (·.add (l.toNat * k'))) (h'.toNat - l.toNat) (c - l.toNat), by simp [execOp, ho, hxv, Instr.sliceAt, Instr.slice, run_underlying hu, hb, run_sizeOf hd', hkk], ?_⟩
                    refine .own (by omega) (by omega) hr ?_
                    rcases hcc with ⟨hnl, hcc⟩ | ⟨hnl, hA, hcap, hlen⟩
                    · exact .inl ⟨hnl, by omega⟩
                    · have g5 := g4.2 hnl
                      refine .inr ⟨hnl, ?_, by omega, by omega⟩
                      by_cases hz : c = l.toNat
                      · left; omega
                      · right
                        rw [if_neg hz]
                        obtain rfl := hA.resolve_left (by omega)
                        simp only [Option.map_some, Addr.add_lit, Nat.add_mul, Nat.add_assoc]
                · cases h
              · cases h
            · cases h
          · cases h
        · cases h
      · cases h
    · cases h
  · cases h

/-- A cut with three bounds: that it does not panic. -/
def evSlice3 (P : Program) (GT : Ctx) (s : St) (T : TypeId) (x : Operand) (lo : Option Operand) (hi mx : Operand) : Option Res :=
  match td P T, evBound GT s 0 lo, evBound GT s 0 (some hi), evBound GT s 0 (some mx) with
  | some d, some l, some h, some m => match d.kind with
    | .slice e => match td P e with
      | some _ => match ev GT s x with
        | .lst _ xs => some ⟨0 ≤ l ∧ l ≤ h ∧ h ≤ m ∧ m ≤ xs.length, .top, s⟩
        | .own _ _ _ n => some ⟨0 ≤ l ∧ l ≤ h ∧ h ≤ m ∧ m ≤ n, .top, s⟩
        | _ => none
      | none => none
    | _ => none
  | _, _, _, _ => none

theorem evSlice3_ok {T : TypeId} {x hi mx : Operand} {lo : Option Operand} {r : Res} (ho : o.op = .slice T x lo (some hi) (some mx)) (h : evSlice3 P GT s T x lo hi mx = some r) : StepPure P GT o s r := by
  unfold evSlice3 at h
  split at h
  · rename_i d l h' m hd hl hh hm
    split at h
    · rename_i e hk
      have hu := td_slice hd hk
      split at h
      · rename_i d' hd'
        have main : ∀ {w0 : World} {G : Nat → Prop} {p : Place} {I : Nat → Prop} {a : Act} {w : World} {A : Option Addr} {n c : Nat}, Sim GT w0 G p I s a w → a.eval x = .slice A n c → n ≤ c → 0 ≤ l → l ≤ h' → h' ≤ m → m ≤ (n : Int) →
            ∃ z, ∀ w', (execOp a.eval o).run P w' = .ok (.value z) w' := by
          intro w0 G p I a w A n c hs hxv hnc g1 g2 g3 g4
          obtain ⟨k2, e2⟩ : ∃ k, a.eval hi = .int k h' := by
            rcases bound_run hs hh with ⟨q, _⟩ | ⟨k, q⟩
            · cases q
            · exact ⟨k, by simpa using q⟩
          obtain ⟨k3, e3⟩ : ∃ k, a.eval mx = .int k m := by
            rcases bound_run hs hm with ⟨q, _⟩ | ⟨k, q⟩
            · cases q
            · exact ⟨k, by simpa using q⟩
          have b3 := fun w' => run_sliceBound (P := P) w' k3 (y := c) (show 0 ≤ m by omega) (by omega)
          have b2 := fun w' => run_sliceBound (P := P) w' k2 (y := m.toNat) (show 0 ≤ h' by omega) (by omega)
          rcases bound_run hs hl with ⟨e1, rfl⟩ | ⟨k1, e1⟩
          · exact ⟨_, fun w' => by simp [execOp, ho, hxv, e1, e2, e3, Instr.sliceAt, Instr.slice, run_underlying hu, Instr.sliceBounds, b2, b3, run_sizeOf hd']; rfl⟩
          · have b1 := fun w' => run_sliceBound (P := P) w' k1 (y := h'.toNat) g1 (by omega)
            exact ⟨_, fun w' => by simp [execOp, ho, hxv, e1, e2, e3, Instr.sliceAt, Instr.slice, run_underlying hu, Instr.sliceBounds, b1, b2, b3, run_sizeOf hd']; rfl⟩
        split at h
        · rename_i k xs hx
          injection h with h
          subst h
          refine stepOK_pure fun hn w0 G p I a w hs => ?_
          have hc := hs.ev x
          rw [hx] at hc
          generalize hxv : a.eval x = xv at hc
          cases hc with
          | @lst _ _ _ A c m' f hn' hcc =>
            obtain ⟨z, hz⟩ := main hs hxv (by omega) hn.1 hn.2.1 hn.2.2.1 (by have := hn.2.2.2; omega)
            exact ⟨z, fun w' _ => hz w', .top⟩
        · rename_i id k lo' n hx
          injection h with h
          subst h
          refine stepOK_pure fun hn w0 G p I a w hs => ?_
          have hc := hs.ev x
          rw [hx] at hc
          generalize hxv : a.eval x = xv at hc
          cases hc with
          | own hnc _ _ =>
            obtain ⟨z, hz⟩ := main hs hxv hnc hn.1 hn.2.1 hn.2.2.1 hn.2.2.2
            exact ⟨z, fun w' _ => hz w', .top⟩
        · cases h
      · cases h
    · cases h
  · cases h

end
end Go.Proofs.YtangkndckghblaaDoor.Abs
