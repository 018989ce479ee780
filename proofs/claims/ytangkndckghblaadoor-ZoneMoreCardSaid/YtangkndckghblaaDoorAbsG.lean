/- The abstract step in one; what is handed over at a call; contracts. -/
import Derived.Test.YtangkndckghblaaDoorAbsM
namespace Go.Proofs.YtangkndckghblaaDoor.Abs
set_option linter.unusedSimpArgs false
set_option linter.unusedVariables false
open Go Go.RowKit

def evBuiltin (P : Program) (GT : Ctx) (s : St) (b : Builtin) (args : List Operand) (ts : List TypeId) : Option Res :=
  match b, args, ts with
  | .len, [x], [t] => evLen P GT s t x
  | .append, [x, y], [t, t'] => if t = t' then evAppend P GT s t x y else none
  | .clear, [x], [t] => evClear P GT s t x
  | .min, [x, y], _ => evMinMax GT s true x y
  | .max, [x, y], _ => evMinMax GT s false x y
  | _, _, _ => none

theorem evBuiltin_ok {P : Program} {GT : Ctx} {o : Oper} {s : St} {r : Res} {b : Builtin} {args : Array Operand} {ts : Array TypeId} (ho : o.op = .call { callee := .builtin b, args := args, argTypes := ts })
    (h : evBuiltin P GT s b args.toList ts.toList = some r) : (StepPure P GT o s r ∨ ((b = .append ∨ b = .clear) ∧ StepOK P GT o s r)) := by
  obtain ⟨args⟩ := args
  obtain ⟨ts⟩ := ts
  unfold evBuiltin at h
  split at h
  · rename_i x t e1 e2
    simp only at e1 e2; subst e1; subst e2
    exact .inl (evLen_ok ho h)
  · rename_i x y t t' e1 e2
    simp only at e1 e2; subst e1; subst e2
    split at h
    · rename_i ht; subst ht; exact .inr ⟨.inl rfl, evAppend_ok ho h⟩
    · cases h
  · rename_i x t e1 e2
    simp only at e1 e2; subst e1; subst e2
    exact .inr ⟨.inr rfl, evClear_ok ho h⟩
  · rename_i x y _ e1
    simp only at e1; subst e1
    exact .inl (evMin_ok ho h)
  · rename_i x y _ e1
    simp only at e1; subst e1
    exact .inl (evMax_ok ho h)
  · cases h

def evalOp (P : Program) (GT : Ctx) (s : St) (op : Op) : Option Res :=
  match op with
  | .move x => some ⟨True, ev GT s x, s⟩
  | .assign x => some ⟨True, ev GT s x, s⟩
  | .pick c a b => evPick GT s c a b
  | .alloc E => evAlloc P s E
  | .box _ x => evBox GT s x
  | .build T parts => evBuild P GT s T parts
  | .buildSlice T n parts => evBuildSlice P GT s T n parts
  | .load T x => evLoad P GT s T x
  | .store T x v => evStore P GT s T x v
  | .binOp op T x y _ => evBinOp P GT s op T x y
  | .unOp op _ x => evUnOp GT s op x
  | .convert S D x => (evConvert P GT s S D x).or (evConvBytes P GT s S D x)
  | .makeFunc fn first captured => some (evMakeFunc GT s fn first captured)
  | .makeSlice T x y => evMakeSlice P GT s T x y
  | .slice T x lo hi none => evSlice P GT s T x lo hi
  | .slice T x lo (some hi) (some mx) => evSlice3 P GT s T x lo hi mx
  | .fieldAddr S x f => evFieldAddr P GT s S x f
  | .field S x f => evField P GT s S x f
  | .indexAddr T x i => evIndexAddr P GT s T x i
  | .index T x i => evIndex P GT s T x i
  | .extract x i => evExtract GT s x i
  | .lookup T x ix ok => evLookup P GT s T x ix ok
  | .makeMap T h => evMakeMap P GT s T h
  | .mapUpdate T m k v => evMapUpdate P GT s T m k v
  | .insert T m k v => evMapUpdate P GT s T m k v
  | .mapEntry T m k => evMapEntry P GT s T m k
  | .entryStore _ m k v => evEntryStore GT s m k v
  | .nilCheck x => evNilCheck GT s x
  | .call { callee := .builtin b, args := args, argTypes := ts } => evBuiltin P GT s b args.toList ts.toList
  | _ => none

/-- Operations that leave the world alone. -/
def Op.isPure : Op → Bool
  | .alloc .. => false
  | .box .. => false
  | .buildSlice .. => false
  | .store .. => false
  | .makeSlice .. => false
  | .makeMap .. => false
  | .mapUpdate .. => false
  | .insert .. => false
  | .mapEntry .. => false
  | .entryStore .. => false
  | .call { callee := .builtin .append, .. } => false
  | .call { callee := .builtin .clear, .. } => false
  | _ => true

theorem evalOp_cases {P : Program} {GT : Ctx} {o : Oper} {s : St} {r : Res} (h : evalOp P GT s o.op = some r) : StepPure P GT o s r ∨ (Op.isPure o.op = false ∧ StepOK P GT o s r) := by
  unfold evalOp at h
  split at h <;> rename_i ho
  · injection h with h; subst h
    exact .inl (stepOK_pure fun _ w0 G p I a w hs => ⟨_, by simp [execOp, ho], hs.ev _⟩)
  · injection h with h; subst h
    exact .inl (stepOK_pure fun _ w0 G p I a w hs => ⟨_, by simp [execOp, ho], hs.ev _⟩)
  · exact .inl (evPick_ok ho h)
  · exact .inr ⟨by simp [ho, Op.isPure], evAlloc_ok ho h⟩
  · exact .inr ⟨by simp [ho, Op.isPure], evBox_ok ho h⟩
  · exact .inl (evBuild_ok ho h)
  · exact .inr ⟨by simp [ho, Op.isPure], evBuildSlice_ok ho h⟩
  · exact .inl (evLoad_ok ho h)
  · exact .inr ⟨by simp [ho, Op.isPure], evStore_ok ho h⟩
  · exact .inl (evBinOp_ok ho h)
  · exact .inl (evUnOp_ok ho h)
  · rw [Option.or_eq_some_iff] at h
    rcases h with h | ⟨_, h⟩
    · exact .inl (evConvert_ok ho h)
    · exact .inl (evConvBytes_ok ho h)
  · injection h with h; subst h; exact .inl (evMakeFunc_ok ho)
  · exact .inr ⟨by simp [ho, Op.isPure], evMakeSlice_ok ho h⟩
  · exact .inl (evSlice_ok ho h)
  · exact .inl (evSlice3_ok ho h)
  · exact .inl (evFieldAddr_ok ho h)
  · exact .inl (evField_ok ho h)
  · exact .inl (evIndexAddr_ok ho h)
  · exact .inl (evIndex_ok ho h)
  · exact .inl (evExtract_ok ho h)
  · exact .inl (evLookup_ok ho h)
  · exact .inr ⟨by simp [ho, Op.isPure], evMakeMap_ok ho h⟩
  · exact .inr ⟨by simp [ho, Op.isPure], evMapUpdate_ok (.inl ho) h⟩
  · exact .inr ⟨by simp [ho, Op.isPure], evMapUpdate_ok (.inr ho) h⟩
  · exact .inr ⟨by simp [ho, Op.isPure], evMapEntry_ok ho h⟩
  · exact .inr ⟨by simp [ho, Op.isPure], evEntryStore_ok ho h⟩
  · exact .inl (evNilCheck_ok ho h)
  · exact (evBuiltin_ok ho h).imp id fun h => ⟨by rcases h.1 with h1 | h1 <;> simp [ho, h1, Op.isPure], h.2⟩
  · cases h

theorem evalOp_ok {P : Program} {GT : Ctx} {o : Oper} {s : St} {r : Res} (h : evalOp P GT s o.op = some r) : StepOK P GT o s r :=
  (evalOp_cases h).elim StepPure.ok fun h => h.2
theorem evalOp_pure {P : Program} {GT : Ctx} {o : Oper} {s : St} {r : Res} (h : evalOp P GT s o.op = some r) (hp : Op.isPure o.op = true) : StepPure P GT o s r :=
  (evalOp_cases h).elim id fun h => by rw [hp] at h; cases h.1

/- The names in a value. -/
mutual
def AV.names : AV → List Nat
  | .agg cs => AV.namesL cs
  | .tup cs => AV.namesL cs
  | .clo _ as bs => AV.namesL as ++ AV.namesL bs
  | .own i _ _ _ => [i]
  | .ref i _ => [i]
  | .eref i _ _ _ => [i]
  | .mref i => [i]
  | .top => []
  | .raw _ => []
  | .lst _ _ => []
  | .cptr _ => []
def AV.namesL : List AV → List Nat
  | [] => []
  | a :: as => AV.names a ++ AV.namesL as
end
/-- The objects that can be reached by names. -/
def St.reach (s : St) : Nat → List Nat → List Nat
  | 0, l => l
  | n + 1, l => (l.map fun i => i :: (match s.obj i with
    | .box cs => s.reach n (AV.namesL cs)
    | _ => [])).flatten

/- What is handed over (the objects of T), as what cannot be written. -/
def frzLeaf (s : St) (T : List Nat) (rec : AV → AV) : AV → AV
  | .own id k lo n => if T.contains id then (match s.obj id with
    | .arr k' xs => if k' = k then .lst k ((xs.drop lo).take n) else .top
    | _ => .top) else .own id k lo n
  | .eref id k i off => if T.contains id then (match s.obj id with
    | .arr k' xs => if k' = k then .cptr ((xs.getD i []).drop off) else .top
    | _ => .top) else .eref id k i off
  | .ref id off => if T.contains id then (match s.obj id with
    | .box cs => if AV.immL ((cs.drop off).map rec) then .cptr ((cs.drop off).map rec) else .top
    | _ => .top) else .ref id off
  | .mref id => if T.contains id then .top else .mref id
  | x => x
def AV.frz (s : St) (T : List Nat) : Nat → AV → AV
  | 0, x => x.leafs (frzLeaf s T fun _ => .top)
  | n + 1, x => x.leafs (frzLeaf s T (AV.frz s T n))
/-- The same, at a name. -/
def frzF (s : St) (T : List Nat) : AV → AV := frzLeaf s T (AV.frz s T 2)

/-- The blocks of the objects of T. -/
def blksOf (p : Place) (T : List Nat) (b : Nat) : Prop := ∃ i r, T.contains i = true ∧ p i = some r ∧ r.nul = false ∧ r.blk = b
/-- Without the objects of T. -/
def Place.drop (p : Place) (T : List Nat) : Place := fun i => if T.contains i then none else p i

section
variable {GT : Ctx} {w0 : World} {G : Nat → Prop} {p : Place} {I : Nat → Prop} {s : St} {a : Act} {w : World}

theorem Place.drop_not {p : Place} {T : List Nat} {i : Nat} (h : ¬ T.contains i = true) : p.drop T i = p i := by simp only [Place.drop]; rw [if_neg h]
theorem Place.drop_yes {p : Place} {T : List Nat} {i : Nat} (h : T.contains i = true) : p.drop T i = none := by simp only [Place.drop]; rw [if_pos h]

theorem frzLeaf_conc (hs : Sim GT w0 G p I s a w) (T : List Nat) (rec : AV → AV) (hrec : ∀ (v : Value) (x : AV), Conc I w p v x → Conc (fun b => I b ∨ blksOf p T b) w (p.drop T) v (rec x)) :
    ∀ (v : Value) (x : AV), x.isLeaf = true → Conc I w p v x → Conc (fun b => I b ∨ blksOf p T b) w (p.drop T) v (frzLeaf s T rec x) := by
  intro v x hx h
  have hI : ∀ b, I b → I b ∨ blksOf p T b := fun b hb => .inl hb
  cases h with
  | @own _ id k lo m A c r hm hc hr h =>
    simp only [frzLeaf]
    split
    · rename_i hT
      have hob := hs.obj id
      split
      · rename_i k' xs heq
        split
        · rename_i hkk
          subst hkk
          rw [heq] at hob
          by_cases hm0 : m = 0
          · subst hm0
            exact .lst (f := fun _ _ => undef) (by simp) hm hc (by simp) (.inl (by simp)) (by simp) (by simp)
          · obtain ⟨hnl, hA, hcap, hlen⟩ := h.resolve_left fun h => by omega
            replace hA := hA.resolve_left (by omega)
            obtain ⟨r', hr', ⟨hn, _⟩ | ⟨_, cs, E, hh, hl, hm', hsz, hk, hv⟩⟩ := hob
            · obtain rfl : r = r' := Option.some.inj (hr.symm.trans hr')
              rw [hnl] at hn; cases hn
            obtain rfl : r = r' := Option.some.inj (hr.symm.trans hr')
            have hyl : ((xs.drop lo).take m).length = m := by simp; omega
            have hcell : ∀ i j, i < m → j < k' → ∃ u, cs[r.base + (lo + i) * k' + j]? = some u ∧ u.oneCell' = true := by
              intro i j hi hj
              have hlt : lo + i < xs.length := by omega
              have hkl := hk _ (List.getElem_mem hlt)
              obtain ⟨u, e1, e2, _⟩ := hv (lo + i) j _ _ (List.getElem?_eq_getElem hlt) (List.getElem?_eq_getElem (by omega))
              exact ⟨u, e1, e2⟩
            refine .lst (f := fun i j => (cs[r.base + (lo + i) * k' + j]?).getD undef) hyl.symm hm hc (fun y hy => hk y (List.mem_of_mem_drop (List.mem_of_mem_take hy))) (.inr ⟨r.blk, r.base + lo * k', hA, .inr ⟨id, r, hT, hr, hnl, rfl⟩, fun i j hi hj => ?_⟩) (fun i j hi hj => ?_) fun i j y z e e' => ?_
            · rw [hyl] at hi
              obtain ⟨u, e1, _⟩ := hcell i j hi hj
              have : r.base + lo * k' + i * k' + j = r.base + (lo + i) * k' + j := by rw [Nat.add_mul]; omega
              simp [World.cell?, hh, this, e1]
            · rw [hyl] at hi
              obtain ⟨u, e1, e2⟩ := hcell i j hi hj
              simp [e1, e2]
            · rw [List.getElem?_take] at e
              split at e
              · rw [List.getElem?_drop] at e
                obtain ⟨u, e1, _, e3⟩ := hv (lo + i) j y z e e'
                simpa [e1] using e3.mono (fun _ _ => rfl) hI fun _ _ h => h
              · cases e
        · exact .top
      · exact .top
    · rename_i hT
      exact .own hm hc (by rw [Place.drop_not hT]; exact hr) h
  | @ref _ id off r hr hnl =>
    simp only [frzLeaf]
    split
    · rename_i hT
      have hob := hs.obj id
      split
      · rename_i cs heq
        rw [heq] at hob
        obtain ⟨r', c, E, hr', _, hh, hl, hv⟩ := hob
        obtain rfl : r = r' := Option.some.inj (hr.symm.trans hr')
        split
        · rename_i himm
          have hcell : ∀ j, j < (cs.drop off).length → ∃ u, c[r.base + off + j]? = some u ∧ u.oneCell' = true ∧ ∀ y, (cs.drop off)[j]? = some y → Conc I w p u y := by
            intro j hj
            have hj' : off + j < cs.length := by simp at hj; omega
            obtain ⟨u, e1, e2, e3⟩ := hv (off + j) _ (List.getElem?_eq_getElem hj')
            refine ⟨u, by rw [← e1]; congr 1; omega, e2, fun y ey => ?_⟩
            rw [List.getElem?_drop, List.getElem?_eq_getElem hj'] at ey
            injection ey with ey
            rw [← ey]; exact e3
          refine .cptr (f := fun j => (c[r.base + off + j]?).getD undef) (.inr ⟨id, r, hT, hr, hnl, rfl⟩) (fun j hj => ?_) (fun j hj => ?_) fun j y e => ?_
          · rw [List.length_map] at hj
            obtain ⟨u, e1, _⟩ := hcell j hj
            simp [World.cell?, hh, e1]
          · rw [List.length_map] at hj
            obtain ⟨u, e1, e2, _⟩ := hcell j hj
            simp [e1, e2]
          · obtain ⟨z, hz, rfl⟩ := map_get e
            have hj : j < (cs.drop off).length := (List.getElem?_eq_some_iff.1 hz).1
            obtain ⟨u, e1, _, e3⟩ := hcell j hj
            have := hrec _ _ (e3 z hz)
            simpa [e1] using this.ofImm (p' := noPlace) (AV.immL_mem himm _ (List.mem_of_getElem? e))
        · exact .top
      · exact .top
    · rename_i hT
      exact .ref (by rw [Place.drop_not hT]; exact hr) hnl
  | @eref _ id k i off r hr hnl =>
    simp only [frzLeaf]
    split
    · rename_i hT
      have hob := hs.obj id
      split
      · rename_i k' xs heq
        split
        · rename_i hkk
          subst hkk
          rw [heq] at hob
          obtain ⟨r', hr', ⟨hn, _⟩ | ⟨_, cs, E, hh, hl, hm', hsz, hk, hv⟩⟩ := hob
          · obtain rfl : r = r' := Option.some.inj (hr.symm.trans hr')
            rw [hnl] at hn; cases hn
          obtain rfl : r = r' := Option.some.inj (hr.symm.trans hr')
          have hcell : ∀ j y, ((xs.getD i []).drop off)[j]? = some y → ∃ u, cs[r.base + i * k' + off + j]? = some u ∧ u.oneCell' = true ∧ Conc I w noPlace u y := by
            intro j y e
            rw [List.getElem?_drop] at e
            obtain ⟨u, e1, e2, e3⟩ := hv i (off + j) _ _ (getD_some e).1 e
            exact ⟨u, by rw [← e1]; congr 1; omega, e2, e3⟩
          refine .cptr (f := fun j => (cs[r.base + i * k' + off + j]?).getD undef) (.inr ⟨id, r, hT, hr, hnl, rfl⟩) (fun j hj => ?_) (fun j hj => ?_) fun j y e => ?_
          · obtain ⟨u, e1, _⟩ := hcell j _ (List.getElem?_eq_getElem hj)
            simp [World.cell?, hh, e1]
          · obtain ⟨u, e1, e2, _⟩ := hcell j _ (List.getElem?_eq_getElem hj)
            simp [e1, e2]
          · obtain ⟨u, e1, _, e3⟩ := hcell j y e
            simpa [e1] using e3.mono (fun _ _ => rfl) hI fun _ _ h => h
        · exact .top
      · exact .top
    · rename_i hT
      exact .eref (by rw [Place.drop_not hT]; exact hr) hnl
  | @mref _ id r hr hnl =>
    simp only [frzLeaf]
    split
    · exact .top
    · rename_i hT
      exact .mref (by rw [Place.drop_not hT]; exact hr) hnl
  | _ => cases hx

theorem frz_conc (hs : Sim GT w0 G p I s a w) (T : List Nat) : ∀ (n : Nat) (v : Value) (x : AV), Conc I w p v x → Conc (fun b => I b ∨ blksOf p T b) w (p.drop T) v (x.frz s T n)
  | 0, _v, _x, h => h.leafs (fun _ _ => rfl) (fun _ h => .inl h) (frzLeaf_conc hs T _ fun _ _ _ => .top)
  | n + 1, _v, _x, h => h.leafs (fun _ _ => rfl) (fun _ h => .inl h) (frzLeaf_conc hs T _ (frz_conc hs T n))

theorem frzF_conc (hs : Sim GT w0 G p I s a w) (T : List Nat) (v : Value) (x : AV) (hx : x.isLeaf = true) (h : Conc I w p v x) : Conc (fun b => I b ∨ blksOf p T b) w (p.drop T) v (frzF s T x) :=
  frzLeaf_conc hs T _ (frz_conc hs T 2) v x hx h

/-- The state in which the objects of T are written no more. -/
def St.frz (s : St) (T : List Nat) : St :=
  { slots := AV.leafsL (frzF s T) s.slots, objs := s.objs.mapIdx fun i o => if T.contains i then .dead else o.leafs (frzF s T) }

theorem St.frz_obj (s : St) (T : List Nat) (i : Nat) : (s.frz T).obj i = if T.contains i then .dead else (s.obj i).leafs (frzF s T) := by
  simp only [St.frz, St.obj, List.getD_eq_getElem?_getD, List.getElem?_mapIdx]
  cases s.objs[i]? with
  | none => simp [Obj.leafs]
  | some o => rfl

theorem Sim.frz (h : Sim GT w0 G p I s a w) (T : List Nat) : Sim GT w0 G (p.drop T) (fun b => I b ∨ blksOf p T b) (s.frz T) a w := by
  have hp : ∀ i r, p.drop T i = some r → p i = some r ∧ T.contains i = false := by
    intro i r hi
    simp only [Place.drop] at hi
    split at hi
    · cases hi
    · exact ⟨hi, by simpa using ‹¬ T.contains i = true›⟩
  refine ⟨by simp [St.frz, AV.leafsL_eq, h.size], fun i v x e e' => ?_, h.defers, fun i => ?_, fun i j r r' hi hj hl hl' hb => h.inj i j r r' (hp i r hi).1 (hp j r' hj).1 hl hl' hb, fun i r hi hl => ?_, fun b hb => ?_, h.frame, fun g cs hg => (h.glob g cs hg).mono (fun _ _ => rfl) (fun _ h => .inl h) fun _ _ h => h, by simpa [St.frz] using h.given⟩
  · simp only [St.frz, AV.leafsL_eq] at e'
    obtain ⟨y, hy, rfl⟩ := map_get e'
    exact (h.slot i v y e hy).leafs (fun _ _ => rfl) (fun _ h => .inl h) (frzF_conc h T)
  · rw [St.frz_obj]
    split
    · rename_i hT
      exact Place.drop_yes hT
    · rename_i hT
      exact (h.obj i).leafs (fun _ _ => rfl) (fun _ h => .inl h) (fun _ _ _ => rfl) (Place.drop_not hT) (frzF_conc h T)
  · obtain ⟨hi, hT⟩ := hp i r hi
    obtain ⟨h1, h2, h3⟩ := h.own i r hi hl
    refine ⟨h1, h2, ?_⟩
    rintro (hb | ⟨j, r', hj, hr', hl', hb⟩)
    · exact h3 hb
    · have := h.inj j i r' r hr' hi hl' hl hb
      subst this
      rw [hT] at hj
      cases hj
  · rcases hb with hb | ⟨j, r', hj, hr', hl', hb⟩
    · exact h.imm b hb
    · rw [← hb]; exact (h.own j r' hr' hl').2.1

theorem frzF_nil (s : St) (x : AV) (hx : x.isLeaf = true) : frzF s [] x = x := by
  cases x <;> first | cases hx; done | simp [frzF, frzLeaf]
theorem St.frz_nil (s : St) : s.frz [] = s := by
  simp only [St.frz]
  rw [AV.leafsL_self _ (frzF_nil s)]
  congr 1
  apply List.ext_getElem?
  intro i
  rw [List.getElem?_mapIdx]
  cases s.objs[i]? with
  | none => rfl
  | some o => simp [Obj.leafs_self _ (frzF_nil s)]

end

/- What hangs on no memory but the call's own. -/
mutual
def AV.flat : AV → Bool
  | .agg cs => AV.flatL cs
  | .tup cs => AV.flatL cs
  | .clo _ as bs => AV.flatL as && AV.flatL bs
  | .lst _ xs => xs.isEmpty
  | .cptr _ => false
  | .top => true
  | .raw _ => true
  | .own _ _ _ _ => true
  | .ref _ _ => true
  | .eref _ _ _ _ => true
  | .mref _ => true
def AV.flatL : List AV → Bool
  | [] => true
  | a :: as => AV.flat a && AV.flatL as
end
theorem AV.flatL_mem {l : List AV} (h : AV.flatL l = true) : ∀ a, a ∈ l → a.flat = true := by
  induction l with
  | nil => intro a ha; cases ha
  | cons b l ih =>
    simp only [AV.flatL, Bool.and_eq_true] at h
    intro a ha
    rcases List.mem_cons.1 ha with rfl | ha
    · exact h.1
    · exact ih h.2 a ha
theorem Conc.ofFlat {I I' : Nat → Prop} {w w' : World} {p : Place} {v : Value} {x : AV} (h : Conc I w p v x) (hf : x.flat = true) : Conc I' w' p v x := by
  induction h with
  | top => exact .top
  | raw => exact .raw
  | agg hl h1 _ ih => exact .agg hl h1 fun i v a e e' => ih i v a e e' (AV.flatL_mem (by simpa [AV.flat] using hf) a (List.mem_of_getElem? e'))
  | tup hl _ ih => exact .tup hl fun i v a e e' => ih i v a e e' (AV.flatL_mem (by simpa [AV.flat] using hf) a (List.mem_of_getElem? e'))
  | @lst _ _ xs _ _ _ f hn hc hm =>
    have : xs = [] := by simpa [AV.flat] using hf
    subst this
    exact .lst (f := f) hn hc hm (by simp) (.inl rfl) (by simp) (by simp)
  | cptr => cases hf
  | own hn hm hp h => exact .own hn hm hp h
  | ref h hl => exact .ref h hl
  | eref h hl => exact .eref h hl
  | mref h hl => exact .mref h hl
  | clo hl hl' _ _ ih ih' =>
    simp only [AV.flat, Bool.and_eq_true] at hf
    exact .clo hl hl' (fun i v a e e' => ih i v a e e' (AV.flatL_mem hf.1 a (List.mem_of_getElem? e'))) fun i v a e e' => ih' i v a e e' (AV.flatL_mem hf.2 a (List.mem_of_getElem? e'))

def Obj.flat : Obj → Prop
  | .dead => True
  | .box cs => AV.flatL cs = true
  | .arr _ xs => ∀ x, x ∈ xs → AV.flatL x = true
  | .mp _ m => ∀ x, x ∈ m → x.2.flat = true

def flatRes (r : AV) (os : List Obj) : Prop := r.flat = true ∧ ∀ o, o ∈ os → o.flat

/-- Objects that a callee hands back, in a world. -/
structure Handed (I : Nat → Prop) (B : Nat → Prop) (w : World) (p : Place) (os : List Obj) : Prop where
  obj : ∀ id, ObjConc I w p id (os.getD id .dead)
  inj : ∀ i j r r', p i = some r → p j = some r' → r.nul = false → r'.nul = false → r.blk = r'.blk → i = j
  own : ∀ i r, p i = some r → r.nul = false → B r.blk ∧ r.blk < w.heap.size ∧ ¬ I r.blk

/-- A call can be entered. -/
def Enters (P : Program) (f : FuncId) : Prop := ∃ fn, P.funcs[f]? = some fn ∧ fn.body.isSome = true ∧ (fn.name == "runtime.NumGoroutine") = false

/-- Blocks of objects that are given away. -/
def blksAll (q : Place) (b : Nat) : Prop := ∃ i r, q i = some r ∧ r.nul = false ∧ r.blk = b

/-- Objects that a caller gives away. -/
structure Given (I : Nat → Prop) (w : World) (q : Place) (objs : List Obj) : Prop where
  obj : ∀ id, ObjConc I w q id (objs.getD id .dead)
  inj : ∀ i j r r', q i = some r → q j = some r' → r.nul = false → r'.nul = false → r.blk = r'.blk → i = j
  own : ∀ i r, q i = some r → r.nul = false → r.blk < w.heap.size ∧ ¬ I r.blk

/-- THE CONTRACT OF A GO FUNCTION: called with values of which 'args' is said, and with objects 'objs' that it may write, it returns a value of which r is said, and the objects are 'os': the given ones, each where it was or gone, then further ones. R: which r and os. -/
def Holds (P : Program) (GT : Globs) (f : FuncId) (args : List AV) (objs : List Obj) (R : AV → List Obj → Prop) : Prop :=
  Enters P f ∧ ∀ (w : World) (I : Nat → Prop) (vs : Array Value) (q0 : Place), vs.size = args.length → (∀ (i : Nat) (v : Value) (a : AV), vs[i]? = some v → args[i]? = some a → Conc I w q0 v a) →
    Given I w q0 objs → (∀ b, I b → b < w.heap.size) → (∀ g cs, (g, cs) ∈ GT → Conc I w noPlace (.pointer (some ⟨g, 0, none⟩)) (.cptr cs)) →
    Calls P f vs w fun e w' => ∃ v q I' r os, R r os ∧ e = .returned v ∧ Frm w (blksAll q0) w' ∧ (∀ b, I b → I' b) ∧ (∀ b, I' b → I b ∨ w.heap.size ≤ b ∨ blksAll q0 b) ∧ (∀ b, I' b → b < w'.heap.size) ∧
      Conc I' w' q v r ∧ Handed I' (fun b => w.heap.size ≤ b ∨ blksAll q0 b) w' q os ∧ ∀ i, i < objs.length → q i = q0 i ∨ q i = none

theorem Holds.mono {P : Program} {GT : Globs} {f : FuncId} {args : List AV} {objs : List Obj} {R R' : AV → List Obj → Prop} (h : Holds P GT f args objs R) (hr : ∀ r os, R r os → R' r os) : Holds P GT f args objs R' :=
  ⟨h.1, fun w I vs q0 h1 h2 h3 h4 h5 => (h.2 w I vs q0 h1 h2 h3 h4 h5).mono fun _ _ ⟨v, q, I', r, os, h, rest⟩ => ⟨v, q, I', r, os, hr r os h, rest⟩⟩

/-- One result. -/
def Ret (r : AV) (os : List Obj) : AV → List Obj → Prop := fun r' os' => r' = r ∧ os' = os

/-- The contract of a function that writes nothing that it gets: one value, with new objects. -/
abbrev Fn1 (P : Program) (GT : Globs) (f : FuncId) (args : List AV) (r : AV) (os : List Obj) : Prop := Holds P GT f args [] (Ret r os)

theorem callFunc_run {P : Program} {f : FuncId} (h : Enters P f) (vs : Array Value) (w : World) : (callFunc f vs).run P w = .ok (.enter f vs) w := by
  obtain ⟨fn, h1, h2, h3⟩ := h
  have h4 : ¬ fn.body = none := by cases hb : fn.body <;> simp_all
  have h5 : ¬ fn.name = "runtime.NumGoroutine" := by simpa using h3
  simp [callFunc, h1, h4, h5]

end Go.Proofs.YtangkndckghblaaDoor.Abs
