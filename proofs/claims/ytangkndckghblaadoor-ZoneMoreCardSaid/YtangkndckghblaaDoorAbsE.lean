/- The abstract step: append, make, len, built structs. -/
import Derived.Test.YtangkndckghblaaDoorAbsD
namespace Go.Proofs.YtangkndckghblaaDoor.Abs
set_option linter.unusedSimpArgs false
set_option linter.unusedVariables false
open Go Go.RowKit

def Obj.kill (id : Nat) (o : Obj) : Obj := o.leafs (AV.ren fun i => if i = id then none else some i)

section
variable {GT : Ctx} {w0 : World} {G : Nat → Prop} {p : Place} {I : Nat → Prop} {s : St} {a : Act} {w : World}

theorem ren_leaf {I I' : Nat → Prop} {w w' : World} {p p' : Place} {v : Value} {x : AV} (g : Nat → Option Nat) (hx : x.isLeaf = true) (h : Conc I w p v x)
    (hw : ∀ b, I b → w'.heap[b]? = w.heap[b]?) (hI : ∀ b, I b → I' b) (hg : ∀ i j r, g i = some j → p i = some r → p' j = some r) : Conc I' w' p' v (AV.ren g x) := by
  have := h.ren (I' := I') (w' := w') (p' := p') g hw hI hg
  cases x <;> first | cases hx; done | exact this

theorem ObjConc.ren {I' : Nat → Prop} {w' : World} {p' : Place} {id id' : Nat} {o : Obj} (g : Nat → Option Nat) (h : ObjConc I w p id o) (hw : ∀ b, I b → w'.heap[b]? = w.heap[b]?) (hI : ∀ b, I b → I' b)
    (hb : ∀ r, p id = some r → r.nul = false → w'.heap[r.blk]? = w.heap[r.blk]?) (hp : p' id' = p id) (hg : ∀ i j r, g i = some j → p i = some r → p' j = some r) : ObjConc I' w' p' id' (o.leafs (AV.ren g)) :=
  h.leafs hw hI hb hp fun _ _ hx hc => ren_leaf g hx hc hw hI hg

/-- An object is laid elsewhere (or lies where it lay, anew): all that named it is forgotten. -/
def St.relay (s : St) (id : Nat) (o : Obj) : St := { slots := AV.leafsL (AV.ren fun i => if i = id then none else some i) s.slots, objs := (s.objs.map (Obj.kill id)).set id o }

theorem Sim.relay (h : Sim GT w0 G p I s a w) {id : Nat} (hid : id < s.objs.length) (ro : Option Real) (o : Obj) {w' : World} (hsz : w.heap.size ≤ w'.heap.size)
    (hw : ∀ b, b < w.heap.size → (∀ r, p id = some r → r.nul = false → b ≠ r.blk) → w'.heap[b]? = w.heap[b]?) (hos : w'.os = w.os) (htape : w'.tape = w.tape) (hout : w'.output = w.output)
    (hro : ∀ r', ro = some r' → r'.nul = false → (w0.heap.size ≤ r'.blk ∨ G r'.blk) ∧ r'.blk < w'.heap.size ∧ ¬ I r'.blk ∧ ∀ j r, j ≠ id → p j = some r → r.nul = false → r.blk ≠ r'.blk)
    (ho : ObjConc I w' (p.with id ro) id o) : Sim GT w0 G (p.with id ro) I (s.relay id o) a w' := by
  have hp : ∀ i, i ≠ id → p.with id ro i = p i := fun i hi => Place.with_other _ _ hi
  have hI : ∀ b, I b → w'.heap[b]? = w.heap[b]? := fun b hb => hw b (h.imm b hb) fun r hr hl => by rintro rfl; exact (h.own id r hr hl).2.2 hb
  have hg : ∀ i j r, (if i = id then none else some i) = some j → p i = some r → p.with id ro j = some r := fun i j r hg hr => by
    split at hg
    · cases hg
    · injection hg with hg; subst hg; rw [hp _ (by assumption)]; exact hr
  refine ⟨by simp [St.relay, AV.leafsL_eq, h.size], fun i v x e e' => ?_, h.defers, fun j => ?_, fun i j r r' hi hj hl hl' hb => ?_, fun i r hi hl => ?_, fun b hb => ?_, ?_, fun g cs hg => (h.glob g cs hg).mono hI (fun _ h => h) fun _ _ h => h, by simpa [St.relay] using h.given⟩
  · simp only [St.relay, AV.leafsL_eq] at e'
    obtain ⟨y, hy, rfl⟩ := map_get e'
    exact (h.slot i v y e hy).ren _ hI (fun _ h => h) hg
  · by_cases hj : j = id
    · subst hj
      simpa [St.obj, St.relay, hid] using ho
    · have hob : (s.relay id o).obj j = (s.obj j).kill id := by
        simp only [St.obj, St.relay, List.getD_eq_getElem?_getD, List.getElem?_set]
        rw [if_neg (fun e => hj e.symm), List.getElem?_map]
        cases s.objs[j]? <;> rfl
      rw [hob]
      exact (h.obj j).ren _ hI (fun _ h => h) (fun r hr hl => hw _ (h.own j r hr hl).2.1 fun r' hr' hl' e => hj (h.inj _ _ _ _ hr hr' hl hl' e)) (hp j hj) hg
  · by_cases h1 : i = id <;> by_cases h2 : j = id
    · rw [h1, h2]
    · subst h1
      rw [Place.with_same] at hi
      rw [hp _ h2] at hj
      exact absurd hb.symm ((hro r hi hl).2.2.2 j r' h2 hj hl')
    · subst h2
      rw [Place.with_same] at hj
      rw [hp _ h1] at hi
      exact absurd hb ((hro r' hj hl').2.2.2 i r h1 hi hl)
    · rw [hp _ h1] at hi
      rw [hp _ h2] at hj
      exact h.inj i j r r' hi hj hl hl' hb
  · by_cases h1 : i = id
    · subst h1
      rw [Place.with_same] at hi
      obtain ⟨h1, h2, h3, _⟩ := hro r hi hl
      exact ⟨h1, h2, h3⟩
    · rw [hp _ h1] at hi
      obtain ⟨h1, h2, h3⟩ := h.own i r hi hl
      exact ⟨h1, by omega, h3⟩
  · have := h.imm b hb
    omega
  · refine ⟨hos.trans h.frame.os, htape.trans h.frame.tape, hout.trans h.frame.output, by have := h.frame.size; omega, fun k hk hg => ?_⟩
    rw [hw k (by have := h.frame.size; omega)]
    · exact h.frame.block k hk hg
    · rintro r hr hl rfl
      rcases (h.own id r hr hl).1 with h1 | h1
      · omega
      · exact hg h1

/-- An object gets a new name. -/
def St.move (s : St) (id : Nat) : St :=
  { slots := AV.leafsL (AV.ren fun i => some (if i = id then s.objs.length else i)) s.slots, objs := ((s.objs.map (Obj.leafs (AV.ren fun i => some (if i = id then s.objs.length else i)))).set id .dead) ++ [(s.obj id).leafs (AV.ren fun i => some (if i = id then s.objs.length else i))] }

theorem Sim.move (h : Sim GT w0 G p I s a w) {id : Nat} (hid : id < s.objs.length) : Sim GT w0 G ((p.with id none).with s.objs.length (p id)) I (s.move id) a w ∧
    ∀ (v : Value) (x : AV), Conc I w p v x → Conc I w ((p.with id none).with s.objs.length (p id)) v (x.leafs (AV.ren fun i => some (if i = id then s.objs.length else i))) := by
  have hne : id ≠ s.objs.length := by omega
  have hp1 : ((p.with id none).with s.objs.length (p id)) s.objs.length = p id := Place.with_same _ _ _
  have hp2 : ((p.with id none).with s.objs.length (p id)) id = none := by rw [Place.with_other _ _ hne, Place.with_same]
  have hp3 : ∀ i, i ≠ id → i ≠ s.objs.length → ((p.with id none).with s.objs.length (p id)) i = p i := fun i h1 h2 => by rw [Place.with_other _ _ h2, Place.with_other _ _ h1]
  have hg : ∀ i j r, (some (if i = id then s.objs.length else i)) = some j → p i = some r → ((p.with id none).with s.objs.length (p id)) j = some r := fun i j r hg hr => by
    injection hg with hg
    subst hg
    split
    · rename_i hi; subst hi; rw [hp1]; exact hr
    · rename_i hi; rw [hp3 i hi (by have := h.lt hr; omega)]; exact hr
  have hinv : ∀ i r, ((p.with id none).with s.objs.length (p id)) i = some r → ∃ i', p i' = some r ∧ ((i = s.objs.length ∧ i' = id) ∨ (i ≠ s.objs.length ∧ i ≠ id ∧ i' = i)) := fun i r hi => by
    by_cases h1 : i = s.objs.length
    · subst h1; rw [hp1] at hi; exact ⟨id, hi, .inl ⟨rfl, rfl⟩⟩
    · by_cases h2 : i = id
      · subst h2; rw [hp2] at hi; cases hi
      · rw [hp3 i h2 h1] at hi; exact ⟨i, hi, .inr ⟨h1, h2, rfl⟩⟩
  have hconc : ∀ (v : Value) (x : AV), Conc I w p v x → Conc I w ((p.with id none).with s.objs.length (p id)) v (x.leafs (AV.ren fun i => some (if i = id then s.objs.length else i))) :=
    fun v x hx => hx.ren _ (fun _ _ => rfl) (fun _ h => h) hg
  refine ⟨⟨by simp [St.move, AV.leafsL_eq, h.size], fun i v x e e' => ?_, h.defers, fun j => ?_, fun i j r r' hi hj hl hl' hb => ?_, fun i r hi hl => ?_, h.imm, h.frame, h.glob, by have := h.given; simp [St.move]; omega⟩, hconc⟩
  · simp only [St.move, AV.leafsL_eq] at e'
    obtain ⟨y, hy, rfl⟩ := map_get e'
    exact hconc v y (h.slot i v y e hy)
  · have hren := fun i k => (h.obj i).ren (id' := k) (p' := (p.with id none).with s.objs.length (p id)) (fun i => some (if i = id then s.objs.length else i)) (fun _ _ => rfl) (fun _ h => h) (fun _ _ _ => rfl)
    by_cases h1 : j = s.objs.length
    · subst h1
      have : (s.move id).obj s.objs.length = (s.obj id).leafs (AV.ren fun i => some (if i = id then s.objs.length else i)) := by
        simp only [St.obj, St.move, List.getD_eq_getElem?_getD]
        rw [List.getElem?_append_right (by simp)]
        simp
      rw [this]
      exact hren id _ hp1 hg
    · by_cases h2 : j = id
      · subst h2
        have : (s.move j).obj j = .dead := by
          simp only [St.obj, St.move, List.getD_eq_getElem?_getD]
          rw [List.getElem?_append_left (by simpa using hid)]
          simp [hid]
        rw [this]
        exact hp2
      · have : (s.move id).obj j = (s.obj j).leafs (AV.ren fun i => some (if i = id then s.objs.length else i)) := by
          simp only [St.obj, St.move, List.getD_eq_getElem?_getD]
          rcases Nat.lt_or_ge j s.objs.length with hlt | hge
          · rw [List.getElem?_append_left (by simpa using hlt), List.getElem?_set, if_neg (fun e => h2 e.symm), List.getElem?_map, List.getElem?_eq_getElem hlt]
            rfl
          · rw [List.getElem?_eq_none (by simp; omega), List.getElem?_eq_none hge]
            rfl
        rw [this]
        exact hren j _ (hp3 j h2 h1) hg
  · obtain ⟨i', hi', hii⟩ := hinv i r hi
    obtain ⟨j', hj', hjj⟩ := hinv j r' hj
    have := h.inj i' j' r r' hi' hj' hl hl' hb
    subst this
    rcases hii with ⟨rfl, rfl⟩ | ⟨_, h1, rfl⟩ <;> rcases hjj with ⟨rfl, h2⟩ | ⟨_, h3, h4⟩
    · rfl
    · exact absurd h4.symm h3
    · exact absurd h2 h1
    · exact h4
  · obtain ⟨i', hi', _⟩ := hinv i r hi
    exact h.own i' r hi' hl

/-- What is appended: the elements of a slice. -/
def srcOf (s : St) (k : Nat) : AV → Option (List (List AV))
  | .lst k' xs => if k' = k then some xs else none
  | .own id k' lo n => if k' = k then (match s.obj id with
    | .arr k'' xs => if k'' = k then some ((xs.drop lo).take n) else none
    | _ => none) else none
  | .raw (.slice none 0 0) => some []
  | _ => none

/-- The cells of a list of elements, one behind the other. -/
theorem flat_get (k : Nat) (f : Nat → Nat → Value) (n j : Nat) (hj : j < n * k) : ((List.range (n * k)).map fun j => f (j / k) (j % k))[j]? = some (f (j / k) (j % k)) := by
  rw [List.getElem?_map, List.getElem?_range hj]; rfl

theorem divmod (k i j : Nat) (hj : j < k) : (i * k + j) / k = i ∧ (i * k + j) % k = j := by
  have hk : 0 < k := by omega
  constructor
  · rw [Nat.mul_comm, Nat.mul_add_div hk, Nat.div_eq_of_lt hj]; rfl
  · rw [Nat.mul_comm, Nat.mul_add_mod, Nat.mod_eq_of_lt hj]

theorem div_lt {k n j : Nat} (h : j < n * k) : j / k < n ∧ j % k < k ∧ j = j / k * k + j % k := by
  have hk : 0 < k := by
    rcases Nat.eq_zero_or_pos k with h0 | h0
    · subst h0; simp at h
    · exact h0
  refine ⟨Nat.div_lt_of_lt_mul (by rw [Nat.mul_comm]; exact h), Nat.mod_lt _ hk, ?_⟩
  rw [Nat.mul_comm]; exact (Nat.div_add_mod j k).symm

theorem src_conc (hs : Sim GT w0 G p I s a w) {k : Nat} {v : Value} {x : AV} {ys : List (List AV)} (hc : Conc I w p v x) (he : srcOf s k x = some ys) :
    ∃ (A : Option Addr) (c : Nat) (f : Nat → Nat → Value), v = .slice A ys.length c ∧ (∀ y, y ∈ ys → y.length = k) ∧
      (ys = [] ∨ ∃ b off, A = some ⟨b, off, none⟩ ∧ b < w.heap.size ∧ ∀ i j, i < ys.length → j < k → w.cell? ⟨b, off + i * k + j, none⟩ = some (f i j)) ∧
      (∀ i j, i < ys.length → j < k → (f i j).oneCell' = true) ∧
      (∀ (i j : Nat) (y : List AV) (z : AV), ys[i]? = some y → y[j]? = some z → Conc I w noPlace (f i j) z) := by
  cases hc with
  | @lst _ k' xs A c n f hn hc hm hk hx h1 h =>
    simp only [srcOf] at he
    split at he
    · rename_i hkk
      subst hkk
      injection he with he
      subst he
      subst hn
      refine ⟨A, c, f, rfl, hk, ?_, h1, h⟩
      rcases hx with hx | ⟨b, off, hA, hb, hx⟩
      · exact .inl hx
      · exact .inr ⟨b, off, hA, hs.imm b hb, hx⟩
    · cases he
  | @own _ id k' lo n A c r hn hm hr h =>
    simp only [srcOf] at he
    split at he
    · rename_i hkk
      subst hkk
      have hob := hs.obj id
      split at he
      · rename_i k'' xs heq
        split at he
        · rename_i hkk
          subst hkk
          injection he with he
          rw [heq] at hob
          obtain ⟨r', hr', hob⟩ := hob
          obtain rfl : r = r' := Option.some.inj (hr.symm.trans hr')
          rcases hob with ⟨hnl, hx⟩ | ⟨hnl, cs, E, hh, hl, hm', hsz, hkx, hv⟩
          · subst hx
            simp at he
            subst he
            have hn0 : n = 0 := by
              rcases h with ⟨_, h⟩ | ⟨h, _⟩
              · omega
              · rw [hnl] at h; cases h
            subst hn0
            exact ⟨A, c, fun _ _ => undef, rfl, by simp, .inl rfl, by simp, by simp⟩
          · subst he
            by_cases hn0 : n = 0
            · subst hn0
              exact ⟨A, c, fun _ _ => undef, by simp, by simp, .inl (by simp), by simp, by simp⟩
            · have hc0 : c ≠ 0 := by omega
              obtain ⟨_, hA, hcap, hln⟩ := h.resolve_left (fun h => hc0 h.2)
              replace hA := hA.resolve_left hc0
              have hlen : lo + n ≤ xs.length := by omega
              -- the elements that are there
              have hget : ∀ (i j : Nat) (y : List AV) (z : AV), ((xs.drop lo).take n)[i]? = some y → y[j]? = some z → i < n ∧ xs[lo + i]? = some y := by
                intro i j y z e _
                rw [List.getElem?_take] at e
                split at e
                · rw [List.getElem?_drop] at e; exact ⟨by assumption, e⟩
                · cases e
              · have hyl : ((xs.drop lo).take n).length = n := by simp; omega
                have hcell : ∀ i j, i < n → j < k'' → ∃ u, cs[r.base + (lo + i) * k'' + j]? = some u ∧ u.oneCell' = true := by
                  intro i j hi hj
                  have hlt : lo + i < xs.length := by omega
                  have hkl := hkx _ (List.getElem_mem hlt)
                  obtain ⟨u, e1, e2, _⟩ := hv (lo + i) j _ _ (List.getElem?_eq_getElem hlt) (List.getElem?_eq_getElem (by omega))
                  exact ⟨u, e1, e2⟩
                refine ⟨A, c, fun i j => (cs[r.base + (lo + i) * k'' + j]?).getD undef, by rw [hyl], fun y hy => hkx y (List.mem_of_mem_drop (List.mem_of_mem_take hy)), .inr ⟨r.blk, r.base + lo * k'', hA, (hs.own id r hr hnl).2.1, fun i j hi hj => ?_⟩, fun i j hi hj => ?_, fun i j y z e e' => ?_⟩
                · rw [hyl] at hi
                  obtain ⟨u, e1, _⟩ := hcell i j hi hj
                  have : r.base + lo * k'' + i * k'' + j = r.base + (lo + i) * k'' + j := by rw [Nat.add_mul]; omega
                  simp [World.cell?, hh, this, e1]
                · rw [hyl] at hi
                  obtain ⟨u, e1, e2⟩ := hcell i j hi hj
                  simp [e1, e2]
                · obtain ⟨hi, e⟩ := hget i j y z e e'
                  obtain ⟨u, e1, _, e3⟩ := hv (lo + i) j y z e e'
                  simpa [e1] using e3
        · cases he
      · cases he
    · cases he
  | raw =>
    unfold srcOf at he
    split at he
    · rename_i heq; cases heq
    · rename_i heq; cases heq
    · rename_i heq
      injection heq with heq
      subst heq
      injection he with he
      subst he
      exact ⟨none, 0, fun _ _ => undef, rfl, by simp, .inl rfl, by simp, by simp⟩
    · cases he
  | _ => cases he
end

section
variable {P : Program}

/-- 'append' where there is room. -/
theorem run_append_at (w : World) (t ty e : TypeId) (i : TypeInfo) (ht : P.underlying t = some (.slice e)) (hi : P.info? e = some i)
    (g o sLen sCap : Nat) (cur : Array Value) (hg : w.heap[g]? = some (.cells cur e (0, 0)))
    (X : Option Addr) (m c : Nat) (news : List Value) (hnew : (Builtin.firstCells i.size m (.slice X m c)).run P w = .ok news.toArray w) (h1 : ∀ u ∈ news, u.oneCell' = true)
    (hroom : sLen + m ≤ sCap) (hfit : o + sLen * i.size + news.length ≤ cur.size) :
    (Builtin.append_ #[t, t] ty #[.slice (some ⟨g, o, none⟩) sLen sCap, .slice X m c]).run P w =
      .ok (.slice (some ⟨g, o, none⟩) (sLen + m) sCap) (w.setRow g (cur.toList.take (o + sLen * i.size) ++ news ++ cur.toList.drop (o + sLen * i.size + news.length)).toArray) := by
  have hst := run_storeCells_at P g (o + sLen * i.size) e news 0 cur w hg (by simpa using hfit) h1
  simp only [Nat.add_zero] at hst
  simp [Builtin.append_, run_underlying ht, sizeOf, typeInfo, hi, Builtin.lenOf, hroom, hnew, Addr.add_lit, hst]

/-- 'append' of nothing. -/
theorem run_append_none (w : World) (t ty e : TypeId) (i : TypeInfo) (ht : P.underlying t = some (.slice e)) (hi : P.info? e = some i)
    (S : Option Addr) (sLen sCap : Nat) (X : Option Addr) (c : Nat) (hroom : sLen ≤ sCap) :
    (Builtin.append_ #[t, t] ty #[.slice S sLen sCap, .slice X 0 c]).run P w = .ok (.slice S sLen sCap) w := by
  have hf : (Builtin.firstCells i.size 0 (.slice X 0 c)).run P w = .ok #[] w := by
    cases X <;> simp [Builtin.firstCells, loadCells, loadCellsFrom]
  cases S <;> simp [Builtin.append_, run_underlying ht, sizeOf, typeInfo, hi, Builtin.lenOf, hroom, hf, storeCells]

/-- 'append' where a new array is made. -/
theorem run_append_new (w : World) (t ty e : TypeId) (i : TypeInfo) (z : Value) (ht : P.underlying t = some (.slice e)) (hi : P.info? e = some i) (hz : i.zero = some z)
    (S : Option Addr) (sLen sCap : Nat) (olds : List Value) (hold : (Builtin.firstCells i.size sLen (.slice S sLen sCap)).run P w.drew = .ok olds.toArray w.drew)
    (X : Option Addr) (m c : Nat) (news : List Value) (hnew : (Builtin.firstCells i.size m (.slice X m c)).run P w.drew = .ok news.toArray w.drew)
    (hg : sCap < sLen + m) (h63 : ((sLen + m : Nat) : Int) ≤ 9223372036854775807) (hfit : Builtin.nextslicecap (sLen + m) sCap * i.bytes ≤ 281474976710656) :
    (Builtin.append_ #[t, t] ty #[.slice S sLen sCap, .slice X m c]).run P w =
      .ok (.slice (some ⟨w.heap.size, 0, none⟩) (sLen + m) (grownCap w (sLen + m) sCap e))
        (w.drew.alloc (.cells (olds.toArray ++ news.toArray ++ Builtin.zeroCells z.cells (grownCap w (sLen + m) sCap e - (sLen + m))) e)) := by
  have hn : ¬ (sLen + m ≤ sCap) := by omega
  have h63' : ¬ (9223372036854775807 < ((sLen : Int) + (m : Int))) := by omega
  have h48' : ¬ (281474976710656 < Builtin.nextslicecap (sLen + m) sCap * i.bytes) := by omega
  simp [Builtin.append_, run_underlying ht, sizeOf, typeInfo, zeroValue, hi, hz, Builtin.lenOf, hn, h63', h48', Question.forced, hold, hnew, newRow, grownCap]
  congr 2
  apply Array.ext'
  simp [List.append_assoc]
end

section
variable {P : Program} {GT : Ctx} {o : Oper} {s : St}

/-- Where a slice is appended to itself: in place. -/
def selfSrc : AV → AV → Bool
  | .own id _ _ _, .own id' _ _ _ => id == id'
  | _, _ => false

def evAppend (P : Program) (GT : Ctx) (s : St) (t : TypeId) (x y : Operand) : Option Res :=
  match td P t with
  | some d => match d.kind with
    | .slice e => match td P e with
      | some d' => match d'.zero, srcOf s d'.size (ev GT s y) with
        | some z, some ys =>
          if z.length = d'.size then
          match ev GT s x with
          | .raw (.slice none 0 0) => some ⟨ys.length * d'.bytes ≤ 140737488355328 ∧ ys.length ≤ 9223372036854775807, .own s.objs.length d'.size 0 ys.length, { s with objs := s.objs ++ [.arr d'.size ys] }⟩
          | .own id k lo n => match s.obj id with
            | .arr k' xs => if k = d'.size ∧ k' = k then
                (if selfSrc (.own id k lo n) (ev GT s y) then some ⟨lo + n + ys.length ≤ xs.length, .own id k lo (n + ys.length), { s with objs := s.objs.set id (.arr k (xs.take (lo + n) ++ ys ++ xs.drop (lo + n + ys.length))) }⟩
                else if id < GT.given then
                  some ⟨lo + n = xs.length ∧ (n + ys.length) * d'.bytes ≤ 140737488355328 ∧ n + ys.length ≤ 9223372036854775807, .own s.objs.length k 0 (n + ys.length), (s.relay id (.arr k (xs.drop lo ++ ys))).move id⟩
                else some ⟨lo + n = xs.length ∧ (n + ys.length) * d'.bytes ≤ 140737488355328 ∧ n + ys.length ≤ 9223372036854775807, .own id k 0 (n + ys.length), s.relay id (.arr k (xs.drop lo ++ ys))⟩)
              else none
            | _ => none
          | _ => none
          else none
        | _, _ => none
      | none => none
    | _ => none
  | none => none

/-- The cells of a list of elements. -/
def flatCells (k n : Nat) (f : Nat → Nat → Value) : List Value := (List.range (n * k)).map fun j => f (j / k) (j % k)
theorem flatCells_length (k n : Nat) (f : Nat → Nat → Value) : (flatCells k n f).length = n * k := by simp [flatCells]
theorem flatCells_get (k n : Nat) (f : Nat → Nat → Value) {i j : Nat} (hi : i < n) (hj : j < k) : (flatCells k n f)[i * k + j]? = some (f i j) := by
  have hlt : i * k + j < n * k := by
    have := Nat.mul_le_mul_right k (show i + 1 ≤ n by omega)
    rw [Nat.add_mul] at this
    omega
  have := flat_get k f n _ hlt
  obtain ⟨h1, h2⟩ := divmod k i j hj
  rw [h1, h2] at this
  exact this
theorem flatCells_one {k n : Nat} {f : Nat → Nat → Value} (h : ∀ i j, i < n → j < k → (f i j).oneCell' = true) : ∀ u ∈ flatCells k n f, u.oneCell' = true := by
  intro u hu
  simp only [flatCells, List.mem_map, List.mem_range] at hu
  obtain ⟨j, hj, rfl⟩ := hu
  obtain ⟨h1, h2, _⟩ := div_lt hj
  exact h _ _ h1 h2
theorem run_flat (w : World) (k n : Nat) (f : Nat → Nat → Value) (b off c : Nat) (h : ∀ i j, i < n → j < k → w.cell? ⟨b, off + i * k + j, none⟩ = some (f i j)) :
    (Builtin.firstCells k n (.slice (some ⟨b, off, none⟩) n c)).run P w = .ok (flatCells k n f).toArray w := by
  refine run_firstCells_some w k n ⟨b, off, none⟩ n c _ (flatCells_length _ _ _) fun j v hv => ?_
  have hj : j < n * k := by
    have := (List.getElem?_eq_some_iff.1 hv).1
    rwa [flatCells_length] at this
  obtain ⟨h1, h2, h3⟩ := div_lt hj
  have := flat_get k f n j hj
  rw [show (flatCells k n f)[j]? = some (f (j / k) (j % k)) from this] at hv
  injection hv with hv
  subst hv
  rw [Addr.add_lit]
  have := h _ _ h1 h2
  rw [← this]
  congr 2
  omega

theorem zeroCells_size (z : Array Value) (n : Nat) : (Builtin.zeroCells z n).size = n * z.size := by simp [Builtin.zeroCells]

/-- A new array that holds these elements, and room behind them. -/
theorem arr_new {I : Nat → Prop} {w' : World} {p : Place} {id k cap : Nat} {xs : List (List AV)} {b : Nat} {E : TypeId} {rest : Array Value} {F : Nat → Nat → Value} (hp : p id = some ⟨b, 0, cap, xs.length, false⟩)
    (hh : w'.heap[b]? = some (.cells ((flatCells k xs.length F).toArray ++ rest) E (0, 0))) (hl : xs.length ≤ cap) (hm : cap ≤ maxLen) (hr : rest.size = (cap - xs.length) * k) (hk : ∀ x, x ∈ xs → x.length = k)
    (h1 : ∀ i j, i < xs.length → j < k → (F i j).oneCell' = true) (h : ∀ (i j : Nat) (x : List AV) (a : AV), xs[i]? = some x → x[j]? = some a → Conc I w' noPlace (F i j) a) : ObjConc I w' p id (.arr k xs) := by
  refine ⟨⟨b, 0, cap, xs.length, false⟩, hp, .inr ⟨rfl, _, E, hh, ⟨hl, rfl⟩, hm, ?_, hk, fun i j x a e e' => ?_⟩⟩
  · simp [flatCells_length, hr, ← Nat.add_mul]
    rw [Nat.add_sub_cancel' hl]
    exact Nat.le_refl _
  · have hi : i < xs.length := (List.getElem?_eq_some_iff.1 e).1
    have hj : j < k := by rw [← hk x (List.mem_of_getElem? e)]; exact (List.getElem?_eq_some_iff.1 e').1
    refine ⟨F i j, ?_, h1 i j hi hj, h i j x a e e'⟩
    have := flatCells_get k xs.length F hi hj
    simp only [Nat.zero_add]
    rw [Array.getElem?_append_left, List.getElem?_toArray, this]
    have := (List.getElem?_eq_some_iff.1 this).1
    simpa using this

theorem yields_append {t : TypeId} {x y : Operand} (ho : o.op = .call { callee := .builtin .append, args := #[x, y], argTypes := #[t, t] }) {a : Act} {w w' : World} {vx vy v : Value} (e1 : a.eval x = vx) (e2 : a.eval y = vy)
    (hr : (Builtin.append_ #[t, t] o.type #[vx, vy]).run P w = .ok v w') : Yields P o a w v w' := by
  left
  simp [execOp, ho, resolve, invoke, builtin, e1, e2, hr]

/-- Behind the tip of an array. -/
theorem append_tip {t e : TypeId} {i : TypeInfo} {z : Value} {sz : Nat} {x y : Operand} (ho : o.op = .call { callee := .builtin .append, args := #[x, y], argTypes := #[t, t] })
    (hu : P.underlying t = some (.slice e)) (hi : P.info? e = some i) (hzi : i.zero = some z) (hsize : i.size = sz) (hzs : z.cells.size = sz) {id lo n : Nat} {xs ys : List (List AV)}
    (hx : ev GT s x = .own id sz lo n) (hob : s.obj id = .arr sz xs) (hys : srcOf s sz (ev GT s y) = some ys) (hn1 : lo + n = xs.length) (hn2 : (n + ys.length) * i.bytes ≤ 140737488355328) (hn3 : n + ys.length ≤ 9223372036854775807)
    {w0 : World} {G : Nat → Prop} {p : Place} {I : Nat → Prop} {a : Act} {w : World} (hs : Sim GT w0 G p I s a w) :
    ∃ ro v w', Yields P o a w v w' ∧ Sim GT w0 G (p.with id ro) I (s.relay id (.arr sz (xs.drop lo ++ ys))) a w' ∧ Conc I w' (p.with id ro) v (.own id sz 0 (n + ys.length)) := by
  have hcx := hs.ev x
  rw [hx] at hcx
  generalize hvx : a.eval x = vx at hcx
  obtain ⟨A, c, f, hvy, hyk, hyc, hy1, hyv⟩ := src_conc hs (hs.ev y) hys
  have hid : id < s.objs.length := obj_lt (by rw [hob]; simp)
  have ho' := hs.obj id
  rw [hob] at ho'
  cases hcx with
  | @own _ _ _ _ _ S sc r hsn hsm hr hsc =>
    obtain ⟨r', hr', ho'⟩ := ho'
    obtain rfl : r = r' := Option.some.inj (hr.symm.trans hr')
    -- the elements that are kept
    have hkept : (∀ z, z ∈ xs.drop lo ++ ys → z.length = sz) := by
      intro z hz
      rcases List.mem_append.1 hz with hz | hz
      · rcases ho' with ⟨_, hx0⟩ | ⟨_, _, _, _, _, _, _, hkx, _⟩
        · subst hx0; simp at hz
        · exact hkx z (List.mem_of_mem_drop hz)
      · exact hyk z hz
    have hlen : (xs.drop lo ++ ys).length = n + ys.length := by simp; omega
    by_cases hroom : n + ys.length ≤ sc
    · by_cases hy0 : ys = []
      · -- nothing is appended
        subst hy0
        have hrun := run_append_none w t o.type e i hu hi S n sc A c hsn
        rcases hsc with ⟨hnl, hsc⟩ | ⟨hnl, hS, hcap, hcl⟩
        · have hn0 : n = 0 := by omega
          subst hn0
          rcases ho' with ⟨_, hx0⟩ | ⟨hnl', _⟩
          · subst hx0
            refine ⟨some r, _, w, yields_append ho hvx hvy hrun, hs.relay hid (some r) _ (Nat.le_refl _) (fun _ _ _ => rfl) rfl rfl rfl (fun r' h hl => ?_) ⟨r, Place.with_same _ _ _, .inl ⟨hnl, by simp⟩⟩, .own (by simp) hsm (Place.with_same _ _ _) (.inl ⟨hnl, hsc⟩)⟩
            injection h with h
            rw [← h, hnl] at hl; cases hl
          · rw [hnl] at hnl'; cases hnl'
        · rcases ho' with ⟨hnl', _⟩ | ⟨_, cs, E, hh, hl, hm, hcs, hkx, hv⟩
          · rw [hnl] at hnl'; cases hnl'
          have hown := hs.own id r hr hnl
          refine ⟨some ⟨r.blk, r.base + lo * sz, r.cap - lo, (xs.drop lo ++ []).length, false⟩, _, w, yields_append ho hvx hvy hrun, hs.relay hid _ _ (Nat.le_refl _) (fun _ _ _ => rfl) rfl rfl rfl ?_ ?_, ?_⟩
          · intro r' h _
            injection h with h
            subst h
            exact ⟨hown.1, hown.2.1, hown.2.2, fun j r2 hj hr2 hl2 e => hj (hs.inj _ _ _ _ hr2 hr hl2 hnl e)⟩
          · refine ⟨_, Place.with_same _ _ _, .inr ⟨rfl, cs, E, hh, ?_, ?_, ?_, hkept, ?_⟩⟩
            · rw [hlen]; simp; omega
            · simp; omega
            · simp only
              have : lo * sz + (r.cap - lo) * sz = r.cap * sz := by rw [← Nat.add_mul]; congr 1; omega
              omega
            · intro i j z z' e e'
              rw [List.append_nil, List.getElem?_drop] at e
              obtain ⟨u, e1, e2, e3⟩ := hv _ _ _ _ e e'
              refine ⟨u, ?_, e2, e3⟩
              rw [← e1]; congr 1; simp only; rw [Nat.add_mul]; omega
          · exact .own (by simpa using hsn) hsm (Place.with_same _ _ _) (.inr ⟨rfl, by rcases hS with hS | hS; exact .inl hS; exact .inr (by rw [hS]; simp), by simp; omega, by simp; omega⟩)
      · -- there is room
        have hpos : 0 < ys.length := by cases ys with | nil => exact absurd rfl hy0 | cons => simp
        have hc0 : sc ≠ 0 := by omega
        obtain ⟨hnl, hS, hcap, hcl⟩ := hsc.resolve_left fun h => hc0 h.2
        obtain rfl := hS.resolve_left hc0
        obtain ⟨b, off, hA, hb, hyc'⟩ := hyc.resolve_left hy0
        subst hA
        rcases ho' with ⟨hnl', _⟩ | ⟨_, cs, E, hh, hl, hm, hcs, hkx, hv⟩
        · rw [hnl] at hnl'; cases hnl'
        have hown := hs.own id r hr hnl
        have hnew : (Builtin.firstCells i.size ys.length (.slice (some ⟨b, off, none⟩) ys.length c)).run P w = .ok (flatCells i.size ys.length f).toArray w :=
          run_flat w i.size ys.length f b off c (by rw [hsize]; exact hyc')
        have hfl : (flatCells i.size ys.length f).length = ys.length * sz := by rw [flatCells_length, hsize]
        have hmul : r.base + lo * sz + n * sz + ys.length * sz ≤ r.base + r.cap * sz := by
          have : (lo + n + ys.length) * sz ≤ r.cap * sz := Nat.mul_le_mul_right _ (by omega)
          rw [Nat.add_mul, Nat.add_mul] at this
          omega
        have hrun : (Builtin.append_ #[t, t] o.type #[.slice (some ⟨r.blk, r.base + lo * sz, none⟩) n sc, .slice (some ⟨b, off, none⟩) ys.length c]).run P w =
            .ok (.slice (some ⟨r.blk, r.base + lo * sz, none⟩) (n + ys.length) sc) (w.setRow r.blk (cs.toList.take (r.base + lo * sz + n * sz) ++ flatCells i.size ys.length f ++ cs.toList.drop (r.base + lo * sz + n * sz + (flatCells i.size ys.length f).length)).toArray) := by
          have hst := run_storeCells_at P r.blk (r.base + lo * sz + n * sz) E (flatCells i.size ys.length f) 0 cs w hh (by rw [hfl]; omega) (flatCells_one (by rw [hsize]; exact hy1))
          simp only [Nat.add_zero] at hst
          rw [← hsize] at hst ⊢
          simp [Builtin.append_, run_underlying hu, sizeOf, typeInfo, hi, Builtin.lenOf, hroom, hnew, Addr.add_lit, hst]
        obtain ⟨q1, q2, q3, q4, q5⟩ := setRow_eq w r.blk (cs.toList.take (r.base + lo * sz + n * sz) ++ flatCells i.size ys.length f ++ cs.toList.drop (r.base + lo * sz + n * sz + (flatCells i.size ys.length f).length)).toArray
        refine ⟨some ⟨r.blk, r.base + lo * sz, r.cap - lo, (xs.drop lo ++ ys).length, false⟩, _, _, yields_append ho hvx hvy hrun, hs.relay hid _ _ (by omega) (fun b hb hne => q2 b (hne r hr hnl)) q3 q4 q5 ?_ ?_, ?_⟩
        · intro r' h _
          injection h with h
          subst h
          exact ⟨hown.1, by simp only; omega, hown.2.2, fun j r2 hj hr2 hl2 e => hj (hs.inj _ _ _ _ hr2 hr hl2 hnl e)⟩
        · refine ⟨_, Place.with_same _ _ _, .inr ⟨rfl, _, E, setRow_heap w r.blk cs _ E _ hh, ?_, ?_, ?_, hkept, ?_⟩⟩
          · rw [hlen]; simp; omega
          · simp; omega
          · simp only
            have : lo * sz + (r.cap - lo) * sz = r.cap * sz := by rw [← Nat.add_mul]; congr 1; omega
            simp [hfl]; omega
          · intro i' j z z' e e'
            have hzk : z.length = sz := hkept z (List.mem_of_getElem? e)
            have hj : j < sz := by rw [← hzk]; exact (List.getElem?_eq_some_iff.1 e').1
            rw [splice_get_val _ _ _ _ (by rw [hfl]; omega), hfl]
            simp only
            have hIw : ∀ b, I b → (w.setRow r.blk (cs.toList.take (r.base + lo * sz + n * sz) ++ flatCells i.size ys.length f ++ cs.toList.drop (r.base + lo * sz + n * sz + ys.length * sz)).toArray).heap[b]? = w.heap[b]? :=
              fun b hb => (setRow_eq w r.blk _).2.1 b (by rintro rfl; exact hown.2.2 hb)
            by_cases hi' : i' < n
            · rw [List.getElem?_append_left (by simp; omega), List.getElem?_drop] at e
              have : i' * sz + sz ≤ n * sz := by
                have := Nat.mul_le_mul_right sz (show i' + 1 ≤ n by omega)
                rw [Nat.add_mul] at this; omega
              rw [if_neg (by omega)]
              obtain ⟨u, e1, e2, e3⟩ := hv _ _ _ _ e e'
              refine ⟨u, ?_, e2, e3.mono hIw (fun _ h => h) fun _ _ h => h⟩
              rw [← e1]; congr 1; rw [Nat.add_mul]; omega
            · rw [List.getElem?_append_right (by simp; omega)] at e
              simp only [List.length_drop] at e
              have hy' : i' - (xs.length - lo) = i' - n := by omega
              rw [hy'] at e
              have hlt : i' - n < ys.length := (List.getElem?_eq_some_iff.1 e).1
              have hge : n * sz ≤ i' * sz := Nat.mul_le_mul_right _ (by omega)
              have hup : (i' - n) * sz + sz ≤ ys.length * sz := by
                have := Nat.mul_le_mul_right sz (show i' - n + 1 ≤ ys.length by omega)
                rw [Nat.add_mul] at this; omega
              have hsub : (i' - n) * sz = i' * sz - n * sz := Nat.sub_mul _ _ _
              rw [if_pos ⟨by omega, by omega⟩]
              have := flatCells_get sz ys.length f hlt hj
              refine ⟨f (i' - n) j, ?_, hy1 _ _ hlt hj, (hyv _ _ _ _ e e').mono hIw (fun _ h => h) fun _ _ h => h⟩
              rw [hsize, ← this]; congr 1; omega
        · exact .own hroom hsm (Place.with_same _ _ _) (.inr ⟨rfl, .inr (by simp), by simp; omega, by simp; omega⟩)
    · -- a new array
      have hS : ∃ F : Nat → Nat → Value, (Builtin.firstCells i.size n (.slice S n sc)).run P w.drew = .ok (flatCells sz n F).toArray w.drew ∧ (∀ i j, i < n → j < sz → (F i j).oneCell' = true) ∧
          ∀ (i j : Nat) (z : List AV) (z' : AV), (xs.drop lo)[i]? = some z → z[j]? = some z' → Conc I w noPlace (F i j) z' := by
        by_cases hn0 : n = 0
        · subst hn0
          refine ⟨fun _ _ => undef, ?_, by omega, ?_⟩
          · have : (flatCells sz 0 fun _ _ => undef) = [] := by simp [flatCells]
            rw [this]
            cases S <;> simp [Builtin.firstCells, loadCells, loadCellsFrom]
          · intro i j z z' e _
            rw [List.getElem?_drop, List.getElem?_eq_none (by omega)] at e
            cases e
        · have hc0 : sc ≠ 0 := by omega
          obtain ⟨hnl, hS, hcap, hcl⟩ := hsc.resolve_left fun h => hc0 h.2
          obtain rfl := hS.resolve_left hc0
          rcases ho' with ⟨hnl', _⟩ | ⟨_, cs, E, hh, hl, hm, hcs, hkx, hv⟩
          · rw [hnl] at hnl'; cases hnl'
          have hcell : ∀ i j, i < n → j < sz → ∃ u, cs[r.base + (lo + i) * sz + j]? = some u ∧ u.oneCell' = true := by
            intro i j hi hj
            have hlt : lo + i < xs.length := by omega
            have hkl := hkx _ (List.getElem_mem hlt)
            obtain ⟨u, e1, e2, _⟩ := hv (lo + i) j _ _ (List.getElem?_eq_getElem hlt) (List.getElem?_eq_getElem (by omega))
            exact ⟨u, e1, e2⟩
          refine ⟨fun i j => (cs[r.base + (lo + i) * sz + j]?).getD undef, ?_, fun i j hi hj => ?_, fun i j z z' e e' => ?_⟩
          · rw [hsize]
            refine run_flat w.drew sz n _ r.blk (r.base + lo * sz) sc fun i j hi hj => ?_
            obtain ⟨u, e1, _⟩ := hcell i j hi hj
            have : r.base + lo * sz + i * sz + j = r.base + (lo + i) * sz + j := by rw [Nat.add_mul]; omega
            have hh' : w.drew.heap[r.blk]? = some (.cells cs E (0, 0)) := hh
            simp [World.cell?, hh', this, e1]
          · obtain ⟨u, e1, e2⟩ := hcell i j hi hj
            simp [e1, e2]
          · rw [List.getElem?_drop] at e
            obtain ⟨u, e1, _, e3⟩ := hv _ _ _ _ e e'
            simpa [e1] using e3
      obtain ⟨F, hold, hF1, hFv⟩ := hS
      have hnew : (Builtin.firstCells i.size ys.length (.slice A ys.length c)).run P w.drew = .ok (flatCells sz ys.length f).toArray w.drew := by
        rcases hyc with hy0 | ⟨b, off, hA, _, hyc⟩
        · subst hy0
          have : (flatCells sz ([] : List (List AV)).length f) = [] := by simp [flatCells]
          rw [this]
          cases A <;> simp [Builtin.firstCells, loadCells, loadCellsFrom]
        · subst hA
          rw [hsize]
          exact run_flat w.drew sz ys.length f b off c hyc
      have hge := grownCap_ge w (n + ys.length) sc e
      have hle := grownCap_le_maxLen w (n + ys.length) sc e (by simp [maxLen]; omega)
      have hrun := run_append_new w t o.type e i z hu hi hzi S n sc _ hold A ys.length c _ hnew (by omega) (by omega) (growslice_fits (by omega) hn2)
      -- one row of both
      have hrow : flatCells sz n F ++ flatCells sz ys.length f = flatCells sz (xs.drop lo ++ ys).length (fun i j => if i < n then F i j else f (i - n) j) := by
        rw [hlen]
        apply List.ext_getElem?
        intro j
        by_cases hj : j < n * sz
        · rw [List.getElem?_append_left (by rw [flatCells_length]; exact hj)]
          obtain ⟨g1, g2, g3⟩ := div_lt hj
          conv => lhs; rw [g3]
          conv => rhs; rw [g3]
          rw [flatCells_get _ _ _ g1 g2, flatCells_get _ _ _ (by omega) g2, if_pos g1]
        · rw [List.getElem?_append_right (by rw [flatCells_length]; omega), flatCells_length]
          by_cases hj2 : j < (n + ys.length) * sz
          · have hj3 : j - n * sz < ys.length * sz := by rw [Nat.add_mul] at hj2; omega
            obtain ⟨g1, g2, g3⟩ := div_lt hj3
            have g4 : j = (n + (j - n * sz) / sz) * sz + (j - n * sz) % sz := by rw [Nat.add_mul]; omega
            conv => lhs; rw [g3]
            conv => rhs; rw [g4]
            rw [flatCells_get _ _ _ g1 g2, flatCells_get _ _ _ (Nat.add_lt_add_left g1 n) g2, if_neg (Nat.not_lt.2 (Nat.le_add_right _ _)), Nat.add_sub_cancel_left]
          · rw [List.getElem?_eq_none (by rw [flatCells_length]; rw [Nat.add_mul] at hj2; omega), List.getElem?_eq_none (by rw [flatCells_length]; omega)]
      have hbig : (w.drew.alloc (.cells ((flatCells sz n F).toArray ++ (flatCells sz ys.length f).toArray ++ Builtin.zeroCells z.cells (grownCap w (n + ys.length) sc e - (n + ys.length))) e)).heap.size = w.heap.size + 1 := by simp
      refine ⟨some ⟨w.heap.size, 0, grownCap w (n + ys.length) sc e, (xs.drop lo ++ ys).length, false⟩, _, _, yields_append ho hvx hvy hrun, hs.relay hid _ _ (by omega) (fun b hb _ => Below.heap_alloc w.drew _ b hb) rfl rfl rfl ?_ ?_, ?_⟩
      · intro r' h _
        injection h with h
        subst h
        refine ⟨.inl hs.frame.size, by simp only; omega, fun hb => by have := hs.imm _ hb; simp at this, fun j r2 hj hr2 hl2 e => ?_⟩
        have := (hs.own j r2 hr2 hl2).2.1
        simp at e
        omega
      · refine arr_new (E := e) (rest := Builtin.zeroCells z.cells (grownCap w (n + ys.length) sc e - (n + ys.length))) (F := fun i j => if i < n then F i j else f (i - n) j) (Place.with_same _ _ _) ?_ (by rw [hlen]; exact hge) hle ?_ hkept ?_ ?_
        · rw [← hrow]
          have := heap_alloc_new w.drew (.cells ((flatCells sz n F).toArray ++ (flatCells sz ys.length f).toArray ++ Builtin.zeroCells z.cells (grownCap w (n + ys.length) sc e - (n + ys.length))) e)
          simpa using this
        · rw [zeroCells_size, hzs, hlen]
        · intro i' j hi' hj
          rw [hlen] at hi'
          show (if i' < n then F i' j else f (i' - n) j).oneCell' = true
          split
          · exact hF1 _ _ (by assumption) hj
          · exact hy1 _ _ (by omega) hj
        · intro i' j z1 z2 ee e'
          have hmono : ∀ {v : Value} {q : AV}, Conc I w noPlace v q → Conc I (w.drew.alloc (.cells ((flatCells sz n F).toArray ++ (flatCells sz ys.length f).toArray ++ Builtin.zeroCells z.cells (grownCap w (n + ys.length) sc e - (n + ys.length))) e)) noPlace v q :=
            fun hq => hq.mono (fun b hb => Below.heap_alloc w.drew _ b (hs.imm b hb)) (fun _ h => h) fun _ _ h => h
          by_cases hi' : i' < n
          · rw [List.getElem?_append_left (by simp; omega)] at ee
            simp only [if_pos hi']
            exact hmono (hFv _ _ _ _ ee e')
          · rw [List.getElem?_append_right (by simp; omega)] at ee
            simp only [List.length_drop] at ee
            have hy' : i' - (xs.length - lo) = i' - n := by omega
            rw [hy'] at ee
            simp only [if_neg hi']
            exact hmono (hyv _ _ _ _ ee e')
      · exact .own hge hle (Place.with_same _ _ _) (.inr ⟨rfl, .inr (by simp), by simp, by simp only [hlen]; omega⟩)

/-- Over elements that are there already. -/
theorem append_over {t e : TypeId} {i : TypeInfo} {sz : Nat} {x y : Operand} (ho : o.op = .call { callee := .builtin .append, args := #[x, y], argTypes := #[t, t] })
    (hu : P.underlying t = some (.slice e)) (hi : P.info? e = some i) (hsize : i.size = sz) {id lo n : Nat} {xs ys : List (List AV)}
    (hx : ev GT s x = .own id sz lo n) (hob : s.obj id = .arr sz xs) (hys : srcOf s sz (ev GT s y) = some ys) (hn1 : lo + n + ys.length ≤ xs.length)
    {w0 : World} {G : Nat → Prop} {p : Place} {I : Nat → Prop} {a : Act} {w : World} (hs : Sim GT w0 G p I s a w) :
    ∃ v w', Yields P o a w v w' ∧ Sim GT w0 G p I { s with objs := s.objs.set id (.arr sz (xs.take (lo + n) ++ ys ++ xs.drop (lo + n + ys.length))) } a w' ∧ Conc I w' p v (.own id sz lo (n + ys.length)) := by
  have hcx := hs.ev x
  rw [hx] at hcx
  generalize hvx : a.eval x = vx at hcx
  obtain ⟨A, c, f, hvy, hyk, hyc, hy1, hyv⟩ := src_conc hs (hs.ev y) hys
  have hid : id < s.objs.length := obj_lt (by rw [hob]; simp)
  have ho' := hs.obj id
  rw [hob] at ho'
  cases hcx with
  | @own _ _ _ _ _ S sc r hsn hsm hr hsc =>
    by_cases hy0 : ys = []
    · subst hy0
      have hrun := run_append_none w t o.type e i hu hi S n sc A c hsn
      have hsame : xs.take (lo + n) ++ [] ++ xs.drop (lo + n + ([] : List (List AV)).length) = xs := by simp
      rw [hsame]
      have hst : ({ s with objs := s.objs.set id (.arr sz xs) } : St) = s := by
        have : s.objs.set id (.arr sz xs) = s.objs := by
          apply List.ext_getElem?
          intro j
          rw [List.getElem?_set]
          split
          · rename_i hj
            subst hj
            rw [← hob, St.obj, List.getD_eq_getElem?_getD, List.getElem?_eq_getElem hid]
            rfl
          · rfl
        rw [this]
      exact ⟨_, w, yields_append ho hvx hvy hrun, by rw [hst]; exact hs, .own hsn hsm hr hsc⟩
    · have hlen : 0 < ys.length := by cases ys with
        | nil => exact absurd rfl hy0
        | cons _ _ => simp
      obtain ⟨r', hr', ho'⟩ := ho'
      obtain rfl : r = r' := Option.some.inj (hr.symm.trans hr')
      rcases ho' with ⟨_, hx0⟩ | ⟨hnl, cs, E, hh, hl, hm, hcs, hkx, hv⟩
      · subst hx0; exact absurd (List.eq_nil_of_length_eq_zero (by simp at hn1; simp [hn1])) hy0
      obtain ⟨_, hS, hcap, hcl⟩ := hsc.resolve_left fun h => by rw [hnl] at h; cases h.1
      have hroom : n + ys.length ≤ sc := by omega
      obtain rfl := hS.resolve_left (by omega)
      obtain ⟨b, off, hA, hb, hyc'⟩ := hyc.resolve_left hy0
      subst hA
      have hown := hs.own id r hr hnl
      have hnew : (Builtin.firstCells i.size ys.length (.slice (some ⟨b, off, none⟩) ys.length c)).run P w = .ok (flatCells i.size ys.length f).toArray w :=
        run_flat w i.size ys.length f b off c (by rw [hsize]; exact hyc')
      have hfl : (flatCells i.size ys.length f).length = ys.length * sz := by rw [flatCells_length, hsize]
      have hmul : r.base + lo * sz + n * sz + ys.length * sz ≤ r.base + r.cap * sz := by
        have : (lo + n + ys.length) * sz ≤ r.cap * sz := Nat.mul_le_mul_right _ (by omega)
        rw [Nat.add_mul, Nat.add_mul] at this
        omega
      have hrun : (Builtin.append_ #[t, t] o.type #[.slice (some ⟨r.blk, r.base + lo * sz, none⟩) n sc, .slice (some ⟨b, off, none⟩) ys.length c]).run P w =
          .ok (.slice (some ⟨r.blk, r.base + lo * sz, none⟩) (n + ys.length) sc) (w.setRow r.blk (cs.toList.take (r.base + lo * sz + n * sz) ++ flatCells i.size ys.length f ++ cs.toList.drop (r.base + lo * sz + n * sz + (flatCells i.size ys.length f).length)).toArray) := by
        have hst := run_storeCells_at P r.blk (r.base + lo * sz + n * sz) E (flatCells i.size ys.length f) 0 cs w hh (by rw [hfl]; omega) (flatCells_one (by rw [hsize]; exact hy1))
        simp only [Nat.add_zero] at hst
        rw [← hsize] at hst ⊢
        simp [Builtin.append_, run_underlying hu, sizeOf, typeInfo, hi, Builtin.lenOf, hroom, hnew, Addr.add_lit, hst]
      obtain ⟨q1, q2, q3, q4, q5⟩ := setRow_eq w r.blk (cs.toList.take (r.base + lo * sz + n * sz) ++ flatCells i.size ys.length f ++ cs.toList.drop (r.base + lo * sz + n * sz + (flatCells i.size ys.length f).length)).toArray
      refine ⟨_, _, yields_append ho hvx hvy hrun, hs.write hr hnl _ q1 q2 q3 q4 q5 ?_, .own hroom hsm hr (.inr ⟨hnl, .inr rfl, hcap, by omega⟩)⟩
      have hlen' : (xs.take (lo + n) ++ ys ++ xs.drop (lo + n + ys.length)).length = xs.length := by simp; omega
      have hkept : ∀ z, z ∈ xs.take (lo + n) ++ ys ++ xs.drop (lo + n + ys.length) → z.length = sz := by
        intro z hz
        rcases List.mem_append.1 hz with hz | hz
        · rcases List.mem_append.1 hz with hz | hz
          · exact hkx z (List.mem_of_mem_take hz)
          · exact hyk z hz
        · exact hkx z (List.mem_of_mem_drop hz)
      refine ⟨r, hr, .inr ⟨hnl, _, E, setRow_heap w r.blk cs _ E _ hh, by rw [hlen']; exact hl, hm, ?_, hkept, ?_⟩⟩
      · simp [hfl]; omega
      · intro i' j z z' ee e'
        have hzk : z.length = sz := hkept z (List.mem_of_getElem? ee)
        have hj : j < sz := by rw [← hzk]; exact (List.getElem?_eq_some_iff.1 e').1
        have hi' : i' < xs.length := by rw [← hlen']; exact (List.getElem?_eq_some_iff.1 ee).1
        rw [splice_get_val _ _ _ _ (by rw [hfl]; omega), hfl]
        have hIw : ∀ b, I b → (w.setRow r.blk (cs.toList.take (r.base + lo * sz + n * sz) ++ flatCells i.size ys.length f ++ cs.toList.drop (r.base + lo * sz + n * sz + ys.length * sz)).toArray).heap[b]? = w.heap[b]? :=
          fun b hb => (setRow_eq w r.blk _).2.1 b (by rintro rfl; exact hown.2.2 hb)
        have hm1 : (lo + n) * sz = lo * sz + n * sz := Nat.add_mul _ _ _
        have hm2 : (lo + n + ys.length) * sz = lo * sz + n * sz + ys.length * sz := by rw [Nat.add_mul, Nat.add_mul]
        by_cases h1 : i' < lo + n
        · have : i' * sz + sz ≤ (lo + n) * sz := by
            have := Nat.mul_le_mul_right sz (show i' + 1 ≤ lo + n by omega)
            rw [Nat.add_mul] at this; omega
          rw [if_neg (by omega)]
          rw [List.append_assoc, List.getElem?_append_left (by simp; omega), List.getElem?_take, if_pos h1] at ee
          obtain ⟨u, e1, e2, e3⟩ := hv _ _ _ _ ee e'
          exact ⟨u, e1, e2, e3.mono hIw (fun _ h => h) fun _ _ h => h⟩
        · by_cases h2 : i' < lo + n + ys.length
          · have g1 : (lo + n) * sz ≤ i' * sz := Nat.mul_le_mul_right _ (by omega)
            have g2 : i' * sz + sz ≤ (lo + n + ys.length) * sz := by
              have := Nat.mul_le_mul_right sz (show i' + 1 ≤ lo + n + ys.length by omega)
              rw [Nat.add_mul] at this; omega
            rw [if_pos (by omega)]
            rw [List.append_assoc, List.getElem?_append_right (by simp; omega), List.getElem?_append_left (by simp; omega)] at ee
            have hidx : i' - (xs.take (lo + n)).length = i' - (lo + n) := by simp; omega
            rw [hidx] at ee
            have hlt : i' - (lo + n) < ys.length := by omega
            have := flatCells_get sz ys.length f hlt hj
            refine ⟨f (i' - (lo + n)) j, ?_, hy1 _ _ hlt hj, (hyv _ _ _ _ ee e').mono hIw (fun _ h => h) fun _ _ h => h⟩
            have hsub : (i' - (lo + n)) * sz = i' * sz - (lo + n) * sz := Nat.sub_mul _ _ _
            rw [hsize, ← this]; congr 1; omega
          · have g1 : (lo + n + ys.length) * sz ≤ i' * sz := Nat.mul_le_mul_right _ (by omega)
            rw [if_neg (by omega)]
            rw [List.getElem?_append_right (by simp; omega), List.getElem?_drop] at ee
            have hidx : lo + n + ys.length + (i' - (xs.take (lo + n) ++ ys).length) = i' := by simp; omega
            rw [hidx] at ee
            obtain ⟨u, e1, e2, e3⟩ := hv _ _ _ _ ee e'
            exact ⟨u, e1, e2, e3.mono hIw (fun _ h => h) fun _ _ h => h⟩

theorem evAppend_ok {t : TypeId} {x y : Operand} {r : Res} (ho : o.op = .call { callee := .builtin .append, args := #[x, y], argTypes := #[t, t] }) (h : evAppend P GT s t x y = some r) : StepOK P GT o s r := by
  unfold evAppend at h
  split at h
  · rename_i d hd
    split at h
    · rename_i e hk
      have hu := td_slice hd hk
      split at h
      · rename_i d' hd'
        obtain ⟨i, desc, hi, _, hsize, hbytes, _, hzero, _⟩ := td_info hd'
        split at h
        · rename_i zl ys hz hys
          split at h
          · rename_i hzl
            rw [hz] at hzero
            obtain ⟨z, hzi, hzc⟩ : ∃ z, i.zero = some z ∧ z.cells.toList = zl := by
              cases hzz : i.zero with
              | none => rw [hzz] at hzero; cases hzero
              | some z => rw [hzz] at hzero; injection hzero with hzero; exact ⟨z, rfl, hzero⟩
            have hzs : z.cells.size = d'.size := by rw [← Array.length_toList, hzc, hzl]
            split at h
            · -- a nil slice
              rename_i hx
              injection h with h
              subst h
              intro hn w0 G p I a w hs
              have hvx : a.eval x = .slice none 0 0 := by
                have := hs.ev x
                rw [hx] at this
                exact this.raw_eq
              obtain ⟨A, c, f, hvy, hyk, hyc, hy1, hyv⟩ := src_conc hs (hs.ev y) hys
              by_cases hy0 : ys = []
              · subst hy0
                exact ⟨p.with s.objs.length (some ⟨0, 0, 0, 0, true⟩), .slice none 0 0, w, yields_append ho hvx hvy (run_append_none w t o.type e i hu hi none 0 0 A c (Nat.le_refl _)), hs.newNil _ _ rfl,
                  .own (Nat.le_refl _) (by simp [maxLen]) (Place.with_same _ _ _) (.inl ⟨rfl, rfl⟩), fun h => by simp [ho, Op.quiet] at h, hs.fresh_given _⟩
              · obtain ⟨b, off, hA, hb, hyc'⟩ := hyc.resolve_left hy0
                subst hA
                have hpos : 0 < ys.length := by cases ys with | nil => exact absurd rfl hy0 | cons => simp
                have hold : (Builtin.firstCells i.size 0 (.slice none 0 0)).run P w.drew = .ok (([] : List Value).toArray) w.drew := run_firstCells_none (P := P) w.drew i.size 0 0 0
                have hnew : (Builtin.firstCells i.size ys.length (.slice (some ⟨b, off, none⟩) ys.length c)).run P w.drew = .ok (flatCells i.size ys.length f).toArray w.drew :=
                  run_flat w.drew i.size ys.length f b off c (by rw [hsize]; exact hyc')
                have hge := grownCap_ge w (0 + ys.length) 0 e
                have hle := grownCap_le_maxLen w (0 + ys.length) 0 e (by have := hn.2; simp [maxLen]; omega)
                have hrun := run_append_new w t o.type e i z hu hi hzi none 0 0 [] hold (some ⟨b, off, none⟩) ys.length c _ hnew (by omega) (by have := hn.2; omega) (growslice_fits (by omega) (by have := hn.1; simp only [Nat.zero_add]; rw [hbytes]; exact this))
                refine ⟨p.with s.objs.length (some ⟨w.heap.size, 0, grownCap w (0 + ys.length) 0 e, ys.length, false⟩), _, _, yields_append ho hvx hvy hrun, hs.new _ rfl rfl _ _ rfl rfl rfl rfl ?_, ?_, fun h => by simp [ho, Op.quiet] at h, hs.fresh_given _⟩
                · refine arr_new (E := e) (rest := Builtin.zeroCells z.cells (grownCap w (0 + ys.length) 0 e - (0 + ys.length))) (F := f) (Place.with_same _ _ _) ?_ (by omega) hle ?_ hyk hy1 fun i j y z e e' => ?_
                  · rw [← hsize]
                    have := heap_alloc_new w.drew (.cells ((([] : List Value).toArray ++ (flatCells i.size ys.length f).toArray) ++ Builtin.zeroCells z.cells (grownCap w (0 + ys.length) 0 e - (0 + ys.length))) e)
                    simpa using this
                  · rw [zeroCells_size, hzs, Nat.zero_add]
                  · exact (hyv i j y z e e').mono (fun b hb => Below.heap_alloc w.drew _ b (hs.imm b hb)) (fun _ h => h) fun _ _ h => h
                · simp only [Nat.zero_add] at hge hle ⊢
                  exact .own hge hle (Place.with_same _ _ _) (.inr ⟨rfl, .inr (by simp), by simp, by simp⟩)
            · -- a slice of the call's own
              rename_i id k lo n hx
              split at h
              · rename_i k' xs hob
                split at h
                · rename_i hkk
                  obtain ⟨hk1, hk2⟩ := hkk
                  subst hk2
                  subst hk1
                  split at h
                  · injection h with h
                    subst h
                    intro hn w0 G p I a w hs
                    obtain ⟨v, w', h1, h2, h3⟩ := append_over ho hu hi hsize hx hob hys hn hs
                    exact ⟨p, v, w', h1, h2, h3, fun h => by simp [ho, Op.quiet] at h, fun _ _ => .inl rfl⟩
                  · split at h
                    · rename_i hgv
                      injection h with h
                      subst h
                      intro hn w0 G p I a w hs
                      have hid : id < s.objs.length := obj_lt (by rw [hob]; simp)
                      obtain ⟨ro, v, w', h1, h2, h3⟩ := append_tip ho hu hi hzi hsize hzs hx hob hys hn.1 (by rw [hbytes]; exact hn.2.1) hn.2.2 hs
                      obtain ⟨g1, g2⟩ := h2.move (id := id) (by simpa [St.relay] using hid)
                      have hlen : (s.relay id (.arr d'.size (xs.drop lo ++ ys))).objs.length = s.objs.length := by simp [St.relay]
                      rw [hlen] at g1 g2
                      refine ⟨_, v, w', h1, g1, ?_, fun h => by simp [ho, Op.quiet] at h, fun j hj => ?_⟩
                      · have := g2 _ _ h3
                        simpa [AV.leafs, AV.ren, AV.nameOf, AV.withName] using this
                      · have := hs.given
                        rw [Place.with_other _ _ (by omega)]
                        by_cases hji : j = id
                        · subst hji; right; exact Place.with_same _ _ _
                        · left; rw [Place.with_other _ _ hji, Place.with_other _ _ hji]
                    · rename_i hgv
                      injection h with h
                      subst h
                      intro hn w0 G p I a w hs
                      obtain ⟨ro, v, w', h1, h2, h3⟩ := append_tip ho hu hi hzi hsize hzs hx hob hys hn.1 (by rw [hbytes]; exact hn.2.1) hn.2.2 hs
                      exact ⟨_, v, w', h1, h2, h3, fun h => by simp [ho, Op.quiet] at h, fun j hj => .inl (Place.with_other _ _ (by omega))⟩
                · cases h
              · cases h
            · cases h
          · cases h
        · cases h
      · cases h
    · cases h
  · cases h

end
end Go.Proofs.YtangkndckghblaaDoor.Abs
