/- Objects that are given another name; nil slices in variables that get one. -/
import Derived.Test.YtangkndckghblaaDoorAbsK
namespace Go.Proofs.YtangkndckghblaaDoor.Abs
set_option linter.unusedSimpArgs false
set_option linter.unusedVariables false
open Go Go.RowKit

/-- The object j comes to stand where i stood, which is dead. -/
def St.reloc (s : St) (i j : Nat) : St :=
  { slots := AV.leafsL (AV.ren fun k => some (if k = j then i else k)) s.slots, objs := ((s.objs.map (Obj.leafs (AV.ren fun k => some (if k = j then i else k)))).set i ((s.obj j).leafs (AV.ren fun k => some (if k = j then i else k)))).set j .dead }

section
variable {GT : Ctx} {w0 : World} {G : Nat → Prop} {p : Place} {I : Nat → Prop} {s : St} {a : Act} {w : World}
theorem Sim.reloc (h : Sim GT w0 G p I s a w) {i0 j0 : Nat} (hi : s.obj i0 = .dead) (hij : i0 ≠ j0) (hil : i0 < s.objs.length) (hjl : j0 < s.objs.length) : Sim GT w0 G ((p.with j0 none).with i0 (p j0)) I (s.reloc i0 j0) a w := by
  have hpi : p i0 = none := by have := h.obj i0; rw [hi] at this; exact this
  have hp1 : ((p.with j0 none).with i0 (p j0)) i0 = p j0 := Place.with_same _ _ _
  have hp2 : ((p.with j0 none).with i0 (p j0)) j0 = none := by rw [Place.with_other _ _ (Ne.symm hij), Place.with_same]
  have hp3 : ∀ i, i ≠ j0 → i ≠ i0 → ((p.with j0 none).with i0 (p j0)) i = p i := fun i h1 h2 => by rw [Place.with_other _ _ h2, Place.with_other _ _ h1]
  have hg : ∀ i j r, (some (if i = j0 then i0 else i)) = some j → p i = some r → ((p.with j0 none).with i0 (p j0)) j = some r := fun i j r hg hr => by
    injection hg with hg
    subst hg
    split
    · rename_i hi; subst hi; rw [hp1]; exact hr
    · rename_i hne
      rw [hp3 i hne (by rintro rfl; rw [hpi] at hr; cases hr)]; exact hr
  have hinv : ∀ i r, ((p.with j0 none).with i0 (p j0)) i = some r → ∃ i', p i' = some r ∧ ((i = i0 ∧ i' = j0) ∨ (i ≠ i0 ∧ i ≠ j0 ∧ i' = i)) := fun i r hi => by
    by_cases h1 : i = i0
    · subst h1; rw [hp1] at hi; exact ⟨j0, hi, .inl ⟨rfl, rfl⟩⟩
    · by_cases h2 : i = j0
      · subst h2; rw [hp2] at hi; cases hi
      · rw [hp3 i h2 h1] at hi; exact ⟨i, hi, .inr ⟨h1, h2, rfl⟩⟩
  have hconc : ∀ (v : Value) (x : AV), Conc I w p v x → Conc I w ((p.with j0 none).with i0 (p j0)) v (x.leafs (AV.ren fun i => some (if i = j0 then i0 else i))) :=
    fun v x hx => hx.ren _ (fun _ _ => rfl) (fun _ h => h) hg
  refine ⟨by simp [St.reloc, AV.leafsL_eq, h.size], fun i v x e e' => ?_, h.defers, fun j => ?_, fun i j r r' hi hj hl hl' hb => ?_, fun i r hi hl => ?_, h.imm, h.frame, h.glob, by have := h.given; simp [St.reloc]; omega⟩
  · simp only [St.reloc, AV.leafsL_eq] at e'
    obtain ⟨y, hy, rfl⟩ := map_get e'
    exact hconc v y (h.slot i v y e hy)
  · have hren := fun i k => (h.obj i).ren (id' := k) (p' := (p.with j0 none).with i0 (p j0)) (fun i => some (if i = j0 then i0 else i)) (fun _ _ => rfl) (fun _ h => h) (fun _ _ _ => rfl)
    by_cases h1 : j = i0
    · subst h1
      have : (s.reloc j j0).obj j = (s.obj j0).leafs (AV.ren fun i => some (if i = j0 then j else i)) := by
        simp only [St.obj, St.reloc, List.getD_eq_getElem?_getD]
        rw [List.getElem?_set_ne (Ne.symm hij), List.getElem?_set_self (by simpa using hil)]
        rfl
      rw [this]
      exact hren j0 _ hp1 hg
    · by_cases h2 : j = j0
      · subst h2
        have : (s.reloc i0 j).obj j = .dead := by
          simp only [St.obj, St.reloc, List.getD_eq_getElem?_getD]
          rw [List.getElem?_set_self (by simpa using hjl)]
          rfl
        rw [this]
        exact hp2
      · have : (s.reloc i0 j0).obj j = (s.obj j).leafs (AV.ren fun i => some (if i = j0 then i0 else i)) := by
          simp only [St.obj, St.reloc, List.getD_eq_getElem?_getD]
          rw [List.getElem?_set_ne (Ne.symm h2), List.getElem?_set_ne (Ne.symm h1), List.getElem?_map]
          cases s.objs[j]? <;> rfl
        rw [this]
        exact hren j _ (hp3 j h2 h1) hg
  · obtain ⟨i', hi', hii⟩ := hinv i r hi
    obtain ⟨j', hj', hjj⟩ := hinv j r' hj
    have := h.inj i' j' r r' hi' hj' hl hl' hb
    subst this
    rcases hii with ⟨rfl, rfl⟩ | ⟨_, h1, rfl⟩ <;> rcases hjj with ⟨rfl, h2⟩ | ⟨_, h3, h4⟩
    · rfl
    · exact absurd h4.symm h3
    · exact absurd h2 h1
    · exact h4
  · obtain ⟨i', hi', _⟩ := hinv i r hi
    exact h.own i' r hi' hl

theorem SemLe.reloc {i j : Nat} (hi : s.obj i = .dead) (hij : i ≠ j) (hil : i < s.objs.length) (hjl : j < s.objs.length) (hgi : GT.given ≤ i) (hgj : GT.given ≤ j) : SemLe GT s (s.reloc i j) := fun B a w hs => by
  obtain ⟨p, I, hsim, h1, h2, h3⟩ := hs
  refine ⟨_, I, hsim.reloc hi hij hil hjl, h1, h2, fun k hk => ?_⟩
  rw [Place.with_other _ _ (by omega), Place.with_other _ _ (by omega)]
  exact h3 k hk

/-- A nil slice in a variable gets a name. -/
def St.nilBox (s : St) (id off el : Nat) : St := match s.obj id with
  | .box cs => { s with objs := s.objs.set id (.box (sset cs off (.own s.objs.length el 0 0))) ++ [Obj.arr el []] }
  | _ => s
theorem SemLe.nilBox (id off el : Nat) {cs : List AV} (hob : s.obj id = .box cs) (hc : sget cs off = .raw (.slice none 0 0)) : SemLe GT s (s.nilBox id off el) := fun B a w hs => by
  obtain ⟨p, I, hsim, h1, h2, h3⟩ := hs
  have hid : id < s.objs.length := obj_lt (by rw [hob]; simp)
  have hn := hsim.newNil el ⟨0, 0, 0, 0, true⟩ rfl
  have hst : s.nilBox id off el = { s with objs := (s.objs ++ [Obj.arr el []]).set id (.box (sset cs off (.own s.objs.length el 0 0))) } := by
    simp only [St.nilBox, hob]
    rw [List.set_append_left _ _ hid]
  have hcs : cs[off]? = some (.raw (.slice none 0 0)) := by
    rw [← sget_eq, List.getD_eq_getElem?_getD] at hc
    cases hq : cs[off]? with
    | none => rw [hq] at hc; cases hc
    | some x => rw [hq] at hc; exact congrArg some hc
  rw [hst]
  refine ⟨_, I, ⟨hn.size, hn.slot, hn.defers, fun j => ?_, hn.inj, hn.own, hn.imm, hn.frame, hn.glob, by simpa using hn.given⟩, h1, h2, fun i hi => ?_⟩
  · by_cases hj : j = id
    · subst hj
      have e : ({ s with objs := (s.objs ++ [Obj.arr el []]).set j (.box (sset cs off (.own s.objs.length el 0 0))) } : St).obj j = .box (sset cs off (.own s.objs.length el 0 0)) := by
        simp only [St.obj, List.getD_eq_getElem?_getD]
        rw [List.getElem?_set_self (by simp; omega)]
        rfl
      rw [e]
      have hb := hn.obj j
      have e2 : ({ s with objs := s.objs ++ [Obj.arr el []] } : St).obj j = .box cs := by
        rw [← hob]
        simp only [St.obj, List.getD_eq_getElem?_getD]
        rw [List.getElem?_append_left hid]
      rw [e2] at hb
      obtain ⟨r, c, E, g1, g2, g3, g4, g5⟩ := hb
      refine ⟨r, c, E, g1, g2, g3, by rw [← sset_eq]; simpa using g4, fun k y ey => ?_⟩
      rw [← sset_eq, List.getElem?_set] at ey
      split at ey
      · rename_i hk
        subst hk
        split at ey
        · injection ey with ey
          subst ey
          obtain ⟨v, q1, q2, q3⟩ := g5 off _ hcs
          have hv := conc_raw q3
          refine ⟨v, q1, q2, ?_⟩
          rw [hv]
          exact .own (Nat.le_refl _) (by simp [maxLen]) (Place.with_same _ _ _) (.inl ⟨rfl, rfl⟩)
        · cases ey
      · exact g5 k y ey
    · have e : ({ s with objs := (s.objs ++ [Obj.arr el []]).set id (.box (sset cs off (.own s.objs.length el 0 0))) } : St).obj j = ({ s with objs := s.objs ++ [Obj.arr el []] } : St).obj j := by
        simp only [St.obj, List.getD_eq_getElem?_getD]
        rw [List.getElem?_set_ne (Ne.symm hj)]
      rw [e]
      exact hn.obj j
  · have := hsim.given
    rw [Place.with_other _ _ (by omega)]
    exact h3 i hi
end
attribute [go_sem] St.reloc St.nilBox

/-- A new array that comes back, as an immutable slice. -/
def frzOwn (k : Nat) (xs : List (List AV)) : AV → AV
  | .own 0 k' lo n => if k' = k then .lst k ((xs.drop lo).take n) else .top
  | _ => .top
theorem Holds.lst {P : Program} {T : Globs} {f : FuncId} {args : List AV} {r : AV} (r' : AV) {k : Nat} {xs : List (List AV)} (h : Fn1 P T f args r [.arr k xs]) (hr : r.leafs (frzOwn k xs) = r') : Fn1 P T f args r' [] := by
  refine ⟨h.1, fun w I vs q0 h1 h2 h3 h4 h5 => (h.2 w I vs q0 h1 h2 h3 h4 h5).mono fun _ w' ⟨v, q, I', r1, os, ⟨e1, e2⟩, g1, g2, g3, g4, g5, g6, g7, _⟩ => ?_⟩
  subst e1; subst e2; subst hr
  have hob := g7.obj 0
  simp only [List.getD_cons_zero] at hob
  obtain ⟨r0, hr0, hcase⟩ := hob
  have hI : ∀ b, I' b → I' b ∨ (r0.nul = false ∧ r0.blk = b) := fun _ hb => .inl hb
  refine ⟨v, fun _ => none, fun b => I' b ∨ (r0.nul = false ∧ r0.blk = b), _, [], ⟨rfl, rfl⟩, g1, g2, fun b hb => .inl (g3 b hb), fun b hb => ?_, fun b hb => ?_, ?_, ⟨fun id => rfl, fun i j a b hi _ _ _ _ => (by cases hi), fun i a hi _ => (by cases hi)⟩, fun i hi => absurd hi (by simp)⟩
  · rcases hb with hb | ⟨hn, rfl⟩
    · exact g4 b hb
    · exact .inr (g7.own 0 r0 hr0 hn).1
  · rcases hb with hb | ⟨hn, rfl⟩
    · exact g5 b hb
    · exact (g7.own 0 r0 hr0 hn).2.1
  refine g6.leafs (fun _ _ => rfl) hI fun u x hx hc => ?_
  cases hc with
  | @own _ id k' lo m A c r2 hm hcm hr2 ho =>
    rcases id with _ | id
    · simp only [frzOwn]
      split
      · rename_i hkk
        subst hkk
        obtain rfl : r2 = r0 := Option.some.inj (hr2.symm.trans hr0)
        by_cases hm0 : m = 0
        · subst hm0
          exact .lst (f := fun _ _ => undef) (by simp) hm hcm (by simp) (.inl (by simp)) (by simp) (by simp)
        · obtain ⟨hnl, hA, hcap, hlen⟩ := ho.resolve_left fun h => by omega
          replace hA := hA.resolve_left (by omega)
          obtain ⟨hn, _⟩ | ⟨_, cs, E, hh, hl, hm', hsz, hk, hv⟩ := hcase
          · rw [hnl] at hn; cases hn
          have hyl : ((xs.drop lo).take m).length = m := by simp; omega
          have hcell : ∀ i j, i < m → j < k' → ∃ u, cs[r2.base + (lo + i) * k' + j]? = some u ∧ u.oneCell' = true := by
            intro i j hi hj
            have hlt : lo + i < xs.length := by omega
            have hkl := hk _ (List.getElem_mem hlt)
            obtain ⟨u, e1, e2, _⟩ := hv (lo + i) j _ _ (List.getElem?_eq_getElem hlt) (List.getElem?_eq_getElem (by omega))
            exact ⟨u, e1, e2⟩
          refine .lst (f := fun i j => (cs[r2.base + (lo + i) * k' + j]?).getD undef) hyl.symm hm hcm (fun y hy => hk y (List.mem_of_mem_drop (List.mem_of_mem_take hy))) (.inr ⟨r2.blk, r2.base + lo * k', hA, .inr ⟨hnl, rfl⟩, fun i j hi hj => ?_⟩) (fun i j hi hj => ?_) fun i j y z e e' => ?_
          · rw [hyl] at hi
            obtain ⟨u, e1, _⟩ := hcell i j hi hj
            have : r2.base + lo * k' + i * k' + j = r2.base + (lo + i) * k' + j := by rw [Nat.add_mul]; omega
            simp [World.cell?, hh, this, e1]
          · rw [hyl] at hi
            obtain ⟨u, e1, e2⟩ := hcell i j hi hj
            simp [e1, e2]
          · rw [List.getElem?_take] at e
            split at e
            · rw [List.getElem?_drop] at e
              obtain ⟨u, e1, _, e3⟩ := hv (lo + i) j y z e e'
              simpa [e1] using e3.mono (fun _ _ => rfl) hI fun _ _ h => h
            · cases e
      · exact .top
    · exact .top
  | ref h hl => exact .top
  | eref h hl => exact .top
  | mref h hl => exact .top
  | _ => cases hx
end Go.Proofs.YtangkndckghblaaDoor.Abs
