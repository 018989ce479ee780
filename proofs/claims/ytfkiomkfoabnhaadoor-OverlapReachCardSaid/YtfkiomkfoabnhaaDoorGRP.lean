/- A set of nodes that grows device by device, pass by pass. No program in sight. -/
import Derived.Test.YtfkiomkfoabnhaaDoorOA
import Derived.Test.YtfkiomkfoabnhaaDoorR2
import Derived.Test.YtfkiomkfoabnhaaDoorZ1
namespace Go.Proofs.YtfkiomkfoabnhaaDoor.Abs
set_option linter.unusedSimpArgs false
set_option linter.unusedVariables false
open Go Go.RowKit

def setMap (l : List Int) : List (MKey × AV) := l.map fun v => (.int .i64 v, .raw (.bool true))
theorem setMap_find : ∀ (l : List Int) (v : Int), (mfind (setMap l) (.int .i64 v)).getD (.raw (.bool false)) = .raw (.bool (decide (v ∈ l)))
  | [], v => rfl
  | x :: l, v => by
    have ih := setMap_find l v
    by_cases h : x = v
    · subst h; simp [setMap, mfind]
    · have h' : ¬ MKey.int .i64 x = MKey.int .i64 v := fun e => h (by injection e)
      have h'' : ¬ v = x := fun e => h e.symm
      show (mfind ((MKey.int .i64 x, AV.raw (.bool true)) :: setMap l) (.int .i64 v)).getD _ = _
      simp only [mfind, h', if_false, ih, List.mem_cons, h'', false_or]
def addK (l : List Int) (v : Int) : List Int := if v ∈ l then l else l ++ [v]
theorem setMap_put {l : List Int} {v : Int} : mput (setMap l) (.int .i64 v) (.raw (.bool true)) = setMap (addK l v) := by
  unfold addK
  split
  · rename_i h
    cases hm : midx (setMap l) (.int .i64 v) with
    | none =>
      have := (midx_none hm).1
      exact absurd rfl (this (MKey.int .i64 v, .raw (.bool true)) (List.mem_map.2 ⟨v, h, rfl⟩))
    | some j =>
      obtain ⟨a, h1, _⟩ := midx_some hm
      have h2 := List.mem_of_getElem? h1
      simp only [setMap, List.mem_map, Prod.mk.injEq] at h2
      obtain ⟨x, _, _, ha⟩ := h2
      subst ha
      simp only [mput, hm]
      refine List.ext_getElem? fun i => ?_
      rw [List.getElem?_set]
      split
      · rename_i hij
        subst hij
        rw [h1]
        simp only [if_pos (List.getElem?_eq_some_iff.1 h1).1]
      · rfl
  · rename_i h
    have hn : midx (setMap l) (.int .i64 v) = none := by
      cases hm : midx (setMap l) (.int .i64 v) with
      | none => rfl
      | some j =>
        obtain ⟨a, h1, _⟩ := midx_some hm
        have := List.mem_of_getElem? h1
        simp only [setMap, List.mem_map, Prod.mk.injEq, MKey.int.injEq, true_and] at this
        obtain ⟨x, hx, rfl, _⟩ := this
        exact absurd hx h
    simp only [mput, hn]
    simp [setMap]
theorem addK_mem {l : List Int} {v x : Int} : x ∈ addK l v ↔ x ∈ l ∨ x = v := by
  unfold addK
  split
  · rename_i h; exact ⟨.inl, fun h' => h'.elim id fun e => by rw [e]; exact h⟩
  · simp
theorem addK_nodup {l : List Int} {v : Int} (h : l.Nodup) : (addK l v).Nodup := by
  unfold addK
  split
  · exact h
  · rename_i hv
    exact List.nodup_append.2 ⟨h, by simp, fun a ha b hb => by rw [List.mem_singleton.1 hb]; rintro rfl; exact hv ha⟩
theorem addK_self {l : List Int} {v : Int} (h : v ∈ l) : addK l v = l := if_pos h
theorem addK_len {l : List Int} {v : Int} : l.length ≤ (addK l v).length := by unfold addK; split <;> simp
theorem addK_grow {l : List Int} {v : Int} (h : v ∉ l) : l.length + 1 ≤ (addK l v).length := by unfold addK; rw [if_neg h]; simp
theorem nodup_sub : ∀ {a b : List Int}, a.Nodup → (∀ x, x ∈ a → x ∈ b) → a.length ≤ b.length
  | [], b, _, _ => by simp
  | x :: a, b, h, hs => by
    rw [List.nodup_cons] at h
    have hx := hs x (by simp)
    have := nodup_sub (b := b.erase x) h.2 fun y hy => (List.mem_erase_of_ne (fun e => h.1 (by rw [← e]; exact hy))).2 (hs y (by simp [hy]))
    rw [List.length_erase_of_mem hx] at this
    have := List.length_pos_of_mem hx
    simp only [List.length_cons]; omega
theorem nodup_below {a : List Int} {N : Nat} (h : a.Nodup) (hb : ∀ x, x ∈ a → 0 ≤ x ∧ x < N) : a.length ≤ N := by
  have := nodup_sub (b := (List.range N).map Int.ofNat) h fun x hx => by
    have := hb x hx
    exact List.mem_map.2 ⟨x.toNat, List.mem_range.2 (by omega), by simp; omega⟩
  simpa using this
/-- Whether a lock keeps a device open. -/
def opB (n : Net) (i : Nat) (k : Lk) : Bool := decide (k.dev = (i : Int)) && decide (k.pos = 1) && gapK (n.devs.getD i ⟨⟨#[]⟩, 0, 0, 0, 0⟩).kind
def opensB (n : Net) (l : List Lk) (i : Nat) : Bool := l.any (opB n i)
theorem opens_next {n : Net} {l : List Lk} {i k : Nat} (hk : k < l.length) : opensB n (l.take (k + 1)) i = (opensB n (l.take k) i || opB n i l[k]) := by
  unfold opensB
  rw [List.take_succ_eq_append_getElem hk, List.any_append]
  simp
theorem opens_gap {n : Net} {l : List Lk} (hl : Locks n l) {i : Nat} (hi : i < n.devs.length) : opensB n l i = true ↔ (i : Int) ∈ gapsOf n l := by
  unfold opensB
  rw [List.any_eq_true]
  simp only [gapsOf, List.mem_map, List.mem_filter, List.mem_range, Bool.and_eq_true, decide_eq_true_eq, opB]
  constructor
  · rintro ⟨k, hk, ⟨h1, h2⟩, h3⟩
    refine ⟨i, ⟨hi, ?_, h3⟩, rfl⟩
    have hall : ∀ y, y ∈ l → y.dev = k.dev → y.pos = k.pos := fun y hy e => by
      rcases Classical.em (y = k) with rfl | hne
      · rfl
      · have key : ∀ {l : List Lk}, (l.Pairwise fun a b => a.dev = b.dev → a.pos = b.pos) → ∀ {x y : Lk}, x ∈ l → y ∈ l → x.dev = y.dev → x.pos = y.pos := by
          intro l h
          induction l with
          | nil => intro x y hx; cases hx
          | cons a l ih =>
            rw [List.pairwise_cons] at h
            intro x y hx hy e
            rcases List.mem_cons.1 hx with hx1 | hx1
            · rcases List.mem_cons.1 hy with hy1 | hy1
              · rw [hx1, hy1]
              · rw [hx1] at e ⊢; exact h.1 y hy1 e
            · rcases List.mem_cons.1 hy with hy1 | hy1
              · rw [hy1] at e ⊢; exact (h.1 x hx1 e.symm).symm
              · exact ih h.2 hx1 hy1 e
        exact key hl.pos hy hk e
    have of : ∀ {l : List Lk} {x : Lk}, x ∈ l → (∀ y, y ∈ l → y.dev = x.dev → y.pos = x.pos) → lockedAt l x.dev = some x.pos := by
      intro l
      induction l with
      | nil => intro x h; cases h
      | cons a l ih =>
        intro x h hp
        unfold lockedAt
        split
        · rename_i ha; rw [hp a (by simp) ha]
        · rename_i ha
          rcases List.mem_cons.1 h with rfl | h
          · exact absurd rfl ha
          · exact ih h fun y hy => hp y (by simp [hy])
    have := of hk hall
    rw [h1, h2] at this
    exact this
  · rintro ⟨j, ⟨hj, h2, h3⟩, e⟩
    have hij : j = i := by have : (j : Int) = i := e; omega
    subst hij
    have ex : ∀ {l : List Lk} {i p : Int}, lockedAt l i = some p → ∃ x, x ∈ l ∧ x.dev = i ∧ x.pos = p := by
      intro l
      induction l with
      | nil => intro i p h; cases h
      | cons a l ih =>
        intro i p h
        unfold lockedAt at h
        split at h
        · rename_i ha
          exact ⟨a, by simp, ha, by injection h⟩
        · obtain ⟨x, hx, h1⟩ := ih h
          exact ⟨x, by simp [hx], h1⟩
    obtain ⟨x, hx, hd, hp⟩ := ex h2
    exact ⟨x, hx, ⟨hd, hp⟩, h3⟩
/-- Whether a device leads no further. -/
def shutD (n : Net) (l : List Lk) (ks : List Int) (i : Nat) : Prop := ∀ d, n.devs[i]? = some d → joinsK d.kind = true → opensB n l i = false → (d.a ∈ ks ∨ d.b ∈ ks) → d.a ∈ ks ∧ d.b ∈ ks
def shutAll (n : Net) (l : List Lk) (ks : List Int) : Prop := ∀ i, i < n.devs.length → shutD n l ks i
/-- Where the passes are: p are done, and of the next one the devices below i. -/
structure Pass (n : Net) (x : Doc) (p i : Nat) (ks : List Int) : Prop where
  nd : ks.Nodup
  zone : ∀ v, v ∈ x.zone → v ∈ ks
  sub : ∀ v, v ∈ ks → v ∈ regD n x
  more : shutAll n x.locks ks ∨ p + 2 ≤ ks.length ∨ (p + 1 ≤ ks.length ∧ ∀ j, j < i → shutD n x.locks ks j)
theorem Pass.skip {n : Net} {x : Doc} {p i : Nat} {ks : List Int} (h : Pass n x p i ks) (hs : shutD n x.locks ks i) : Pass n x p (i + 1) ks :=
  ⟨h.nd, h.zone, h.sub, h.more.imp id fun h => h.imp id fun ⟨h1, h2⟩ => ⟨h1, fun j hj => by
    rcases Nat.lt_succ_iff_lt_or_eq.1 hj with h3 | rfl
    · exact h2 j h3
    · exact hs⟩⟩
theorem Pass.next {n : Net} {x : Doc} {p : Nat} {ks : List Int} (h : Pass n x p n.devs.length ks) : Pass n x (p + 1) 0 ks := by
  refine ⟨h.nd, h.zone, h.sub, ?_⟩
  rcases h.more with h | h | h
  · exact .inl h
  · exact .inr (.inr ⟨by omega, fun j hj => by omega⟩)
  · exact .inl fun i hi => h.2 i hi
section
variable {n : Net} {x : Doc} (hc : docChk n x = 0)
include hc
theorem Pass.add {p i : Nat} {ks : List Int} (h : Pass n x p i ks) {d : Dv} (hd : n.devs[i]? = some d) (hj : joinsK d.kind = true) (ho : opensB n x.locks i = false) (hor : d.a ∈ ks ∨ d.b ∈ ks) {k2 : List Int} (hk2 : k2 = addK (addK ks d.a) d.b ∨ k2 = addK (addK ks d.b) d.a) : Pass n x p (i + 1) k2 := by
  obtain ⟨hn, _, hz, _, hl, _, _⟩ := docChk_zero hc
  obtain ⟨_, _, hr⟩ := zoneChk_zero hz
  have hL := locks_iff.1 hl
  have hi : i < n.devs.length := (List.getElem?_eq_some_iff.1 hd).1
  by_cases hboth : d.a ∈ ks ∧ d.b ∈ ks
  · have e : k2 = ks := by
      rcases hk2 with rfl | rfl
      · rw [addK_self hboth.1, addK_self hboth.2]
      · rw [addK_self hboth.2, addK_self hboth.1]
    rw [e]
    exact h.skip fun d' hd' _ _ _ => by rw [hd] at hd'; injection hd' with hd'; subst hd'; exact hboth
  · have hmem : ∀ v, v ∈ k2 ↔ v ∈ ks ∨ v = d.a ∨ v = d.b := fun v => by
      rcases hk2 with rfl | rfl <;> rw [addK_mem, addK_mem]
      · constructor
        · rintro ((h | h) | h)
          · exact .inl h
          · exact .inr (.inl h)
          · exact .inr (.inr h)
        · rintro (h | h | h)
          · exact .inl (.inl h)
          · exact .inl (.inr h)
          · exact .inr h
      · constructor
        · rintro ((h | h) | h)
          · exact .inl h
          · exact .inr (.inr h)
          · exact .inr (.inl h)
        · rintro (h | h | h)
          · exact .inl (.inl h)
          · exact .inr h
          · exact .inl (.inr h)
    have hlen : ks.length + 1 ≤ k2.length := by
      by_cases ha : d.a ∈ ks
      · have hb : d.b ∉ ks := fun hb => hboth ⟨ha, hb⟩
        rcases hk2 with rfl | rfl
        · rw [addK_self ha]; exact addK_grow hb
        · exact Nat.le_trans (addK_grow hb) addK_len
      · rcases hk2 with rfl | rfl
        · exact Nat.le_trans (addK_grow ha) addK_len
        · by_cases hb : d.b ∈ ks
          · rw [addK_self hb]; exact addK_grow ha
          · exact Nat.le_trans (addK_grow hb) addK_len
    have hng : (i : Int) ∉ gapsOf n x.locks := fun hg => by rw [(opens_gap hL hi).2 hg] at ho; cases ho
    have hdi := hn.dev' hi
    have hde : n.devs[i] = d := by have := List.getElem?_eq_getElem hi; rw [hd] at this; injection this with this; exact this.symm
    rw [hde] at hdi
    have hb0 := hdi.j hj
    have ea : ((d.a.toNat : Nat) : Int) = d.a := by have := hdi.a0; omega
    have eb : ((d.b.toNat : Nat) : Int) = d.b := by omega
    have hE1 : Edge n (fun i => (i : Int) ∉ gapsOf n x.locks) d.a.toNat d.b.toNat := ⟨i, d, hd, hj, hng, .inl ⟨ea.symm, eb.symm⟩⟩
    have hab : d.a ∈ regD n x ∧ d.b ∈ regD n x := by
      rcases hor with ha | hb
      · have h1 := (regL_mem hn hr).1 (h.sub _ ha)
        exact ⟨h.sub _ ha, (regL_mem hn hr).2 ⟨hb0.1, .step h1.2 (fun h => h) hE1⟩⟩
      · have h1 := (regL_mem hn hr).1 (h.sub _ hb)
        exact ⟨(regL_mem hn hr).2 ⟨hdi.a0, .step h1.2 (fun h => h) hE1.symm⟩, h.sub _ hb⟩
    refine ⟨?_, fun v hv => (hmem v).2 (.inl (h.zone v hv)), fun v hv => ?_, ?_⟩
    · rcases hk2 with rfl | rfl <;> exact addK_nodup (addK_nodup h.nd)
    · rcases (hmem v).1 hv with h1 | rfl | rfl
      · exact h.sub v h1
      · exact hab.1
      · exact hab.2
    · rcases h.more with h1 | h1 | h1
      · exact absurd (h1 i hi d hd hj ho hor) hboth
      · exact .inr (.inl (by omega))
      · exact .inr (.inl (by omega))
/-- Behind all passes all is reached. -/
theorem Pass.done {ks : List Int} (h : Pass n x n.nodes.length 0 ks) : ∀ v, v ∈ ks ↔ v ∈ regD n x := by
  obtain ⟨hn, _, hz, _, hl, _, _⟩ := docChk_zero hc
  obtain ⟨_, _, hr⟩ := zoneChk_zero hz
  have hL := locks_iff.1 hl
  have hlt : ∀ v, v ∈ ks → 0 ≤ v ∧ v < n.nodes.length := fun v hv => by
    have h1 := (regL_mem hn hr).1 (h.sub v hv)
    have := RG.lt hn hr h1.2
    omega
  have hlen := nodup_below h.nd hlt
  have hall : shutAll n x.locks ks := by
    rcases h.more with h1 | h1 | h1
    · exact h1
    · omega
    · omega
  refine fun v => ⟨h.sub v, fun hv => ?_⟩
  have h1 := (regL_mem hn hr).1 hv
  have key := Rch.closed (T := fun u => (u : Int) ∈ ks) (fun u hu => h.zone _ hu) (fun u v hu _ he => by
    obtain ⟨i, d, hd, hj, hg, hab⟩ := he
    have hi := (List.getElem?_eq_some_iff.1 hd).1
    have ho : opensB n x.locks i = false := by
      cases ho : opensB n x.locks i with
      | false => rfl
      | true => exact absurd ((opens_gap hL hi).1 ho) hg
    rcases hab with ⟨ha, hb⟩ | ⟨hb, ha⟩
    · have := (hall i hi d hd hj ho (.inl (by rw [ha]; exact hu))).2
      rw [hb] at this; exact this
    · have := (hall i hi d hd hj ho (.inr (by rw [hb]; exact hu))).1
      rw [ha] at this; exact this) h1.2
  have e : ((v.toNat : Nat) : Int) = v := by omega
  rw [e] at key
  exact key
theorem Pass.first : Pass n x 0 0 x.zone := by
  obtain ⟨hn, _, hz, _, hl, _, _⟩ := docChk_zero hc
  obtain ⟨_, hz0, hr⟩ := zoneChk_zero hz
  refine ⟨?_, fun v hv => hv, fun v hv => ?_, .inr (.inr ⟨List.length_pos_iff.2 hz0, fun j hj => by omega⟩)⟩
  · have := (rising_pair.1 hr).1
    exact this.imp fun h => by omega
  · have h1 := rising_mem hr hv
    have e : ((v.toNat : Nat) : Int) = v := by omega
    exact (regL_mem hn hr).2 ⟨h1.1, .base (by rw [e]; exact hv)⟩
end
end Go.Proofs.YtfkiomkfoabnhaaDoor.Abs
