/- What is reached: network.Flood. -/
import Derived.Test.YtangkndckghblaaDoorZF
namespace Go.Proofs.YtangkndckghblaaDoor.Abs
set_option linter.unusedSimpArgs false
set_option linter.unusedVariables false
set_option maxRecDepth 100000
open Go Go.RowKit

theorem getD_DvL {l : List Dv} {i : Nat} (h : i < l.length) : (l.map encDv).getD i [] = [.raw (.string l[i].name), .raw (.int .i64 l[i].kind), .raw (.int .i64 l[i].a), .raw (.int .i64 l[i].b), .raw (.int .i64 l[i].comp)] := by rw [getD_map h]; rfl
theorem getD_B {l : List Bool} {i : Nat} (h : i < l.length) : (l.map encB).getD i [] = [.raw (.bool l[i])] := by rw [getD_map h]; rfl
/-- What holds while the nodes that wait are taken one by one. -/
structure Fld (n : Net) (use stop S : Nat → Prop) (out : List Bool) (q : List Int) : Prop where
  len : out.length = n.nodes.length
  ql : ∀ x, x ∈ q → 0 ≤ x ∧ x < n.nodes.length
  snd : ∀ v, out.getD v false = true → Rch n use stop S v
  S : ∀ v, S v → out.getD v false = true
  qo : ∀ x, x ∈ q → out.getD x.toNat false = true
/-- The nodes that are done: from each of them all is reached. -/
def Done (n : Net) (use stop : Nat → Prop) (out : List Bool) (q : List Int) : Prop := ∀ u, out.getD u false = true → (u : Int) ∈ q ∨ stop u ∨ ∀ v, Edge n use u v → out.getD v false = true
theorem acrossV_edge {n : Net} (hn : n.ok) {use : Nat → Prop} {u : Nat} {v : Int} {i : Nat} (hi : i < n.devs.length) (h : acrossV n.devs[i] u = v) (hv : 0 ≤ v) (hu : use i) : Edge n use u v.toNat ∧ v < n.nodes.length := by
  have hd := hn.dev' hi
  have ha := hd.a0; have hal := hd.al
  unfold acrossV at h
  cases hj : joinsK n.devs[i].kind with
  | false => simp only [hj] at h; simp at h; omega
  | true =>
    have hb := hd.j hj
    simp only [hj] at h
    simp at h
    split at h
    · rename_i h1
      refine ⟨⟨i, n.devs[i], List.getElem?_eq_getElem hi, hj, hu, .inl ⟨h1, by omega⟩⟩, by omega⟩
    · split at h
      · rename_i h1
        refine ⟨⟨i, n.devs[i], List.getElem?_eq_getElem hi, hj, hu, .inr ⟨h1, by omega⟩⟩, by omega⟩
      · omega
theorem edge_across {n : Net} (hn : n.ok) {use : Nat → Prop} {u v : Nat} (h : Edge n use u v) : ∃ (i : Nat) (hi : i < n.devs.length), use i ∧ acrossV n.devs[i] u = v := by
  obtain ⟨i, d, h1, h2, h3, h4⟩ := h
  have hi := (List.getElem?_eq_some_iff.1 h1).1
  have e : n.devs[i] = d := (List.getElem?_eq_some_iff.1 h1).2
  have hd := hn.dev h1
  have hb := hd.j h2
  refine ⟨i, hi, h3, ?_⟩
  rw [e]
  unfold acrossV
  simp only [h2]
  simp
  rcases h4 with ⟨h4, h5⟩ | ⟨h4, h5⟩
  · rw [if_pos h4]; exact h5
  · rw [if_neg (by omega), if_pos h4]; exact h5
theorem getD_set {l : List Bool} {i j : Nat} {b : Bool} : (l.set i b).getD j false = if i = j ∧ i < l.length then b else l.getD j false := by
  simp only [List.getD_eq_getElem?_getD, List.getElem?_set]
  split
  · rename_i h; subst h
    split
    · rename_i h; simp [h]
    · rename_i h; simp [h]
  · rename_i h; simp [h]
/-- One more node is reached. -/
theorem Fld.push {n : Net} {use stop S : Nat → Prop} {out : List Bool} {q : List Int} (h : Fld n use stop S out q) {w : Int} (h0 : 0 ≤ w) (hl : w < n.nodes.length) (hr : Rch n use stop S w.toNat) : Fld n use stop S (out.set w.toNat true) (q ++ [w]) := by
  have hlen := h.len
  refine ⟨by simpa using h.len, fun x hx => ?_, fun v hv => ?_, fun v hv => ?_, fun x hx => ?_⟩
  · rcases List.mem_append.1 hx with hx | hx
    · exact h.ql x hx
    · rw [List.mem_singleton] at hx; subst hx; exact ⟨h0, hl⟩
  · rw [getD_set] at hv
    split at hv
    · rename_i e; rw [← e.1]; exact hr
    · exact h.snd v hv
  · rw [getD_set]; split
    · rfl
    · exact h.S v hv
  · rw [getD_set]; split
    · rfl
    · rename_i hne
      rcases List.mem_append.1 hx with hx | hx
      · exact h.qo x hx
      · rw [List.mem_singleton] at hx; subst hx; exact absurd ⟨rfl, by omega⟩ hne
theorem count_set {l : List Bool} {i : Nat} (hi : i < l.length) (h : l[i] = false) : (l.set i true).count false + 1 = l.count false := by
  induction l generalizing i with
  | nil => simp at hi
  | cons b l ih =>
    rcases i with _ | i
    · simp at h; subst h; simp
    · have := ih (by simpa using hi) (by simpa using h)
      simp only [List.set_cons_succ, List.count_cons]
      omega
/-- At the end. -/
theorem Fld.eq {n : Net} {use stop S : Nat → Prop} {out : List Bool} (h : Fld n use stop S out []) (hd : Done n use stop out []) : out = flood n use stop S := by
  have hlen := h.len
  apply List.ext_getElem (by rw [flood_len, h.len])
  intro v h1 h2
  rw [Bool.eq_iff_iff, flood_at]
  have e : out.getD v false = out[v] := by simp [List.getD_eq_getElem?_getD, h1]
  rw [← e]
  constructor
  · exact h.snd v
  · intro hr
    exact Rch.closed (T := fun v => out.getD v false = true) (fun v hv => h.S v hv) (fun u v hu hs he => by
      rcases hd u hu with h3 | h3 | h3
      · cases h3
      · exact absurd h3 hs
      · exact h3 v he) hr
/-- What holds while the devices are gone through for one node. -/
structure Inn (n : Net) (use stop S : Nat → Prop) (u : Int) (i : Nat) (out : List Bool) (t : List Int) : Prop where
  f : Fld n use stop S out (u :: t)
  d : Done n use stop out (u :: t)
  e : ∀ k (hk : k < n.devs.length), k < i → use k → 0 ≤ acrossV n.devs[k] u → out.getD (acrossV n.devs[k] u).toNat false = true
theorem Inn.next {n : Net} {use stop S : Nat → Prop} {u : Int} {i : Nat} {out : List Bool} {t : List Int} (h : Inn n use stop S u i out t) (hx : ∀ (hk : i < n.devs.length), use i → 0 ≤ acrossV n.devs[i] u → out.getD (acrossV n.devs[i] u).toNat false = true) : Inn n use stop S u (i + 1) out t :=
  ⟨h.f, h.d, fun k hk hi hu h0 => by
    rcases Nat.lt_succ_iff_lt_or_eq.1 hi with h1 | rfl
    · exact h.e k hk h1 hu h0
    · exact hx hk hu h0⟩
theorem Inn.push {n : Net} (hn : n.ok) {use stop S : Nat → Prop} {u : Int} {i : Nat} {out : List Bool} {t : List Int} (h : Inn n use stop S u i out t) (hi : i < n.devs.length) (h0 : 0 ≤ acrossV n.devs[i] u) (hu : use i) (hns : ¬ stop u.toNat) :
    Inn n use stop S u (i + 1) (out.set (acrossV n.devs[i] u).toNat true) (t ++ [acrossV n.devs[i] u]) := by
  have hu0 := h.f.ql u (List.mem_cons_self ..)
  have hl := h.f.len
  have hed := acrossV_edge hn (u := u.toNat) (v := acrossV n.devs[i] u) hi (by rw [Int.toNat_of_nonneg hu0.1]) h0 hu
  have hr : Rch n use stop S (acrossV n.devs[i] u).toNat := .step (h.f.snd _ (h.f.qo u (List.mem_cons_self ..))) hns hed.1
  refine ⟨by simpa using h.f.push h0 hed.2 hr, fun v hv => ?_, fun k hk hi hu h0 => ?_⟩
  · rw [getD_set] at hv
    split at hv
    · rename_i e
      left
      have : (v : Int) = acrossV n.devs[i] u := by omega
      rw [this]
      simp
    · rcases h.d v hv with h1 | h1 | h1
      · left; rcases List.mem_cons.1 h1 with h2 | h2
        · rw [h2]; exact List.mem_cons_self ..
        · exact List.mem_cons_of_mem _ (List.mem_append_left _ h2)
      · exact .inr (.inl h1)
      · exact .inr (.inr fun w hw => by
          rw [getD_set]; split
          · rfl
          · exact h1 w hw)
  · rw [getD_set]; split
    · rfl
    · rename_i hne
      rcases Nat.lt_succ_iff_lt_or_eq.1 hi with h1 | rfl
      · exact h.e k hk h1 hu h0
      · exact absurd ⟨rfl, by omega⟩ hne
theorem Inn.end_ {n : Net} (hn : n.ok) {use stop S : Nat → Prop} {u : Int} {out : List Bool} {t : List Int} (h : Inn n use stop S u n.devs.length out t) : Fld n use stop S out t ∧ Done n use stop out t := by
  have hu0 := h.f.ql u (List.mem_cons_self ..)
  refine ⟨⟨h.f.len, fun x hx => h.f.ql x (List.mem_cons_of_mem _ hx), h.f.snd, h.f.S, fun x hx => h.f.qo x (List.mem_cons_of_mem _ hx)⟩, fun v hv => ?_⟩
  rcases h.d v hv with h1 | h1 | h1
  · rcases List.mem_cons.1 h1 with h2 | h2
    · right; right
      intro w hw
      obtain ⟨k, hk, hu, ha⟩ := edge_across hn hw
      rw [h2] at ha
      have := h.e k hk hk hu (by rw [ha]; omega)
      rw [ha] at this
      simpa using this
    · exact .inl h2
  · exact .inr (.inl h1)
  · exact .inr (.inr h1)
theorem Done.stop {n : Net} {use stop : Nat → Prop} {out : List Bool} {u : Int} {t : List Int} (h : Done n use stop out (u :: t)) (hs : stop u.toNat) : Done n use stop out t := fun v hv => by
  rcases h v hv with h1 | h1 | h1
  · rcases List.mem_cons.1 h1 with h2 | h2
    · right; left
      have : v = u.toNat := by omega
      rw [this]; exact hs
    · exact .inl h2
  · exact .inr (.inl h1)
  · exact .inr (.inr h1)
end Go.Proofs.YtangkndckghblaaDoor.Abs
