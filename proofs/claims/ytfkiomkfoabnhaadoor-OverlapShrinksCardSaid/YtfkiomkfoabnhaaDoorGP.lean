/- Locks that grow gap by gap; regions and clashes that shrink with them. No program in sight. -/
import Derived.Test.YtfkiomkfoabnhaaDoorOA
import Derived.Test.YtfkiomkfoabnhaaDoorR2
namespace Go.Proofs.YtfkiomkfoabnhaaDoor.Abs
set_option linter.unusedSimpArgs false
set_option linter.unusedVariables false
open Go Go.RowKit

theorem pw_same {l : List Lk} (h : l.Pairwise fun a b => a.key ≠ b.key) : ∀ {x y : Lk}, x ∈ l → y ∈ l → x.key = y.key → x = y := by
  induction l with
  | nil => intro x y hx; cases hx
  | cons a l ih =>
    rw [List.pairwise_cons] at h
    intro x y hx hy e
    rcases List.mem_cons.1 hx with hx1 | hx1
    · rcases List.mem_cons.1 hy with hy1 | hy1
      · rw [hx1, hy1]
      · rw [hx1] at e; exact absurd e (h.1 y hy1)
    · rcases List.mem_cons.1 hy with hy1 | hy1
      · rw [hy1] at e; exact absurd e.symm (h.1 x hx1)
      · exact ih h.2 hx1 hy1 e
theorem pw_pos {l : List Lk} (h : l.Pairwise fun a b => a.dev = b.dev → a.pos = b.pos) : ∀ {x y : Lk}, x ∈ l → y ∈ l → x.dev = y.dev → x.pos = y.pos := by
  induction l with
  | nil => intro x y hx; cases hx
  | cons a l ih =>
    rw [List.pairwise_cons] at h
    intro x y hx hy e
    rcases List.mem_cons.1 hx with hx1 | hx1
    · rcases List.mem_cons.1 hy with hy1 | hy1
      · rw [hx1, hy1]
      · rw [hx1] at e ⊢; exact h.1 y hy1 e
    · rcases List.mem_cons.1 hy with hy1 | hy1
      · rw [hy1] at e ⊢; exact (h.1 x hx1 e.symm).symm
      · exact ih h.2 hx1 hy1 e
/-- Few keys, few locks. -/
theorem key_len {lo : Int} : ∀ (k : Nat) (l : List Lk), (∀ x, x ∈ l → lo ≤ x.key ∧ x.key < lo + k) → (l.Pairwise fun a b => a.key ≠ b.key) → l.length ≤ k
  | 0, l, h, _ => by
    cases l with
    | nil => simp
    | cons x l => have := h x (by simp); omega
  | k + 1, l, h, hp => by
    have h1 : ∀ (l : List Lk), (l.Pairwise fun a b => a.key ≠ b.key) → l.length ≤ (l.filter fun x => decide (x.key ≠ lo + (k : Int))).length + 1 := by
      intro l
      induction l with
      | nil => intro _; simp
      | cons a l ih =>
        intro hp
        rw [List.pairwise_cons] at hp
        rw [List.filter_cons]
        split
        · have := ih hp.2; simp only [List.length_cons]; omega
        · rename_i ha
          have hak : a.key = lo + k := by simpa using ha
          have : l.filter (fun x => decide (x.key ≠ lo + (k : Int))) = l := List.filter_eq_self.2 fun x hx => decide_eq_true (by have := hp.1 x hx; omega)
          rw [this]; simp
    have h2 := key_len (lo := lo) k (l.filter fun x => decide (x.key ≠ lo + (k : Int))) (fun x hx => by
      obtain ⟨hx, hn⟩ := List.mem_filter.1 hx
      have := h x hx
      have hn : x.key ≠ lo + (k : Int) := of_decide_eq_true hn
      omega) (hp.sublist (List.filter_sublist ..))
    have := h1 l hp
    omega
theorem lkAt_ex : ∀ {l : List Lk} {i p : Int}, lockedAt l i = some p → ∃ x, x ∈ l ∧ x.dev = i ∧ x.pos = p
  | [], _, _, h => by cases h
  | a :: l, i, p, h => by
    unfold lockedAt at h
    split at h
    · rename_i ha
      exact ⟨a, by simp, ha, by injection h⟩
    · obtain ⟨x, hx, h1⟩ := lkAt_ex h
      exact ⟨x, by simp [hx], h1⟩
theorem lkAt_of : ∀ {l : List Lk} {x : Lk}, x ∈ l → (∀ y, y ∈ l → y.dev = x.dev → y.pos = x.pos) → lockedAt l x.dev = some x.pos
  | [], x, h, _ => by cases h
  | a :: l, x, h, hp => by
    unfold lockedAt
    split
    · rename_i ha; rw [hp a (by simp) ha]
    · rename_i ha
      rcases List.mem_cons.1 h with rfl | h
      · exact absurd rfl ha
      · exact lkAt_of h fun y hy => hp y (by simp [hy])
/-- The locks of a list up to a device, with new ones at gaps that had none. -/
structure Grown (n : Net) (l : List Lk) (i : Nat) (b : List Lk) : Prop where
  each : ∀ x : Lk, x ∈ b → (x ∈ l ∧ x.dev < (i : Int)) ∨ (0 ≤ x.dev ∧ x.dev < (i : Int) ∧ x.pos = 1 ∧ x.key = 500 + x.dev ∧ gapK (n.devs.getD x.dev.toNat ⟨⟨#[]⟩, 0, 0, 0, 0⟩).kind = true)
  all : ∀ x : Lk, x ∈ l → x.dev < (i : Int) → x ∈ b
  up : b.Pairwise fun a b => lkBefore a b = true
  pos : b.Pairwise fun a b => a.dev = b.dev → a.pos = b.pos
  key : b.Pairwise fun a b => a.key ≠ b.key
  len : b.length ≤ (l.filter fun x => decide (x.dev < (i : Int))).length + i
theorem Grown.zero {n : Net} {l : List Lk} (h : ∀ x, x ∈ l → 0 ≤ x.dev) : Grown n l 0 [] :=
  ⟨fun x hx => (by cases hx), fun x hx h0 => (by have := h x hx; omega), .nil, .nil, .nil, by simp⟩
def atD (l : List Lk) (i : Nat) : List Lk := l.filter fun x => decide (x.dev = (i : Int))
theorem atD_mem {l : List Lk} {i : Nat} {x : Lk} : x ∈ atD l i ↔ x ∈ l ∧ x.dev = i := by
  unfold atD
  rw [List.mem_filter, decide_eq_true_eq]
theorem filt_len (l : List Lk) (i : Nat) : (l.filter fun x => decide (x.dev < ((i + 1 : Nat) : Int))).length = (l.filter fun x => decide (x.dev < (i : Int))).length + (atD l i).length := by
  unfold atD
  induction l with
  | nil => rfl
  | cons a l ih =>
    simp only [List.filter_cons]
    by_cases h1 : a.dev < (i : Int)
    · rw [if_pos (decide_eq_true (show a.dev < ((i + 1 : Nat) : Int) by omega)), if_pos (decide_eq_true h1), if_neg (by simp; omega)]
      simp only [List.length_cons]; omega
    · by_cases h2 : a.dev = (i : Int)
      · rw [if_pos (decide_eq_true (show a.dev < ((i + 1 : Nat) : Int) by omega)), if_neg (by simp; omega), if_pos (decide_eq_true h2)]
        simp only [List.length_cons]; omega
      · rw [if_neg (by simp; omega), if_neg (by simp; omega), if_neg (by simpa using h2)]
        exact ih
theorem Grown.old {n : Net} {l b : List Lk} {i : Nat} (hl : Locks n l) (hk : ∀ x, x ∈ l → x.key < 500) (h : Grown n l i b) : Grown n l (i + 1) (b ++ atD l i) := by
  refine ⟨fun x hx => ?_, fun x hx hi => ?_, ?_, ?_, ?_, ?_⟩
  · rcases List.mem_append.1 hx with hx | hx
    · rcases h.each x hx with ⟨h1, h2⟩ | ⟨h1, h2, h3⟩
      · exact .inl ⟨h1, by omega⟩
      · exact .inr ⟨h1, by omega, h3⟩
    · have := atD_mem.1 hx
      exact .inl ⟨this.1, by omega⟩
  · by_cases h1 : x.dev < (i : Int)
    · exact List.mem_append.2 (.inl (h.all x hx h1))
    · exact List.mem_append.2 (.inr (atD_mem.2 ⟨hx, by omega⟩))
  · refine List.pairwise_append.2 ⟨h.up, hl.up.sublist (List.filter_sublist ..), fun x hx y hy => ?_⟩
    have hy := atD_mem.1 hy
    have : x.dev < i := (h.each x hx).elim (fun h => h.2) fun h => h.2.1
    unfold lkBefore
    exact decide_eq_true (.inl (by omega))
  · refine List.pairwise_append.2 ⟨h.pos, hl.pos.sublist (List.filter_sublist ..), fun x hx y hy e => ?_⟩
    have hy := atD_mem.1 hy
    have : x.dev < i := (h.each x hx).elim (fun h => h.2) fun h => h.2.1
    omega
  · refine List.pairwise_append.2 ⟨h.key, hl.key.sublist (List.filter_sublist ..), fun x hx y hy e => ?_⟩
    have hy := atD_mem.1 hy
    rcases h.each x hx with ⟨h1, h2⟩ | ⟨h1, h2, h3, h4, _⟩
    · have := pw_same hl.key h1 hy.1 e
      subst this; omega
    · have := hk y hy.1; omega
  · rw [List.length_append, filt_len]
    have := h.len
    omega
theorem Grown.new {n : Net} {l b : List Lk} {i : Nat} (hl : Locks n l) (hk : ∀ x, x ∈ l → x.key < 500) (h : Grown n l i b) (hno : atD l i = []) (hg : gapK (n.devs.getD i ⟨⟨#[]⟩, 0, 0, 0, 0⟩).kind = true) : Grown n l (i + 1) (b ++ [⟨i, 1, 500 + i⟩]) := by
  have h0 := h.old hl hk
  rw [hno, List.append_nil] at h0
  refine ⟨fun x hx => ?_, fun x hx hi => List.mem_append.2 (.inl (h0.all x hx hi)), ?_, ?_, ?_, ?_⟩
  · rcases List.mem_append.1 hx with hx | hx
    · exact h0.each x hx
    · rw [List.mem_singleton.1 hx]
      exact .inr ⟨by simp only; omega, by simp only; omega, rfl, rfl, by simpa using hg⟩
  · refine List.pairwise_append.2 ⟨h.up, List.pairwise_singleton _ _, fun x hx y hy => ?_⟩
    rw [List.mem_singleton.1 hy]
    have : x.dev < i := (h.each x hx).elim (fun h => h.2) fun h => h.2.1
    unfold lkBefore
    exact decide_eq_true (.inl (by simp only; omega))
  · refine List.pairwise_append.2 ⟨h.pos, List.pairwise_singleton _ _, fun x hx y hy e => ?_⟩
    rw [List.mem_singleton.1 hy] at e
    have : x.dev < i := (h.each x hx).elim (fun h => h.2) fun h => h.2.1
    simp only at e
    omega
  · refine List.pairwise_append.2 ⟨h.key, List.pairwise_singleton _ _, fun x hx y hy e => ?_⟩
    rw [List.mem_singleton.1 hy] at e
    simp only at e
    rcases h.each x hx with ⟨h1, h2⟩ | ⟨h1, h2, h3, h4, _⟩
    · have := hk x h1; omega
    · omega
  · rw [List.length_append, filt_len, hno]
    have := h.len
    simp only [List.length_cons, List.length_nil]
    omega
theorem Grown.locks {n : Net} {l b : List Lk} (hl : Locks n l) (hk : ∀ x, x ∈ l → 10 ≤ x.key ∧ x.key ≤ 27) (h : Grown n l n.devs.length b) : Locks n b := by
  have hdl := hl.net.dl
  have h18 : l.length ≤ 18 := key_len (lo := 10) 18 l (fun x hx => by have := hk x hx; omega) hl.key
  refine ⟨hl.net, ?_, fun x hx => ?_, h.up, h.pos, h.key⟩
  · have := h.len
    have : (l.filter fun x => decide (x.dev < (n.devs.length : Int))).length ≤ l.length := List.length_filter_le _ _
    omega
  · rcases h.each x hx with ⟨h1, _⟩ | ⟨h1, h2, h3, h4, h5⟩
    · exact hl.each x h1
    · unfold lErr
      rw [if_neg (by omega)]
      have h6 : (n.devs.getD x.dev.toNat ⟨⟨#[]⟩, 0, 0, 0, 0⟩).kind ≠ 5 := fun e => by rw [e] at h5; cases h5
      rw [if_neg h6, if_neg (by omega), if_neg (by omega)]
theorem Grown.gaps {n : Net} {l b : List Lk} (h : Grown n l n.devs.length b) : ∀ g, g ∈ gapsOf n l → g ∈ gapsOf n b := by
  intro g hg
  simp only [gapsOf, List.mem_map, List.mem_filter, List.mem_range, Bool.and_eq_true, decide_eq_true_eq] at hg ⊢
  obtain ⟨i, ⟨h1, h2, h3⟩, rfl⟩ := hg
  refine ⟨i, ⟨h1, ?_, h3⟩, rfl⟩
  obtain ⟨x, hx, hd, hp⟩ := lkAt_ex h2
  have hb := h.all x hx (by rw [hd]; omega)
  have := lkAt_of hb fun y hy e => pw_pos h.pos hy hb e
  rw [hd, hp] at this
  exact this
/-- A document whose locks have grown. -/
theorem grow_chk {n : Net} {a : Doc} {b : List Lk} (hl : Locks n a.locks) (hb : Locks n b) : docChk n { a with locks := b } = docChk n a := by
  unfold docChk headE peopleE
  simp only [locks_iff.2 hl, locks_iff.2 hb]
theorem grow_reg {n : Net} {a : Doc} {b : List Lk} (hn : n.ok) (hz : zoneChk n a.zone = 0) (hg : ∀ g, g ∈ gapsOf n a.locks → g ∈ gapsOf n b) : ∀ v, v ∈ regD n { a with locks := b } → v ∈ regD n a := by
  obtain ⟨_, _, hr⟩ := zoneChk_zero hz
  intro v hv
  have h1 := (regL_mem hn hr).1 hv
  exact (regL_mem hn hr).2 ⟨h1.1, RG.mono (fun _ h => h) hg h1.2⟩
theorem grow_meet {n : Net} {a x : Doc} {b : List Lk} (h : ∀ v, v ∈ regD n { a with locks := b } → v ∈ regD n a) (hm : meetB n { a with locks := b } x = true) : meetB n a x = true := by
  unfold meetB at hm ⊢
  rw [List.any_eq_true] at hm ⊢
  obtain ⟨v, h1, h2⟩ := hm
  exact ⟨v, h v h1, h2⟩
theorem grow_clash {n : Net} {a : Doc} {l : List Doc} {b : List Lk} (h : ∀ v, v ∈ regD n { a with locks := b } → v ∈ regD n a) : ∀ v, v ∈ clashL n l { a with locks := b } → v ∈ clashL n l a := by
  intro v hv
  unfold clashL at hv ⊢
  obtain ⟨x, hx, rfl⟩ := List.mem_map.1 hv
  obtain ⟨h1, h2⟩ := List.mem_filter.1 hx
  refine List.mem_map.2 ⟨x, List.mem_filter.2 ⟨h1, ?_⟩, rfl⟩
  unfold clashB at h2 ⊢
  simp only [Bool.and_eq_true] at h2 ⊢
  exact ⟨h2.1, grow_meet h h2.2.1, h2.2.2⟩
end Go.Proofs.YtfkiomkfoabnhaaDoor.Abs
