/- Networks that the statements make, on plain data: they are valid. No program in sight. -/
import Derived.Test.YtangkndckghblaaDoorZB
namespace Go.Proofs.YtangkndckghblaaDoor.Abs
set_option linter.unusedSimpArgs false
set_option linter.unusedVariables false
open Go Go.RowKit

/-- A letter and two digits. -/
def nmS (c k : Nat) : ByteArray := ⟨#[c.toUInt8, (48 + k / 10).toUInt8, (48 + k % 10).toUInt8]⟩
theorem nmS_name {c k : Nat} (hc : c < 256) (hl : isLetter c = true) (hk : k < 100) : isName (nmS c k) = true := by
  have h0 : byteAt (nmS c k) 0 = c := by simp [byteAt, nmS]; omega
  have h1 : byteAt (nmS c k) 1 = 48 + k / 10 := by simp [byteAt, nmS]; omega
  have h2 : byteAt (nmS c k) 2 = 48 + k % 10 := by simp [byteAt, nmS]; omega
  have hs : (nmS c k).size = 3 := rfl
  have d1 : isDigit (48 + k / 10) = true := by simp [isDigit]; omega
  have d2 : isDigit (48 + k % 10) = true := by simp [isDigit]; omega
  simp [isName, hs, List.range_succ, h0, h1, h2, hl, d1, d2]
theorem nmS_inj {c k c' k' : Nat} (hc : c < 256) (hc' : c' < 256) (hk : k < 100) (hk' : k' < 100) (h : nmS c k = nmS c' k') : c = c' ∧ k = k' := by
  have h0 := congrArg (fun s => byteAt s 0) h
  have h1 := congrArg (fun s => byteAt s 1) h
  have h2 := congrArg (fun s => byteAt s 2) h
  simp [byteAt, nmS] at h0 h1 h2
  omega
def letters : List Nat := [76, 81, 68, 69, 83, 71]
theorem letters_ok {c : Nat} (h : c ∈ letters) : c < 256 ∧ isLetter c = true ∧ c ≠ 78 := by
  simp only [letters, List.mem_cons, List.not_mem_nil, or_false] at h
  rcases h with rfl | rfl | rfl | rfl | rfl | rfl <;> decide

/-- A network as the statements make it, so far. -/
structure Made (k : Nat) (n : Net) : Prop where
  nl : n.nodes.length = k
  nd : ∀ i (hi : i < n.nodes.length), n.nodes[i].name = nmS 78 i ∧ 0 ≤ n.nodes[i].cust ∧ n.nodes[i].cust ≤ 1048576 ∧ 0 ≤ n.nodes[i].comp ∧ n.nodes[i].comp ≤ 7
  dv : ∀ i (hi : i < n.devs.length), (∃ c, c ∈ letters ∧ n.devs[i].name = nmS c i) ∧ n.devs[i].ok k ∧ 0 ≤ n.devs[i].comp ∧ n.devs[i].comp ≤ 7
theorem getD_get {α : Type} {l : List α} {i : Nat} {d : α} (h : i < l.length) : l.getD i d = l[i] := by simp [List.getD_eq_getElem?_getD, h]
theorem Made.ok {k : Nat} {n : Net} (h : Made k n) (hk : k ≤ 32) (hd : n.devs.length ≤ 64) : n.ok := by
  have hl := h.nl
  refine ⟨by omega, hd, fun i hi => ?_, fun i hi => ?_⟩
  · obtain ⟨h1, h2, h3, h4, h5⟩ := h.nd i hi
    have hn := nmS_name (c := 78) (k := i) (by decide) (by decide) (by omega)
    have ht : ¬ n.nodes[i].name ∈ (n.nodes.take i).map Nd.name := by
      intro hm
      obtain ⟨x, hx, e⟩ := List.mem_map.1 hm
      obtain ⟨j, hj, rfl⟩ := List.mem_iff_getElem.1 hx
      rw [List.length_take] at hj
      rw [List.getElem_take] at e
      obtain ⟨g1, _⟩ := h.nd j (by omega)
      rw [g1, h1] at e
      have := (nmS_inj (by decide) (by decide) (by omega) (by omega) e).2
      omega
    simp only [nErr, getD_get hi]
    rw [h1] at ht ⊢
    simp only [hn, ht, Bool.not_true, Bool.false_eq_true, if_false]
    rw [if_neg]
    omega
  · obtain ⟨⟨c, hc, h1⟩, h2, h3, h4⟩ := h.dv i hi
    obtain ⟨c1, c2, c3⟩ := letters_ok hc
    have hn := nmS_name (k := i) c1 c2 (by omega)
    have ht : ¬ n.devs[i].name ∈ n.nodes.map Nd.name ++ (n.devs.take i).map Dv.name := by
      intro hm
      rcases List.mem_append.1 hm with hm | hm
      · obtain ⟨x, hx, e⟩ := List.mem_map.1 hm
        obtain ⟨j, hj, rfl⟩ := List.mem_iff_getElem.1 hx
        obtain ⟨g1, _⟩ := h.nd j hj
        rw [g1, h1] at e
        have := (nmS_inj (by decide) c1 (by omega) (by omega) e).1
        omega
      · obtain ⟨x, hx, e⟩ := List.mem_map.1 hm
        obtain ⟨j, hj, rfl⟩ := List.mem_iff_getElem.1 hx
        rw [List.length_take] at hj
        rw [List.getElem_take] at e
        obtain ⟨⟨c', hc', g1⟩, _⟩ := h.dv j (by omega)
        rw [g1, h1] at e
        have := (nmS_inj (letters_ok hc').1 c1 (by omega) (by omega) e).2
        omega
    have k1 := h2.k1; have k6 := h2.k6; have a0 := h2.a0; have al := h2.al; have hj := h2.j; have hnj := h2.nj
    simp only [dErr, getD_get hi]
    rw [h1] at ht ⊢
    simp only [hn, ht, Bool.not_true, Bool.false_eq_true, if_false]
    rw [if_neg, if_neg, if_neg]
    · omega
    · rintro (g | g | ⟨g1, g2⟩ | ⟨g1, g2⟩)
      · omega
      · omega
      · have := hj g1; omega
      · exact g2 (hnj g1)
    · omega

/-- A deck: the numbers that it is made of, how many are gone, and what it stands at. -/
structure Dk where
  l : List Int
  at_ : Int
  s : Int
def encDk (d : Dk) : List AV := [.lst 1 (d.l.map encN), .raw (.int .i64 d.at_), .raw (.int .u64 d.s)]
structure Dk.ok (d : Dk) : Prop where
  len : d.l.length ≤ 9223372036854775807
  a0 : 0 ≤ d.at_
  al : d.at_ ≤ d.l.length
  s0 : 0 ≤ d.s
  s1 : d.s ≤ 18446744073709551615
  ls : ∀ x, x ∈ d.l → inI x
/-- What a draw gives: some number below n. -/
def Drawn (n : Int) (r : AV) (os : List Obj) : Prop := ∃ (x : Int) (d : Dk), d.ok ∧ 0 ≤ x ∧ (x < n ∨ (n < 1 ∧ x = 0)) ∧ r = .raw (.int .i64 x) ∧ os = [.box (encDk d)]
def DrawnB (r : AV) (os : List Obj) : Prop := ∃ (b : Bool) (d : Dk), d.ok ∧ r = .raw (.bool b) ∧ os = [.box (encDk d)]
end Go.Proofs.YtangkndckghblaaDoor.Abs
