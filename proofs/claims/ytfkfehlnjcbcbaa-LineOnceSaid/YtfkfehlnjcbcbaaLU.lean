/- What arrives fresh are the messages that were offered, in order. No program in sight. -/
import Derived.Test.YtfkfehlnjcbcbaaLS
namespace Go.Proofs.Ytfkfehlnjcbcbaa.Abs
set_option linter.unusedSimpArgs false
set_option linter.unusedVariables false
open Go Go.RowKit

structure Onc (o f : List ByteArray) (l : Ln) : Prop where
  ok : l.ok
  nx : (o.length : Int) = l.next - 1 + l.waiting.length
  wt : l.waiting = o.drop (l.next - 1).toNat
  ex : (f.length : Int) = l.expected - 1
  fr : ∀ i, i < f.length → f[i]? = o[i]?
  pk : ∀ p, p ∈ l.there → o[(p.num - 1).toNat]? = some p.pay

theorem onc_new : Onc [] [] Ln.new := ⟨new_ok, rfl, rfl, rfl, fun i h => by simp at h, fun p hp => by cases hp⟩
theorem get_append {α : Type} {o : List α} {s x : α} {i : Nat} (h : o[i]? = some x) : (o ++ [s])[i]? = some x := by
  rw [List.getElem?_append_left (List.getElem?_eq_some_iff.1 h).1]; exact h
theorem onc_offer {o f : List ByteArray} {l : Ln} (h : Onc o f l) {s : ByteArray} (e : (l.offer s).2 = 0) : Onc (o ++ [s]) f (l.offer s).1 := by
  obtain ⟨h1, h2⟩ := offer_ok h.ok e
  have hn := h.ok.n1; have hne := h.ok.ne; have hen := h.ok.en
  have hnx := h.nx; have hex := h.ex
  rw [h1]
  refine ⟨h2, ?_, ?_, h.ex, fun i hi => ?_, fun p hp => get_append (h.pk p hp)⟩
  · simp; omega
  · show l.waiting ++ [s] = List.drop (l.next - 1).toNat (o ++ [s])
    rw [List.drop_append_of_le_length (by omega), ← h.wt]
  · have hsw : l.expected = l.next + 1 → 0 < l.waiting.length := fun e => List.length_pos_iff.2 (h.ok.sw (h.ok.es e))
    rw [h.fr i hi, List.getElem?_append_left]
    by_cases he : l.expected = l.next + 1
    · have := hsw he; omega
    · omega
theorem onc_send {o f : List ByteArray} {l : Ln} (h : Onc o f l) (e : l.send.2 = 0) : Onc o f l.send.1 := by
  obtain ⟨h1, h2⟩ := send_ok h.ok e
  have hn := h.ok.n1
  rw [h1]
  refine ⟨h2, h.nx, h.wt, h.ex, h.fr, fun p hp => ?_⟩
  simp only [List.mem_append, List.mem_singleton] at hp
  rcases hp with hp | rfl
  · exact h.pk p hp
  · show o[(l.next - 1).toNat]? = some (l.waiting.headD emp)
    have hw : l.waiting ≠ [] := h2.sw rfl
    rw [h.wt] at hw ⊢
    have hlt : (l.next - 1).toNat < o.length := by
      rcases Nat.lt_or_ge (l.next - 1).toNat o.length with h' | h'
      · exact h'
      · exact absurd (List.drop_eq_nil_of_le h') hw
    rw [List.drop_eq_getElem_cons hlt, List.getElem?_eq_getElem hlt]
    rfl
theorem onc_lose {o f : List ByteArray} {l : Ln} (h : Onc o f l) {i : Int} (e : (l.lose i).2 = 0) : Onc o f (l.lose i).1 := by
  obtain ⟨h1, h2⟩ := lose_ok h.ok e
  rw [h1]
  exact ⟨h2, h.nx, h.wt, h.ex, h.fr, fun p hp => h.pk p (mem_erase hp)⟩
theorem onc_repeat {o f : List ByteArray} {l : Ln} (h : Onc o f l) {i : Int} (e : (l.repeat' i).2 = 0) : Onc o f (l.repeat' i).1 := by
  obtain ⟨⟨h1, hm⟩, h2⟩ := repeat_ok h.ok e
  rw [h1]
  refine ⟨h2, h.nx, h.wt, h.ex, h.fr, fun p hp => ?_⟩
  simp only [List.mem_append, List.mem_singleton] at hp
  rcases hp with hp | rfl
  · exact h.pk p hp
  · exact h.pk _ hm
theorem onc_loseBack {o f : List ByteArray} {l : Ln} (h : Onc o f l) {i : Int} (e : (l.loseBack i).2 = 0) : Onc o f (l.loseBack i).1 := by
  obtain ⟨h1, h2⟩ := loseBack_ok h.ok e
  rw [h1]
  exact ⟨h2, h.nx, h.wt, h.ex, h.fr, h.pk⟩
theorem onc_backs {o f : List ByteArray} {l : Ln} (h : Onc o f l) (hb : l.expected < 4611686018427387904) {i : Int} (e : (l.backs i).2 = 0) : Onc o f (l.backs i).1 := by
  obtain ⟨p, _, _, _, h1, h2⟩ := backs_ok h.ok hb e
  have hn := h.ok.n1; have hnx := h.nx
  rw [h1]
  unfold Ln.bck at h2 ⊢
  split at h2
  · rename_i hw
    rw [if_pos hw]
    have hw' : 0 < l.waiting.length := List.length_pos_iff.2 (h.ok.sw hw.2)
    refine ⟨h2, ?_, ?_, h.ex, h.fr, h.pk⟩
    · simp; omega
    · show l.waiting.tail = List.drop (l.next + 1 - 1).toNat o
      rw [h.wt, List.tail_drop]
      congr 1
      omega
  · rename_i hw
    rw [if_neg hw]
    exact ⟨h2, h.nx, h.wt, h.ex, h.fr, h.pk⟩
theorem onc_deliver {o f : List ByteArray} {l : Ln} (h : Onc o f l) (hb : l.expected < 4611686018427387904) {i : Int} (e : (l.deliver i).2.2.2 = 0) :
    Onc o (if (l.deliver i).2.2.1 = true then f ++ [(l.deliver i).2.1] else f) (l.deliver i).1 := by
  obtain ⟨p, _, hm, _, h1, h2⟩ := deliver_ok h.ok hb e
  have hex := h.ex; have hpk := h.pk p hm; have hn := h.ok.n1; have hne := h.ok.ne
  rw [h1]
  by_cases hp : p.num = l.expected
  · have hl : f.length = (p.num - 1).toNat := by omega
    simp only [hp, decide_true, if_true]
    refine ⟨h2, h.nx, h.wt, ?_, fun j hj => ?_, fun q hq => h.pk q (mem_erase hq)⟩
    · rw [dlv_exp]; simp [hp]; omega
    · rw [List.getElem?_append]
      split
      · exact h.fr j (by assumption)
      · have hj' : j = f.length := by simp at hj; omega
        subst hj'
        rw [Nat.sub_self, hl, hpk]; rfl
  · simp only [hp, decide_false, if_false, Bool.false_eq_true]
    refine ⟨h2, h.nx, h.wt, ?_, h.fr, fun q hq => h.pk q (mem_erase hq)⟩
    rw [dlv_exp]; simp [hp]; omega
/-- What LineOnce asks behind each move. -/
theorem onc_len {o f : List ByteArray} {l : Ln} (h : Onc o f l) : f.length ≤ o.length ∧ (o.length : Int) - l.waiting.length ≤ f.length ∧ (f.length : Int) ≤ o.length - l.waiting.length + 1 := by
  have h1 := h.nx; have h2 := h.ex; have h3 := h.ok.ne; have h4 := h.ok.en
  refine ⟨?_, by omega, by omega⟩
  by_cases he : l.expected = l.next + 1
  · have : 0 < l.waiting.length := List.length_pos_iff.2 (h.ok.sw (h.ok.es he))
    omega
  · omega
end Go.Proofs.Ytfkfehlnjcbcbaa.Abs
