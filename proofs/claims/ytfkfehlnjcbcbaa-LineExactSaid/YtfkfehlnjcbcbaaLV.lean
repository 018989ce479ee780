/- If nothing is lost any more, everything arrives: what each round takes off. No program in sight. -/
import Derived.Test.YtfkfehlnjcbcbaaLS
namespace Go.Proofs.Ytfkfehlnjcbcbaa.Abs
set_option linter.unusedSimpArgs false
set_option linter.unusedVariables false
open Go Go.RowKit

theorem start_zero {l : Ln} (h : l.ok) {n : Nat} {i : Int} (h0 : 0 ≤ i) (hi : i < n) : l.start n i = 0 := by
  have hc := chk_ok.2 h
  unfold Ln.start
  rw [if_neg (by simp [hc]), if_neg (by omega)]
theorem backs_err {l : Ln} (h : l.ok) {i : Int} (h0 : 0 ≤ i) (hi : i < l.back.length) : (l.backs i).2 = 0 := by
  unfold Ln.backs
  rw [if_neg (by simp [start_zero h h0 hi])]
  simp only
  split <;> rfl
theorem deliver_err {l : Ln} (h : l.ok) {i : Int} (h0 : 0 ≤ i) (hi : i < l.there.length) : (l.deliver i).2.2.2 = 0 := by
  unfold Ln.deliver
  rw [if_neg (by simp [start_zero h h0 hi])]
theorem send_err {l : Ln} (h : l.ok) (hw : l.waiting ≠ []) (ht : l.there.length < 32) : l.send.2 = 0 := by
  unfold Ln.send
  rw [if_neg (by simp [chk_ok.2 h]), if_neg hw, if_neg (by omega)]
theorem erase_last {α : Type} {xs : List α} {x : α} {n : Nat} (hn : n = xs.length) : (xs ++ [x]).eraseIdx n = xs := by
  subst hn
  rw [List.eraseIdx_append_of_length_le (Nat.le_refl _)]; simp
theorem get_last {xs : List Pk} {x : Pk} {n : Nat} (hn : n = xs.length) : (xs ++ [x]).getD n .zero = x := by
  subst hn
  simp [List.getD_eq_getElem?_getD]

/-- An acknowledgement of the message that is under way has come in. -/
def Ln.seen (l : Ln) : Bool := l.sent && l.back.any fun p => decide (p.num = l.next)
def Ln.mu (l : Ln) : Int := 2 * l.there.length + l.back.length + 2 * l.waiting.length - (if l.seen = true then 2 else 0)
theorem mu_pos {l : Ln} (h : l.ok) : 0 ≤ l.mu := by
  unfold Ln.mu
  split
  · rename_i hs
    simp only [Ln.seen, Bool.and_eq_true] at hs
    have hw := List.length_pos_iff.2 (h.sw hs.1)
    omega
  · omega
theorem mu_le {l : Ln} (h : l.ok) : l.mu ≤ 160 := by
  have h1 := h.w; have h2 := h.t; have h3 := h.b
  unfold Ln.mu
  split <;> omega
theorem mu_back {l : Ln} (h : l.ok) (hb : l.expected < 4611686018427387904) (hne : l.back ≠ []) :
    ∃ x, l.backs (l.back.length - 1) = (x, 0) ∧ x.ok ∧ x.mu + 1 ≤ l.mu ∧ x.expected = l.expected ∧ x.next + x.waiting.length = l.next + l.waiting.length := by
  rcases List.eq_nil_or_concat l.back with hq | ⟨bs, p, hq⟩
  · exact absurd hq hne
  rw [List.concat_eq_append] at hq
  have hlen : l.back.length = bs.length + 1 := by rw [hq]; simp
  have e := backs_err h (i := (l.back.length : Int) - 1) (by omega) (by omega)
  obtain ⟨q, rfl, hm, _, h1, h2⟩ := backs_ok h hb e
  have hn : ((l.back.length : Int) - 1).toNat = bs.length := by omega
  rw [hn] at h1 h2
  have hg : l.back.getD bs.length .zero = p := by rw [hq]; exact get_last rfl
  have he : l.back.eraseIdx bs.length = bs := by rw [hq]; exact erase_last rfl
  rw [hg] at h1 h2
  refine ⟨_, h1, h2, ?_, bck_exp, ?_⟩
  · unfold Ln.bck
    rw [he]
    split
    · rename_i hw
      have hwl := List.length_pos_iff.2 (h.sw hw.2)
      have hs : l.seen = true := by simp [Ln.seen, hw.2, hq, hw.1]
      simp [Ln.mu, Ln.seen, hs]
      omega
    · rename_i hw
      have hs : Ln.seen { l with back := bs } = l.seen := by
        rcases hse : l.sent with _ | _
        · simp [Ln.seen, hse]
        · have : p.num ≠ l.next := fun e => hw ⟨e, hse⟩
          simp [Ln.seen, hq, this, hse]
      simp only [Ln.mu, hs, hlen]
      omega
  · unfold Ln.bck
    split
    · rename_i hw
      have hwl := List.length_pos_iff.2 (h.sw hw.2)
      simp; omega
    · rfl
theorem mu_deliver {l : Ln} (h : l.ok) (hb : l.expected < 4611686018427387904) (hback : l.back = []) (hne : l.there ≠ []) :
    ∃ x a fr, l.deliver (l.there.length - 1) = (x, a, fr, 0) ∧ x.ok ∧ x.mu + 1 ≤ l.mu ∧ x.expected = l.expected + (if fr = true then 1 else 0) ∧ x.next + x.waiting.length = l.next + l.waiting.length := by
  have hp : 0 < l.there.length := List.length_pos_iff.2 hne
  have e := deliver_err h (i := (l.there.length : Int) - 1) (by omega) (by omega)
  obtain ⟨q, _, hm, hlt, h1, h2⟩ := deliver_ok h hb e
  refine ⟨_, _, _, h1, h2, ?_, ?_, rfl⟩
  · have hs : l.seen = false := by simp [Ln.seen, hback]
    have hl : (l.there.eraseIdx ((l.there.length : Int) - 1).toNat).length = l.there.length - 1 := List.length_eraseIdx_of_lt hlt
    simp only [Ln.mu, hs, Ln.dlv, hback, hl]
    simp
    split <;> omega
  · rw [dlv_exp]; simp
/-- A packet is sent anew, and delivered. -/
theorem mu_send {l : Ln} (h : l.ok) (hb : l.expected < 4611686018427387904) (hback : l.back = []) (hth : l.there = []) (hw : l.waiting ≠ []) :
    ∃ y x a fr, l.send = (y, 0) ∧ y.ok ∧ y.expected = l.expected ∧ y.there ≠ [] ∧ y.deliver (y.there.length - 1) = (x, a, fr, 0) ∧ x.ok ∧ x.mu + 1 ≤ l.mu ∧ x.expected = l.expected + (if fr = true then 1 else 0) ∧ x.next + x.waiting.length = l.next + l.waiting.length := by
  have e := send_err h hw (by simp [hth])
  obtain ⟨h1, h2⟩ := send_ok h e
  rw [hth, List.nil_append] at h1 h2
  have e2 := deliver_err h2 (i := 0) (by omega) (by simp)
  obtain ⟨q, hq, hm, hlt, h3, h4⟩ := deliver_ok h2 hb e2
  simp only [List.mem_singleton] at hm
  refine ⟨_, _, _, _, h1, h2, rfl, by simp, h3, h4, ?_, ?_, rfl⟩
  · have hs : l.seen = false := by simp [Ln.seen, hback]
    have hs' : (Ln.dlv { l with there := [⟨false, l.next, l.waiting.headD emp⟩], sent := true } q (0 : Int).toNat).seen = true := by
      simp [Ln.seen, Ln.dlv, hback, hm]
    simp only [Ln.mu, hs, hs']
    simp [Ln.dlv, hback, hth]
    omega
  · rw [dlv_exp]; simp
/-- With nothing left that waits, everything that was offered has arrived. -/
theorem done_eq {l : Ln} (h : l.ok) (hw : l.waiting = []) : l.expected = l.next := by
  have h1 := h.ne; have h2 := h.en
  by_cases he : l.expected = l.next + 1
  · exact absurd hw (h.sw (h.es he))
  · omega

/-- What was offered. -/
theorem step_count {l : Ln} (h : l.ok) (hb : l.expected < 4611686018427387904) {m i : Int} {s : ByteArray} (e : (l.step m i s).2.2.2 = 0) :
    (l.step m i s).1.next + (l.step m i s).1.waiting.length = l.next + l.waiting.length + if m = 0 then 1 else 0 := by
  rcases step_cases l m i s with ⟨hm, es⟩ | ⟨hm, es⟩ | ⟨hm, es⟩ | ⟨hm, es⟩ | ⟨hm, es⟩ | ⟨hm, es⟩ | ⟨hm, es⟩ <;> rw [es] at e ⊢
  · obtain ⟨h1, _⟩ := offer_ok h e
    rw [h1, if_pos hm]; simp; omega
  · obtain ⟨h1, _⟩ := send_ok h e
    rw [h1, if_neg (c := m = 0) (by omega)]; exact (Int.add_zero _).symm
  · obtain ⟨h1, _⟩ := lose_ok h e
    rw [h1, if_neg (c := m = 0) (by omega)]; exact (Int.add_zero _).symm
  · obtain ⟨⟨h1, _⟩, _⟩ := repeat_ok h e
    rw [h1, if_neg (c := m = 0) (by omega)]; exact (Int.add_zero _).symm
  · obtain ⟨p, _, _, _, h1, _⟩ := deliver_ok h hb e
    rw [h1, if_neg (c := m = 0) (by omega)]; exact (Int.add_zero _).symm
  · obtain ⟨h1, _⟩ := loseBack_ok h e
    rw [h1, if_neg (c := m = 0) (by omega)]; exact (Int.add_zero _).symm
  · obtain ⟨p, _, _, _, h1, _⟩ := backs_ok h hb e
    rw [h1, if_neg (c := m = 0) (by omega)]
    unfold Ln.bck
    split
    · rename_i hw
      have := List.length_pos_iff.2 (h.sw hw.2)
      simp; omega
    · exact (Int.add_zero _).symm
/-- A message is taken away only by Back. -/
theorem step_pop {l : Ln} (h : l.ok) (hb : l.expected < 4611686018427387904) {m i : Int} {s : ByteArray} (e : (l.step m i s).2.2.2 = 0) (hlt : (l.step m i s).1.waiting.length < l.waiting.length) :
    (m ≠ 0 ∧ m ≠ 1 ∧ m ≠ 2 ∧ m ≠ 3 ∧ m ≠ 4 ∧ m ≠ 5 ∧ m ≠ 6) ∧ (l.step m i s).1.next = l.next + 1 := by
  rcases step_cases l m i s with ⟨hm, es⟩ | ⟨hm, es⟩ | ⟨hm, es⟩ | ⟨hm, es⟩ | ⟨hm, es⟩ | ⟨hm, es⟩ | ⟨hm, es⟩ <;> rw [es] at e hlt ⊢
  · obtain ⟨h1, _⟩ := offer_ok h e
    rw [h1] at hlt; simp at hlt; omega
  · obtain ⟨h1, _⟩ := send_ok h e
    rw [h1] at hlt; exact absurd hlt (Nat.lt_irrefl _)
  · obtain ⟨h1, _⟩ := lose_ok h e
    rw [h1] at hlt; exact absurd hlt (Nat.lt_irrefl _)
  · obtain ⟨⟨h1, _⟩, _⟩ := repeat_ok h e
    rw [h1] at hlt; exact absurd hlt (Nat.lt_irrefl _)
  · obtain ⟨p, _, _, _, h1, _⟩ := deliver_ok h hb e
    rw [h1] at hlt; exact absurd hlt (Nat.lt_irrefl _)
  · obtain ⟨h1, _⟩ := loseBack_ok h e
    rw [h1] at hlt; exact absurd hlt (Nat.lt_irrefl _)
  · obtain ⟨p, _, _, _, h1, _⟩ := backs_ok h hb e
    refine ⟨hm, ?_⟩
    rw [h1] at hlt ⊢
    unfold Ln.bck at hlt ⊢
    split at hlt
    · rename_i hw
      rw [if_pos hw]
    · exact absurd hlt (Nat.lt_irrefl _)
end Go.Proofs.Ytfkfehlnjcbcbaa.Abs
