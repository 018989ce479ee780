/- Lines on plain data: what each move keeps. No program in sight. -/
import Derived.Test.YtfkfehlnjcbcbaaLM
namespace Go.Proofs.Ytfkfehlnjcbcbaa.Abs
set_option linter.unusedSimpArgs false
set_option linter.unusedVariables false
open Go Go.RowKit

/-- A valid line. -/
structure Ln.ok (l : Ln) : Prop where
  w : l.waiting.length ≤ 32
  t : l.there.length ≤ 32
  b : l.back.length ≤ 32
  ws : ∀ s, s ∈ l.waiting → long s = false
  ts : ∀ p, p ∈ l.there → long p.pay = false
  bs : ∀ p, p ∈ l.back → long p.pay = false
  n1 : 1 ≤ l.next
  ne : l.next ≤ l.expected
  en : l.expected ≤ l.next + 1
  es : l.expected = l.next + 1 → l.sent = true
  sw : l.sent = true → l.waiting ≠ []
  tm : ∀ p, p ∈ l.there → p.ack = false ∧ 1 ≤ p.num ∧ (p.num < l.next ∨ (p.num = l.next ∧ l.sent = true ∧ p.pay = l.waiting.headD emp))
  bm : ∀ p, p ∈ l.back → p.ack = true ∧ p.pay = emp ∧ 1 ≤ p.num ∧ p.num < l.expected

theorem over_false {l : Ln} : l.over = false ↔ l.waiting.length ≤ 32 ∧ l.there.length ≤ 32 ∧ l.back.length ≤ 32 ∧ (∀ s, s ∈ l.waiting → long s = false) ∧ (∀ p, p ∈ l.there → long p.pay = false) ∧ ∀ p, p ∈ l.back → long p.pay = false := by
  simp [Ln.over, and_assoc]
theorem bad_false {l : Ln} : l.bad = false ↔ 1 ≤ l.next ∧ l.next ≤ l.expected ∧ l.expected ≤ l.next + 1 ∧ (l.expected = l.next + 1 → l.sent = true) ∧ (l.sent = true → l.waiting ≠ []) := by
  simp only [Ln.bad, Bool.or_eq_false_iff, decide_eq_false_iff_not, Bool.and_eq_false_iff, Bool.not_eq_false', List.isEmpty_eq_false_iff]
  constructor
  · rintro ⟨⟨⟨⟨⟨h1, h2⟩, h3⟩, h4⟩, h5⟩, h6⟩
    refine ⟨by omega, by omega, by omega, fun e => ?_, fun e => ?_⟩
    · rcases h5 with h | h
      · exact absurd e h
      · exact h
    · rcases h6 with h | h
      · rw [e] at h; cases h
      · exact h
  · rintro ⟨h1, h2, h3, h4, h5⟩
    refine ⟨⟨⟨⟨⟨by omega, by omega⟩, by omega⟩, by omega⟩, ?_⟩, ?_⟩
    · by_cases h : l.expected = l.next + 1
      · exact .inr (h4 h)
      · exact .inl h
    · rcases hs : l.sent with _ | _
      · exact .inl rfl
      · exact .inr (h5 hs)
theorem chk_ok {l : Ln} : l.chk = 0 ↔ l.ok := by
  have ht : l.there.all l.msg = true ↔ ∀ p, p ∈ l.there → p.ack = false ∧ 1 ≤ p.num ∧ (p.num < l.next ∨ (p.num = l.next ∧ l.sent = true ∧ p.pay = l.waiting.headD emp)) := by
    simp [List.all_eq_true, Ln.msg, and_assoc]
  have hb : l.back.all l.ackd = true ↔ ∀ p, p ∈ l.back → p.ack = true ∧ p.pay = emp ∧ 1 ≤ p.num ∧ p.num < l.expected := by
    simp [List.all_eq_true, Ln.ackd, and_assoc]
  unfold Ln.chk
  constructor
  · intro h
    split at h
    · cases h
    · rename_i h1
      split at h
      · cases h
      · rename_i h2
        split at h
        · rename_i h3
          rw [Bool.and_eq_true] at h3
          obtain ⟨a1, a2, a3, a4, a5, a6⟩ := over_false.1 (by simpa using h1)
          obtain ⟨b1, b2, b3, b4, b5⟩ := bad_false.1 (by simpa using h2)
          exact ⟨a1, a2, a3, a4, a5, a6, b1, b2, b3, b4, b5, ht.1 h3.1, hb.1 h3.2⟩
        · cases h
  · intro h
    have h1 := over_false.2 ⟨h.w, h.t, h.b, h.ws, h.ts, h.bs⟩
    have h2 := bad_false.2 ⟨h.n1, h.ne, h.en, h.es, h.sw⟩
    have h3 := ht.2 h.tm
    have h4 := hb.2 h.bm
    simp [h1, h2, h3, h4]

theorem mem_erase {α : Type} {l : List α} {i : Nat} {x : α} (h : x ∈ l.eraseIdx i) : x ∈ l := List.mem_of_mem_eraseIdx h
theorem head_mem {l : List ByteArray} (h : l ≠ []) : l.headD emp ∈ l := by
  cases l with
  | nil => exact absurd rfl h
  | cons a l => simp
theorem headD_append {l : List ByteArray} {s : ByteArray} (h : l ≠ []) : (l ++ [s]).headD emp = l.headD emp := by
  cases l with
  | nil => exact absurd rfl h
  | cons a l => simp
theorem getD_mem {l : List Pk} {i : Nat} (h : i < l.length) : l.getD i .zero ∈ l := by
  rw [List.getD_eq_getElem?_getD, List.getElem?_eq_getElem h]
  exact List.getElem_mem h
theorem new_ok : Ln.new.ok := chk_ok.1 (by decide)

theorem offer_ok {l : Ln} (h : l.ok) {s : ByteArray} (e : (l.offer s).2 = 0) : l.offer s = ({ l with waiting := l.waiting ++ [s] }, 0) ∧ ({ l with waiting := l.waiting ++ [s] } : Ln).ok := by
  have hc := chk_ok.2 h
  unfold Ln.offer at e ⊢
  simp only [hc, ne_eq, not_true_eq_false, if_false] at e ⊢
  split at e
  · cases e
  rename_i hs
  split at e
  · cases e
  rename_i hw
  refine ⟨by simp [hs, hw], ?_⟩
  have hs' : long s = false := by simpa using hs
  refine { h with w := ?_, ws := ?_, sw := ?_, tm := ?_ }
  · have := h.w; simp; omega
  · intro x hx
    simp only [List.mem_append, List.mem_singleton] at hx
    rcases hx with hx | rfl
    · exact h.ws x hx
    · exact hs'
  · intro _; simp
  · intro p hp
    obtain ⟨h1, h2, h3⟩ := h.tm p hp
    refine ⟨h1, h2, ?_⟩
    rcases h3 with h3 | ⟨h3, h4, h5⟩
    · exact .inl h3
    · exact .inr ⟨h3, h4, by rw [headD_append (h.sw h4)]; exact h5⟩
theorem send_ok {l : Ln} (h : l.ok) (e : l.send.2 = 0) : l.send = ({ l with there := l.there ++ [⟨false, l.next, l.waiting.headD emp⟩], sent := true }, 0) ∧ ({ l with there := l.there ++ [⟨false, l.next, l.waiting.headD emp⟩], sent := true } : Ln).ok := by
  have hc := chk_ok.2 h
  unfold Ln.send at e ⊢
  simp only [hc, ne_eq, not_true_eq_false, if_false] at e ⊢
  split at e
  · cases e
  rename_i hs
  split at e
  · cases e
  rename_i hw
  refine ⟨by simp [hs, hw], ?_⟩
  refine { h with t := ?_, ts := ?_, es := ?_, sw := ?_, tm := ?_ }
  · have := h.t; simp; omega
  · intro x hx
    simp only [List.mem_append, List.mem_singleton] at hx
    rcases hx with hx | rfl
    · exact h.ts x hx
    · exact h.ws _ (head_mem hs)
  · intro _; rfl
  · intro _; exact hs
  · intro p hp
    simp only [List.mem_append, List.mem_singleton] at hp
    rcases hp with hp | rfl
    · obtain ⟨h1, h2, h3⟩ := h.tm p hp
      refine ⟨h1, h2, ?_⟩
      rcases h3 with h3 | ⟨h3, h4, h5⟩
      · exact .inl h3
      · exact .inr ⟨h3, rfl, h5⟩
    · exact ⟨rfl, h.n1, .inr ⟨rfl, rfl, rfl⟩⟩
theorem start_ok' {l : Ln} {n : Nat} {i : Int} (h : l.start n i = 0) : 0 ≤ i ∧ i < n := by
  unfold Ln.start at h
  split at h
  · rename_i h1; exact absurd h h1
  · split at h
    · cases h
    · omega
theorem lose_ok {l : Ln} (h : l.ok) {i : Int} (e : (l.lose i).2 = 0) : l.lose i = ({ l with there := l.there.eraseIdx i.toNat }, 0) ∧ ({ l with there := l.there.eraseIdx i.toNat } : Ln).ok := by
  unfold Ln.lose at e ⊢
  split at e
  · rename_i h1; exact absurd e h1
  rename_i h1
  refine ⟨by simp [h1], ?_⟩
  refine { h with t := ?_, ts := fun p hp => h.ts p (mem_erase hp), tm := fun p hp => h.tm p (mem_erase hp) }
  exact Nat.le_trans (List.length_eraseIdx_le ..) h.t
theorem loseBack_ok {l : Ln} (h : l.ok) {i : Int} (e : (l.loseBack i).2 = 0) : l.loseBack i = ({ l with back := l.back.eraseIdx i.toNat }, 0) ∧ ({ l with back := l.back.eraseIdx i.toNat } : Ln).ok := by
  unfold Ln.loseBack at e ⊢
  split at e
  · rename_i h1; exact absurd e h1
  rename_i h1
  refine ⟨by simp [h1], ?_⟩
  refine { h with b := ?_, bs := fun p hp => h.bs p (mem_erase hp), bm := fun p hp => h.bm p (mem_erase hp) }
  exact Nat.le_trans (List.length_eraseIdx_le ..) h.b
theorem repeat_ok {l : Ln} (h : l.ok) {i : Int} (e : (l.repeat' i).2 = 0) : (l.repeat' i = ({ l with there := l.there ++ [l.there.getD i.toNat .zero] }, 0) ∧ l.there.getD i.toNat .zero ∈ l.there) ∧ ({ l with there := l.there ++ [l.there.getD i.toNat .zero] } : Ln).ok := by
  unfold Ln.repeat' at e ⊢
  split at e
  · rename_i h1; exact absurd e h1
  rename_i h1
  split at e
  · cases e
  rename_i h2
  have hi := start_ok' (l := l) (n := l.there.length) (i := i) (by simpa using h1)
  have hm : l.there.getD i.toNat .zero ∈ l.there := getD_mem (by omega)
  refine ⟨⟨by simp [h1, h2], hm⟩, ?_⟩
  refine { h with t := ?_, ts := ?_, tm := ?_ }
  · have := h.t; simp; omega
  · intro p hp
    simp only [List.mem_append, List.mem_singleton] at hp
    rcases hp with hp | rfl
    · exact h.ts p hp
    · exact h.ts _ hm
  · intro p hp
    simp only [List.mem_append, List.mem_singleton] at hp
    rcases hp with hp | rfl
    · exact h.tm p hp
    · exact h.tm _ hm

theorem wrap64 {n : Int} (h1 : 0 ≤ n) (h2 : n < 4611686018427387904) : IntKind.i64.wrap (n + 1) = n + 1 := wrap_in (by omega) (by omega)

/-- What Deliver leaves, where it succeeds. -/
def Ln.dlv (l : Ln) (p : Pk) (k : Nat) : Ln := { l with there := l.there.eraseIdx k, expected := if p.num = l.expected then l.expected + 1 else l.expected, back := if l.back.length < 32 then l.back ++ [⟨true, p.num, emp⟩] else l.back }
theorem deliver_ok {l : Ln} (h : l.ok) (hb : l.expected < 4611686018427387904) {i : Int} (e : (l.deliver i).2.2.2 = 0) :
    ∃ p, p = l.there.getD i.toNat .zero ∧ p ∈ l.there ∧ i.toNat < l.there.length ∧ l.deliver i = (l.dlv p i.toNat, if p.num = l.expected then p.pay else emp, decide (p.num = l.expected), 0) ∧ (l.dlv p i.toNat).ok := by
  have hn1 := h.n1; have hne := h.ne; have hen := h.en
  have hwr := wrap64 (n := l.expected) (by omega) hb
  unfold Ln.deliver at e ⊢
  split at e
  · rename_i h1; exact absurd e h1
  rename_i h1
  have hi := start_ok' (l := l) (n := l.there.length) (i := i) (by simpa using h1)
  have hm : l.there.getD i.toNat .zero ∈ l.there := getD_mem (by omega)
  refine ⟨_, rfl, hm, by omega, by simp only [h1, if_false, hwr, Ln.dlv], ?_⟩
  generalize l.there.getD i.toNat .zero = p at *
  obtain ⟨p1, p2, p3⟩ := h.tm p hm
  have hpe : p.num = l.expected → p.num = l.next ∧ l.sent = true := fun e => by
    rcases p3 with p3 | ⟨p3, p4, _⟩
    · omega
    · exact ⟨p3, p4⟩
  have hex : l.expected ≤ (l.dlv p i.toNat).expected ∧ (l.dlv p i.toNat).expected ≤ l.next + 1 := by
    simp only [Ln.dlv]
    split
    · rename_i e; have := hpe e; omega
    · omega
  have hpn : p.num < (l.dlv p i.toNat).expected := by
    simp only [Ln.dlv]
    split
    · omega
    · rename_i e
      rcases p3 with p3 | ⟨p3, p4, _⟩ <;> omega
  constructor
  · exact h.w
  · exact Nat.le_trans (List.length_eraseIdx_le ..) h.t
  · simp only [Ln.dlv]; have := h.b; split <;> (try simp) <;> omega
  · exact h.ws
  · exact fun q hq => h.ts q (mem_erase hq)
  · intro q hq
    simp only [Ln.dlv] at hq
    split at hq
    · simp only [List.mem_append, List.mem_singleton] at hq
      rcases hq with hq | rfl
      · exact h.bs q hq
      · simp [long, emp, ByteArray.size]
    · exact h.bs q hq
  · exact h.n1
  · show l.next ≤ _; omega
  · exact hex.2
  · intro e
    simp only [Ln.dlv] at e
    split at e
    · rename_i e'; exact (hpe e').2
    · exact h.es e
  · exact h.sw
  · exact fun q hq => h.tm q (mem_erase hq)
  · intro q hq
    have hq' : q ∈ l.back ∨ q = ⟨true, p.num, emp⟩ := by
      simp only [Ln.dlv] at hq
      split at hq
      · simpa using hq
      · exact .inl hq
    rcases hq' with hq' | rfl
    · obtain ⟨b1, b2, b3, b4⟩ := h.bm q hq'
      exact ⟨b1, b2, b3, by omega⟩
    · exact ⟨rfl, rfl, p2, hpn⟩

/-- What Back leaves, where it succeeds. -/
def Ln.bck (l : Ln) (p : Pk) (k : Nat) : Ln := if p.num = l.next ∧ l.sent = true then { l with back := l.back.eraseIdx k, waiting := l.waiting.tail, next := l.next + 1, sent := false } else { l with back := l.back.eraseIdx k }
theorem backs_ok {l : Ln} (h : l.ok) (hb : l.expected < 4611686018427387904) {i : Int} (e : (l.backs i).2 = 0) :
    ∃ p, p = l.back.getD i.toNat .zero ∧ p ∈ l.back ∧ i.toNat < l.back.length ∧ l.backs i = (l.bck p i.toNat, 0) ∧ (l.bck p i.toNat).ok := by
  have hn1 := h.n1; have hne := h.ne; have hen := h.en
  have hwr := wrap64 (n := l.next) (by omega) (by omega)
  unfold Ln.backs at e ⊢
  split at e
  · rename_i h1; exact absurd e h1
  rename_i h1
  have hi := start_ok' (l := l) (n := l.back.length) (i := i) (by simpa using h1)
  have hm : l.back.getD i.toNat .zero ∈ l.back := getD_mem (by omega)
  refine ⟨_, rfl, hm, by omega, ?_, ?_⟩
  · simp only [h1, if_false, hwr, Ln.bck]
    split <;> rfl
  generalize l.back.getD i.toNat .zero = p at *
  obtain ⟨p1, p2, p3, p4⟩ := h.bm p hm
  have hlen : (l.back.eraseIdx i.toNat).length ≤ 32 := Nat.le_trans (List.length_eraseIdx_le ..) h.b
  unfold Ln.bck
  split
  · rename_i hw
    refine ⟨by have := h.w; simp; omega, h.t, hlen, fun s hs => h.ws s (List.mem_of_mem_tail hs), h.ts, fun q hq => h.bs q (mem_erase hq), by show 1 ≤ l.next + 1; omega, by show l.next + 1 ≤ l.expected; omega, by show l.expected ≤ l.next + 1 + 1; omega, fun e => ?_, (fun e => (by cases e)), fun q hq => ?_, fun q hq => h.bm q (mem_erase hq)⟩
    · change l.expected = l.next + 1 + 1 at e
      omega
    · obtain ⟨q1, q2, q3⟩ := h.tm q hq
      refine ⟨q1, q2, .inl ?_⟩
      show q.num < l.next + 1
      rcases q3 with q3 | ⟨q3, _⟩ <;> omega
  · exact { h with b := hlen, bs := fun q hq => h.bs q (mem_erase hq), bm := fun q hq => h.bm q (mem_erase hq) }

/-- One of the eight moves. -/
def Ln.step (l : Ln) (m i : Int) (s : ByteArray) : Ln × ByteArray × Bool × Int :=
  if m = 0 then ((l.offer s).1, emp, false, (l.offer s).2)
  else if m = 1 ∨ m = 2 then (l.send.1, emp, false, l.send.2)
  else if m = 3 then ((l.lose i).1, emp, false, (l.lose i).2)
  else if m = 4 then ((l.repeat' i).1, emp, false, (l.repeat' i).2)
  else if m = 5 then l.deliver i
  else if m = 6 then ((l.loseBack i).1, emp, false, (l.loseBack i).2)
  else ((l.backs i).1, emp, false, (l.backs i).2)
/-- The line behind a move: as it was, where the move is refused. -/
def Ln.after (l : Ln) (m i : Int) (s : ByteArray) : Ln := if (l.step m i s).2.2.2 = 0 then (l.step m i s).1 else l
theorem dlv_exp {l : Ln} {p : Pk} {k : Nat} : (l.dlv p k).expected = l.expected + if p.num = l.expected then 1 else 0 := by
  simp only [Ln.dlv]; split <;> omega
theorem bck_exp {l : Ln} {p : Pk} {k : Nat} : (l.bck p k).expected = l.expected := by
  unfold Ln.bck; split <;> rfl
theorem step_cases (l : Ln) (m i : Int) (s : ByteArray) :
    (m = 0 ∧ l.step m i s = ((l.offer s).1, emp, false, (l.offer s).2)) ∨ ((m = 1 ∨ m = 2) ∧ l.step m i s = (l.send.1, emp, false, l.send.2)) ∨ (m = 3 ∧ l.step m i s = ((l.lose i).1, emp, false, (l.lose i).2)) ∨
    (m = 4 ∧ l.step m i s = ((l.repeat' i).1, emp, false, (l.repeat' i).2)) ∨ (m = 5 ∧ l.step m i s = l.deliver i) ∨ (m = 6 ∧ l.step m i s = ((l.loseBack i).1, emp, false, (l.loseBack i).2)) ∨
    ((m ≠ 0 ∧ m ≠ 1 ∧ m ≠ 2 ∧ m ≠ 3 ∧ m ≠ 4 ∧ m ≠ 5 ∧ m ≠ 6) ∧ l.step m i s = ((l.backs i).1, emp, false, (l.backs i).2)) := by
  unfold Ln.step
  by_cases h0 : m = 0
  · exact .inl ⟨h0, if_pos h0⟩
  rw [if_neg h0]
  by_cases h1 : m = 1 ∨ m = 2
  · exact .inr (.inl ⟨h1, if_pos h1⟩)
  rw [if_neg h1]
  by_cases h3 : m = 3
  · exact .inr (.inr (.inl ⟨h3, if_pos h3⟩))
  rw [if_neg h3]
  by_cases h4 : m = 4
  · exact .inr (.inr (.inr (.inl ⟨h4, if_pos h4⟩)))
  rw [if_neg h4]
  by_cases h5 : m = 5
  · exact .inr (.inr (.inr (.inr (.inl ⟨h5, if_pos h5⟩))))
  rw [if_neg h5]
  by_cases h6 : m = 6
  · exact .inr (.inr (.inr (.inr (.inr (.inl ⟨h6, if_pos h6⟩)))))
  rw [if_neg h6]
  exact .inr (.inr (.inr (.inr (.inr (.inr ⟨⟨h0, fun e => h1 (.inl e), fun e => h1 (.inr e), h3, h4, h5, h6⟩, rfl⟩)))))
theorem step_ok {l : Ln} (h : l.ok) (hb : l.expected < 4611686018427387904) {m i : Int} {s : ByteArray} (e : (l.step m i s).2.2.2 = 0) :
    (l.step m i s).1.ok ∧ (l.step m i s).1.expected = l.expected + if (l.step m i s).2.2.1 = true then 1 else 0 := by
  rcases step_cases l m i s with ⟨_, es⟩ | ⟨_, es⟩ | ⟨_, es⟩ | ⟨_, es⟩ | ⟨_, es⟩ | ⟨_, es⟩ | ⟨_, es⟩ <;> rw [es] at e ⊢
  · obtain ⟨h1, h2⟩ := offer_ok h e
    rw [h1]; exact ⟨h2, (Int.add_zero _).symm⟩
  · obtain ⟨h1, h2⟩ := send_ok h e
    rw [h1]; exact ⟨h2, (Int.add_zero _).symm⟩
  · obtain ⟨h1, h2⟩ := lose_ok h e
    rw [h1]; exact ⟨h2, (Int.add_zero _).symm⟩
  · obtain ⟨⟨h1, _⟩, h2⟩ := repeat_ok h e
    rw [h1]; exact ⟨h2, (Int.add_zero _).symm⟩
  · obtain ⟨p, _, _, _, h1, h2⟩ := deliver_ok h hb e
    rw [h1]; exact ⟨h2, by rw [dlv_exp]; simp⟩
  · obtain ⟨h1, h2⟩ := loseBack_ok h e
    rw [h1]; exact ⟨h2, (Int.add_zero _).symm⟩
  · obtain ⟨p, _, _, _, h1, h2⟩ := backs_ok h hb e
    rw [h1]; exact ⟨h2, by rw [bck_exp]; exact (Int.add_zero _).symm⟩
theorem after_ok {l : Ln} (h : l.ok) (hb : l.expected < 4611686018427387904) {m i : Int} {s : ByteArray} : (l.after m i s).ok ∧ (l.after m i s).expected ≤ l.expected + 1 := by
  unfold Ln.after
  split
  · rename_i e
    obtain ⟨h1, h2⟩ := step_ok h hb e
    refine ⟨h1, ?_⟩
    rw [h2]; split <;> omega
  · exact ⟨h, by omega⟩

end Go.Proofs.Ytfkfehlnjcbcbaa.Abs
