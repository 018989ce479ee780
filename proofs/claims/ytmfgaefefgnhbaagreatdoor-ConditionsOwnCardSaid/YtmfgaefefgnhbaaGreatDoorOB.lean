/- Sets of small numbers as bits. No program in sight. -/
import Derived.Test.YtmfgaefefgnhbaaGreatDoorOA
namespace Go.Proofs.YtmfgaefefgnhbaaGreatDoor.Abs
set_option linter.unusedSimpArgs false
set_option linter.unusedVariables false
open Go Go.RowKit

def bitsOf (l : List Int) : Nat := l.foldl (fun b x => b ||| 2 ^ x.toNat) 0
theorem bitsOf_snoc {l : List Int} {x : Int} : bitsOf (l ++ [x]) = bitsOf l ||| 2 ^ x.toNat := by simp [bitsOf]
theorem bitsOf_take {l : List Int} {i : Nat} (hi : i < l.length) : bitsOf (l.take (i + 1)) = bitsOf (l.take i) ||| 2 ^ (l[i]).toNat := by
  rw [List.take_succ_eq_append_getElem hi, bitsOf_snoc]
theorem foldl_bit (l : List Int) (b i : Nat) : (l.foldl (fun b x => b ||| 2 ^ x.toNat) b).testBit i = (b.testBit i || l.any fun x => decide (x.toNat = i)) := by
  induction l generalizing b with
  | nil => simp
  | cons x l ih =>
    rw [List.foldl_cons, ih, Nat.testBit_or, Nat.testBit_two_pow, List.any_cons, Bool.or_assoc]
theorem bitsOf_bit {l : List Int} (h : ∀ x, x ∈ l → 0 ≤ x) (i : Nat) : (bitsOf l).testBit i = decide ((i : Int) ∈ l) := by
  unfold bitsOf
  rw [foldl_bit, Nat.zero_testBit, Bool.false_or, Bool.eq_iff_iff, List.any_eq_true, decide_eq_true_eq]
  constructor
  · rintro ⟨x, hx, e⟩
    have h0 := h x hx
    have e := of_decide_eq_true e
    have : x = (i : Int) := by omega
    rw [← this]; exact hx
  · intro hx
    exact ⟨_, hx, by simp⟩
theorem bitsOf_lt {l : List Int} (h : ∀ x, x ∈ l → x < 32) : bitsOf l < 2 ^ 32 := by
  have key : ∀ (l : List Int) (b : Nat), b < 2 ^ 32 → (∀ x, x ∈ l → x < 32) → l.foldl (fun b x => b ||| 2 ^ x.toNat) b < 2 ^ 32 := by
    intro l
    induction l with
    | nil => intro b hb _; exact hb
    | cons x l ih =>
      intro b hb hx
      rw [List.foldl_cons]
      refine ih _ (Nat.or_lt_two_pow hb ?_) fun y hy => hx y (List.mem_cons_of_mem _ hy)
      have := hx x (by simp)
      exact Nat.pow_lt_pow_right (by omega) (by omega)
  exact key l 0 (by decide) h
theorem bits_and {a b : List Int} (ha : ∀ x, x ∈ a → 0 ≤ x) (hb : ∀ x, x ∈ b → 0 ≤ x) : (bitsOf a &&& bitsOf b ≠ 0) ↔ (a.any fun v => decide (v ∈ b)) = true := by
  rw [List.any_eq_true]
  constructor
  · intro h
    refine Classical.byContradiction fun hn => h (Nat.eq_of_testBit_eq fun i => ?_)
    rw [Nat.testBit_and, bitsOf_bit ha, bitsOf_bit hb, Nat.zero_testBit]
    cases h1 : decide ((i : Int) ∈ a)
    · rfl
    · cases h2 : decide ((i : Int) ∈ b)
      · rfl
      · exact absurd ⟨(i : Int), of_decide_eq_true h1, h2⟩ hn
  · rintro ⟨v, h1, h2⟩ h0
    have h3 := ha v h1
    have h4 : (bitsOf a &&& bitsOf b).testBit v.toNat = true := by
      rw [Nat.testBit_and, bitsOf_bit ha, bitsOf_bit hb]
      have e : ((v.toNat : Nat) : Int) = v := by omega
      rw [e, decide_eq_true h1, h2]; rfl
    rw [h0, Nat.zero_testBit] at h4
    cases h4
theorem u64_nat {x : Nat} (h : x < 2 ^ 64) : IntKind.u64.wrap (x : Int) = x := by
  simp [IntKind.wrap, IntKind.bits, IntKind.signed]; omega
theorem u64_shl {i : Nat} (h : i < 64) : IntKind.u64.wrap (1 * 2 ^ (min i 64)) = ((2 ^ i : Nat) : Int) := by
  rw [Nat.min_eq_left (by omega), Int.one_mul]
  have : ((2 : Int) ^ i) = ((2 ^ i : Nat) : Int) := by norm_cast
  rw [this]
  exact u64_nat (Nat.pow_lt_pow_right (by omega) h)
theorem u64_or {a b : Nat} (ha : a < 2 ^ 64) (hb : b < 2 ^ 64) : IntKind.u64.wrap ((BitVec.ofInt 64 (a : Int) ||| BitVec.ofInt 64 (b : Int)).toNat : Int) = ((a ||| b : Nat) : Int) := by
  rw [BitVec.ofInt_natCast, BitVec.ofInt_natCast, BitVec.toNat_or, BitVec.toNat_ofNat, BitVec.toNat_ofNat, Nat.mod_eq_of_lt ha, Nat.mod_eq_of_lt hb]
  exact u64_nat (Nat.or_lt_two_pow ha hb)
theorem u64_and {a b : Nat} (ha : a < 2 ^ 64) (hb : b < 2 ^ 64) : IntKind.u64.wrap ((BitVec.ofInt 64 (a : Int) &&& BitVec.ofInt 64 (b : Int)).toNat : Int) = ((a &&& b : Nat) : Int) := by
  rw [BitVec.ofInt_natCast, BitVec.ofInt_natCast, BitVec.toNat_and, BitVec.toNat_ofNat, BitVec.toNat_ofNat, Nat.mod_eq_of_lt ha, Nat.mod_eq_of_lt hb]
  exact u64_nat (Nat.lt_of_le_of_lt Nat.and_le_left ha)
end Go.Proofs.YtmfgaefefgnhbaaGreatDoor.Abs
