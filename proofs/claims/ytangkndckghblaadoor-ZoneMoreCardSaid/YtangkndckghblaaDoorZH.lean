/- Sets of numbers, zones, names that the statements make. -/
import Derived.Test.YtangkndckghblaaDoorZG
namespace Go.Proofs.YtangkndckghblaaDoor.Abs
set_option linter.unusedSimpArgs false
set_option linter.unusedVariables false
set_option maxRecDepth 100000
open Go Go.RowKit

theorem risingFrom_pair {u : Int} : ∀ {l : List Int} {last : Int}, risingFrom u last l = true ↔ (last :: l).Pairwise (· < ·) ∧ ∀ x, x ∈ l → x < u
  | [], _ => by simp [risingFrom]
  | y :: l, last => by
    simp only [risingFrom, Bool.and_eq_true, decide_eq_true_eq, risingFrom_pair (l := l)]
    rw [List.pairwise_cons (a := last)]
    constructor
    · rintro ⟨⟨h1, h2⟩, h3, h4⟩
      refine ⟨⟨fun x hx => ?_, h3⟩, fun x hx => ?_⟩
      · rcases List.mem_cons.1 hx with rfl | hx
        · exact h1
        · have := (List.pairwise_cons.1 h3).1 x hx; omega
      · rcases List.mem_cons.1 hx with rfl | hx
        · exact h2
        · exact h4 x hx
    · rintro ⟨⟨h1, h2⟩, h3⟩
      exact ⟨⟨h1 y (List.mem_cons_self ..), h3 y (List.mem_cons_self ..)⟩, h2, fun x hx => h3 x (List.mem_cons_of_mem _ hx)⟩
theorem rising_pair {u : Int} {l : List Int} : rising l u = true ↔ l.Pairwise (· < ·) ∧ ∀ x, x ∈ l → 0 ≤ x ∧ x < u := by
  rw [rising, risingFrom_pair, List.pairwise_cons]
  constructor
  · rintro ⟨⟨h1, h2⟩, h3⟩
    exact ⟨h2, fun x hx => ⟨by have := h1 x hx; omega, h3 x hx⟩⟩
  · rintro ⟨h1, h2⟩
    exact ⟨⟨fun x hx => by have := h2 x hx; omega, h1⟩, fun x hx => (h2 x hx).2⟩
theorem rising_mono {u v : Int} {l : List Int} (h : rising l u = true) (huv : u ≤ v) : rising l v = true := by
  rw [rising_pair] at h ⊢
  exact ⟨h.1, fun x hx => by have := h.2 x hx; omega⟩
theorem rising_snoc {u v : Int} {l : List Int} (h : rising l u = true) (h0 : 0 ≤ u) (huv : u < v) : rising (l ++ [u]) v = true := by
  rw [rising_pair] at h ⊢
  refine ⟨List.pairwise_append.2 ⟨h.1, List.pairwise_singleton _ _, fun x hx y hy => ?_⟩, fun x hx => ?_⟩
  · rw [List.mem_singleton] at hy; subst hy; exact (h.2 x hx).2
  · rcases List.mem_append.1 hx with hx | hx
    · have := h.2 x hx; omega
    · rw [List.mem_singleton] at hx; subst hx; omega
theorem risingFrom_len {u : Int} : ∀ {l : List Int} {last : Int}, last < u → risingFrom u last l = true → (l.length : Int) ≤ u - 1 - last
  | [], _, h0, _ => by simp; omega
  | x :: l, last, _, h => by
    simp only [risingFrom, Bool.and_eq_true, decide_eq_true_eq] at h
    have := risingFrom_len h.1.2 h.2
    simp; omega
theorem rising_len {u : Int} (hu : 0 ≤ u) {l : List Int} (h : rising l u = true) : (l.length : Int) ≤ u := by
  have := risingFrom_len (by omega) h
  omega

/-- A set of numbers below a bound that was drawn. -/
def DrawnSet (below : Int) (r : AV) (os : List Obj) : Prop := ∃ (l : List Int) (d : Dk), d.ok ∧ rising l (if below < 0 then 0 else below) = true ∧ r = .own 1 1 0 l.length ∧ os = [.box (encDk d), .arr 1 (l.map encN)]
set_option maxHeartbeats 1000000 in
theorem setD (d : Dk) (hd : d.ok) (below most : Int) (hb : below ≤ 1000000) : Holds Tryd.prog GT0 43 [.ref 0 0, .raw (.int .i64 below), .raw (.int .i64 most)] [.box (encDk d)] (DrawnSet below) := by
  refine holds_of Tryd.func43 rfl rfl ?_
  refine J_run 200 ?_
  delta Tryd.f43
  simp (maxSteps := 1000000) (disch := omega) only [go_sem]
  refine J_nilName 7 1 (by simp only [go_sem]) ?_
  simp only [go_sem, St.nilName]
  refine J_for (upto 9 26) (fun x : Nat × List Int × Dk => [(8, .raw (.int .i64 x.1)), (7, .own 1 1 0 x.2.1.length)]) (fun x => [.box (encDk x.2.2), .arr 1 (x.2.1.map encN)]) (fun x => (x.1 : Int) ≤ (if below < 0 then 0 else below) ∧ x.2.2.ok ∧ rising x.2.1 x.1 = true ∧ x.2.1.length ≤ x.1) (fun x => below.toNat - x.1) (0, [], d) ⟨by simp only; split <;> simp <;> omega, hd, rfl, by simp⟩ (.le (by simp [go_sem]) (by simp)) ?_
  rintro ⟨i, out, d⟩ ⟨hi, hd, hr, hlen⟩
  simp only at hi hd hr hlen
  have c := one d hd 3 (by decide)
  by_cases hlt : (i : Int) < below
  · rw [if_neg (by omega)] at hi
    refine J_run 200 ?_
    repeat' (first
      | (simp (maxSteps := 1000000) (disch := omega) only [go_sem])
      | ((with_reducible refine CallA.mut [0] ?_ ?_ ?_ ?_ c ?_); (· simp only [go_sem]); (· simp only [go_sem]); (· simp only [go_sem]); (· simp only [go_sem]); rintro _ _ ⟨b, d', hd', rfl, rfl⟩)
      | ((with_reducible first | refine gDt ?_ ?_ | refine gDf ?_ ?_ | refine gNt ?_ ?_ | refine gNf ?_ ?_ | refine cD ?_ ?_ | refine cN ?_ ?_ | refine cB ?_ ?_ | refine gB ?_ ?_) <;> intro h)
      | with_reducible first | refine And.intro ?_ ?_ | refine J_seq ?_ | refine J_block ?_ | refine J_inBlock ?_ | refine rC ?_ | refine rR ?_ | refine rE ?_ | refine rG ?_ | refine FinQ.now ?_ | refine FinQ.end ?_)
    · exact .mk (i + 1, out ++ [(i : Int)], d') ⟨by simp only; rw [if_neg (by omega)]; omega, hd', by have := rising_snoc hr (by omega) (show (i : Int) < ((i + 1 : Nat) : Int) by omega); simpa using this, by simp; omega⟩ (by simp only; omega) (by simp [go_sem, encN]) (by simp)
    · exact .mk (i + 1, out, d') ⟨by simp only; rw [if_neg (by omega)]; omega, hd', rising_mono hr (by simp only; omega), by simp only; omega⟩ (by simp only; omega) (by simp [go_sem]) (by simp)
    · exact ⟨out, d, hd, rising_mono hr (by split <;> omega), rfl, rfl⟩
  · refine J_run 200 ?_
    repeat' (first
      | (simp (maxSteps := 1000000) (disch := omega) only [go_sem])
      | ((with_reducible first | refine gDt ?_ ?_ | refine gDf ?_ ?_ | refine gNt ?_ ?_ | refine gNf ?_ ?_ | refine cD ?_ ?_ | refine cN ?_ ?_ | refine cB ?_ ?_ | refine gB ?_ ?_) <;> intro h)
      | with_reducible first | refine And.intro ?_ ?_ | refine J_seq ?_ | refine J_block ?_ | refine J_inBlock ?_ | refine rC ?_ | refine rR ?_ | refine rE ?_ | refine rG ?_ | refine FinQ.now ?_ | refine FinQ.end ?_)
    exact ⟨out, d, hd, rising_mono hr (by split <;> omega), rfl, rfl⟩

/-- A zone that was drawn. -/
def DrawnZone (nl : Nat) (r : AV) (os : List Obj) : Prop := ∃ (z : List Int) (d : Dk), d.ok ∧ z ≠ [] ∧ rising z nl = true ∧ r = .lst 1 (z.map encN) ∧ os = [.box (encDk d)]
set_option maxHeartbeats 1000000 in
theorem zoneD (d : Dk) (hd : d.ok) (n : Net) (h1 : 1 ≤ n.nodes.length) (h32 : n.nodes.length ≤ 32) : Holds Tryd.prog GT0 13 [.ref 0 0, .agg (encNet n)] [.box (encDk d)] (DrawnZone n.nodes.length) := by
  have c := setD d hd n.nodes.length 2 (by omega)
  refine holds_of Tryd.func13 rfl rfl ?_
  refine J_run 200 ?_
  delta Tryd.f13
  simp only [encNet]
  repeat' (first
    | (exfalso; omega)
    | (simp (maxSteps := 1000000) (disch := omega) only [go_sem])
    | ((with_reducible refine CallA.mut [0] ?_ ?_ ?_ ?_ c ?_); (· simp only [go_sem]); (· simp only [go_sem]); (· simp only [go_sem]); (· simp only [go_sem]); rintro _ _ ⟨z, d', hd', hz, rfl, rfl⟩)
    | ((with_reducible first | refine gDt ?_ ?_ | refine gDf ?_ ?_ | refine gNt ?_ ?_ | refine gNf ?_ ?_ | refine cD ?_ ?_ | refine cN ?_ ?_ | refine cB ?_ ?_ | refine gB ?_ ?_) <;> intro h)
    | with_reducible first | refine And.intro ?_ ?_ | refine J_seq ?_ | refine J_block ?_ | refine J_inBlock ?_ | refine rC ?_ | refine rR ?_ | refine rE ?_ | refine rG ?_)
  all_goals rw [if_neg (by omega)] at hz
  · have hz0 : z = [] := List.length_eq_zero_iff.1 (by omega)
    have c2 := next d' hd' n.nodes.length ⟨by omega, by omega⟩
    repeat' (first
      | (simp (maxSteps := 1000000) (disch := omega) only [go_sem])
      | ((with_reducible refine CallA.mut [0] ?_ ?_ ?_ ?_ c2 ?_); (· simp only [go_sem]); (· simp only [go_sem]); (· simp only [go_sem]); (· simp only [go_sem]); rintro _ _ ⟨x, d2, hd2, h0, hx, rfl, rfl⟩)
      | ((with_reducible first | refine gDt ?_ ?_ | refine gDf ?_ ?_ | refine gNt ?_ ?_ | refine gNf ?_ ?_ | refine cD ?_ ?_ | refine cN ?_ ?_ | refine cB ?_ ?_ | refine gB ?_ ?_) <;> intro h)
      | with_reducible first | refine And.intro ?_ ?_ | refine J_seq ?_ | refine J_block ?_ | refine J_inBlock ?_ | refine rC ?_ | refine rR ?_ | refine rE ?_ | refine rG ?_)
    refine .frz [3] (.now ?_)
    simp (maxSteps := 1000000) (disch := omega) only [go_sem]
    exact ⟨[x], d2, hd2, by simp, by simp [rising, risingFrom]; omega, by simp [encN], rfl⟩
  · refine .frz [2] (.now ?_)
    simp (maxSteps := 1000000) (disch := omega) only [go_sem]
    exact ⟨z, d', hd', fun e => by subst e; simp at h, hz, by simp [List.take_of_length_le], rfl⟩
theorem name_nm (c k : Nat) (hk : k < 100) : Fn1 Tryd.prog GT0 41 [.raw (.string ⟨#[c.toUInt8]⟩), .raw (.int .i64 k)] (.raw (.string (nmS c k))) [] := by
  have h1 : (k : Int).tdiv 10 = ((k / 10 : Nat) : Int) := by rw [Int.tdiv_eq_ediv_of_nonneg (by omega)]; omega
  have h2 : (k : Int).tmod 10 = ((k % 10 : Nat) : Int) := by rw [Int.tmod_eq_emod_of_nonneg (by omega)]; omega
  have h3 : IntKind.u8.wrap (48 + ((k / 10 : Nat) : Int)) = ((48 + k / 10 : Nat) : Int) := by
    simp [IntKind.wrap, IntKind.bits, IntKind.signed]; omega
  have h4 : IntKind.u8.wrap (48 + ((k % 10 : Nat) : Int)) = ((48 + k % 10 : Nat) : Int) := by
    simp [IntKind.wrap, IntKind.bits, IntKind.signed]; omega
  refine holds_of Tryd.func41 rfl rfl ?_
  refine J_run 200 ?_
  delta Tryd.f41
  repeat' (first
    | (simp (maxSteps := 1000000) (disch := omega) only [go_sem])
    | ((with_reducible first | refine gDt ?_ ?_ | refine gDf ?_ ?_ | refine gNt ?_ ?_ | refine gNf ?_ ?_ | refine cD ?_ ?_ | refine cN ?_ ?_ | refine cB ?_ ?_ | refine gB ?_ ?_) <;> intro h)
    | with_reducible first | refine And.intro ?_ ?_ | refine J_seq ?_ | refine J_block ?_ | refine J_inBlock ?_ | refine rC ?_ | refine rR ?_ | refine rE ?_ | refine rG ?_ | refine FinQ.now ?_ | refine FinQ.end ?_)
  all_goals (try rw [h1, h2])
  all_goals (try rw [wrap_in (x := ((k / 10 : Nat) : Int)) (by omega) (by omega)])
  all_goals (try rw [wrap_in (x := 48 + ((k / 10 : Nat) : Int)) (by omega) (by omega)])
  all_goals (try rw [wrap_in (x := 48 + ((k % 10 : Nat) : Int)) (by omega) (by omega)])
  all_goals rw [h3, h4]
  · simp [strOfNums, ByteArray.size]
  · apply ByteArray.ext
    have e1 : ((48 : Int) + (k : Int) / 10).toNat = 48 + k / 10 := by omega
    have e2 : ((48 : Int) + (k : Int) % 10).toNat = 48 + k % 10 := by omega
    simp [strOfNums, nmS, e1, e2, UInt8.ofNat_add]
end Go.Proofs.YtangkndckghblaaDoor.Abs
