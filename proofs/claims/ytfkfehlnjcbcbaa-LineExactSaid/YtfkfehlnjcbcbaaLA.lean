import Derived.Test.YtfkfehlnjcbcbaaTd
import Derived.Test.YtfkfehlnjcbcbaaPlans
namespace Go.Proofs.Ytfkfehlnjcbcbaa.Abs
set_option linter.unusedSimpArgs false
set_option linter.unusedVariables false
open Go Go.RowKit

theorem clone23 (xs : List (List AV)) (hl : xs.length ≤ 1000000) : Fn1 Try.prog [] 23 [.lst 1 xs] (.own 0 1 0 xs.length) [.arr 1 xs] := by
  refine holds_of Try.func23 rfl rfl ?_
  refine J_run 100 ?_
  delta Try.f23
  simp (disch := omega) only [go_sem]
  intro b hb
  refine condW_by (fun ht => ?_) (fun ht => ?_)
  · obtain rfl := hb ht
    simp (disch := omega) only [go_sem]
    refine .nilName 2 1 rfl (.now ?_)
    simp only [go_sem]
  · simp (disch := omega) only [go_sem]
    refine .now ?_
    simp only [go_sem]
theorem clone25 (xs : List (List AV)) (hl : xs.length ≤ 1000000) : Fn1 Try.prog [] 25 [.lst 3 xs] (.own 0 3 0 xs.length) [.arr 3 xs] := by
  refine holds_of Try.func25 rfl rfl ?_
  refine J_run 100 ?_
  delta Try.f25
  simp (disch := omega) only [go_sem]
  intro b hb
  refine condW_by (fun ht => ?_) (fun ht => ?_)
  · obtain rfl := hb ht
    simp (disch := omega) only [go_sem]
    refine .nilName 2 3 rfl (.now ?_)
    simp only [go_sem]
  · simp (disch := omega) only [go_sem]
    refine .now ?_
    simp only [go_sem]

theorem delete37 (xs : List (List AV)) (i : Nat) (_hk : ∀ x, x ∈ xs → x.length = 3) (hi : i < xs.length) (hl : xs.length ≤ 1000000) :
    Holds Try.prog [] 37 [.own 0 3 0 xs.length, .raw (.int .i64 i), .raw (.int .i64 (i + 1))] [.arr 3 xs] (Ret (.own 1 3 0 (xs.length - 1)) [.dead, .arr 3 (xs.take i ++ xs.drop (i + 1))]) := by
  refine holds_of Try.func37 rfl rfl ?_
  refine J_run 100 ?_
  delta Try.f37
  simp (disch := omega) only [go_sem]
  refine J_draw 100 [] plan37_5 (by kernel_rfl) (by kernel_rfl) ?_
  delta plan37_5
  simp (disch := omega) only [go_sem]
  have e1 : i + (xs.length - (i + 1)) = xs.length - 1 := by omega
  rw [e1]
  have e2 : List.take (xs.length - (i + 1)) (List.drop (i + 1) xs) = List.drop (i + 1) xs := List.take_of_length_le (by simp)
  rw [e2]
  generalize hA : (List.take (xs.length - 1) (List.take i xs ++ List.drop (i + 1) xs ++ List.drop (xs.length - 1) xs) ++ _ ++ _) = A
  have hA' : A.take (xs.length - 1) = List.take i xs ++ List.drop (i + 1) xs := by
    have h1 : (List.take i xs ++ List.drop (i + 1) xs).length = xs.length - 1 := by simp; omega
    subst hA
    rw [List.append_assoc, List.append_assoc, ← List.append_assoc (List.take i xs), List.take_left' h1, List.take_left' h1]
  have hAl : xs.length - 1 ≤ A.length := by
    have := congrArg List.length hA'
    simp at this
    omega
  clear hA
  refine FinQ.le (SemLe.move _ _ (id := 0) (by simp)) ?_
  simp only [go_sem]
  refine FinQ.le (SemLe.cutAt (t := 6) (id := 1) (el := 3) (lo := 0) (n := xs.length - 1) (xs := A) (by simp) rfl rfl (by omega)) (.now ?_)
  simp only [go_sem]
  rw [hA']

/-- Where the first element is that fits. -/
def firstAt {α : Type} (p : α → Bool) : List α → Int
  | [] => -1
  | x :: xs => if p x then 0 else (if firstAt p xs < 0 then -1 else firstAt p xs + 1)
theorem firstAt_none {α : Type} {p : α → Bool} : ∀ {l : List α}, (∀ x, x ∈ l → p x = false) → firstAt p l = -1
  | [], _ => rfl
  | x :: l, h => by simp [firstAt, h x List.mem_cons_self, firstAt_none fun y hy => h y (List.mem_cons_of_mem _ hy)]
theorem firstAt_some {α : Type} {p : α → Bool} : ∀ {l : List α} {i : Nat} (hi : i < l.length), p l[i] = true → (∀ j (hj : j < i), p (l[j]'(by omega)) = false) → firstAt p l = i
  | x :: l, 0, _, h, _ => by simp at h; simp [firstAt, h]
  | x :: l, i + 1, hi, h, hpre => by
    have h0 := hpre 0 (by omega)
    simp at h0
    have := firstAt_some (l := l) (i := i) (by simpa using hi) (by simpa using h) (fun j hj => by simpa using hpre (j + 1) (by omega))
    simp only [firstAt, h0, this]
    simp; omega
theorem firstAt_lo {α : Type} {p : α → Bool} : ∀ l : List α, -1 ≤ firstAt p l
  | [] => by simp [firstAt]
  | x :: l => by
    have := firstAt_lo (p := p) l
    simp only [firstAt]
    split
    · omega
    · split <;> omega
theorem firstAt_ge' {α : Type} {p : α → Bool} : ∀ l : List α, 0 ≤ firstAt p l ↔ l.any p = true
  | [] => by simp [firstAt]
  | x :: l => by
    have := firstAt_ge' (p := p) l
    rw [List.any_cons, Bool.or_eq_true, ← this]
    have e : firstAt p (x :: l) = if p x then 0 else (if firstAt p l < 0 then -1 else firstAt p l + 1) := rfl
    rw [e]
    split
    · rename_i h; simp [h]
    · rename_i h
      split
      · simp [h]; omega
      · simp [h]; omega
theorem firstAt_ge {α : Type} {p : α → Bool} (l : List α) : decide (0 ≤ firstAt p l) = l.any p := by
  rw [Bool.eq_iff_iff, decide_eq_true_eq]; exact firstAt_ge' l

theorem indexFunc46 {α : Type} (enc : α → List AV) (ys : List α) (fn : FuncId) (cap : List AV) (hcap : AV.immL cap = true) (himm : ∀ y, AV.immL (enc y) = true) (hk : ∀ y, (enc y).length = 3) (pr : α → Bool)
   (hp : ∀ y, y ∈ ys → Fn1 Try.prog [] fn (.agg (enc y) :: cap) (.raw (.bool (pr y))) []) :
   Fn1 Try.prog [] 46 [.lst 3 (ys.map enc), .clo (.func fn) [] cap] (.raw (.int .i64 (firstAt pr ys))) [] := by
  refine holds_bnd (enters_of Try.func46 rfl rfl) fun hb _ => ?_
  have hlen : ys.length ≤ 9223372036854775807 := by
    have := (hb _ (List.mem_cons_self ..)).len
    simpa [maxLen] using this
  clear hb
  have hcapk := fun s => AV.keepsL_imm s cap hcap
  refine holds_of Try.func46 rfl rfl ?_
  refine J_run 100 ?_
  delta Try.f46
  simp (disch := omega) only [go_sem]
  refine J_for (5 :: upto 9 18) (fun i : Nat => [(8, .raw (.int .i64 i))]) (fun _ => []) (fun i => i ≤ ys.length ∧ ∀ j (hj : j < i) (hx : j < ys.length), pr ys[j] = false) (fun i => ys.length - i) 0 ⟨by omega, by omega⟩ (.le (by simp [go_sem, hcapk]) (by simp)) ?_
  rintro i ⟨hi, hpre⟩
  by_cases hlt : i < ys.length
  · have hpx := hp _ (List.getElem_mem hlt)
    refine J_run 100 ?_
    simp (disch := omega) only [go_sem, getD_map, hk, List.take_of_length_le (Nat.le_of_eq (hk _))]
    refine CallA.pure hpx (by simp [go_sem, himm, hcap]) ?_
    rintro _ _ ⟨rfl, rfl⟩
    simp (disch := omega) only [go_sem]
    refine condW_by (fun ht => ?_) (fun ht => ?_)
    · simp (disch := omega) only [go_sem]
      refine .now ?_
      simp only [go_sem]
      rw [firstAt_some hlt ht fun j hj => hpre j hj (by omega)]
    · simp (disch := omega) only [go_sem]
      refine .mk (i + 1) ⟨hlt, fun j hj hx => ?_⟩ (by omega) (by simp [go_sem, hcapk]) (by simp)
      rcases Nat.lt_succ_iff_lt_or_eq.1 hj with h | rfl
      · exact hpre j h hx
      · exact ht
  · refine J_run 100 ?_
    simp (disch := omega) only [go_sem]
    refine J_run 100 ?_
    simp (disch := omega) only [go_sem]
    refine .now ?_
    simp only [go_sem]
    rw [firstAt_none fun y hy => ?_]
    obtain ⟨j, hj, rfl⟩ := List.getElem_of_mem hy
    exact hpre j (by omega) hj

theorem containsFunc41 {α : Type} (enc : α → List AV) (ys : List α) (fn : FuncId) (cap : List AV) (hcap : AV.immL cap = true) (himm : ∀ y, AV.immL (enc y) = true) (hk : ∀ y, (enc y).length = 3) (pr : α → Bool)
   (hp : ∀ y, y ∈ ys → Fn1 Try.prog [] fn (.agg (enc y) :: cap) (.raw (.bool (pr y))) []) :
   Fn1 Try.prog [] 41 [.lst 3 (ys.map enc), .clo (.func fn) [] cap] (.raw (.bool (ys.any pr))) [] := by
  refine holds_of Try.func41 rfl rfl ?_
  refine J_run 100 ?_
  delta Try.f41
  simp (disch := omega) only [go_sem]
  refine CallA.pure (indexFunc46 enc ys fn cap hcap himm hk pr hp) (by simp [go_sem, hcap]) ?_
  rintro _ _ ⟨rfl, rfl⟩
  simp (disch := omega) only [go_sem]
  refine .now ?_
  simp only [go_sem, firstAt_ge]
end Go.Proofs.Ytfkfehlnjcbcbaa.Abs
