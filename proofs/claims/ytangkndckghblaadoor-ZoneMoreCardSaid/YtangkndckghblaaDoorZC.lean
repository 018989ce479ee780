/- Small functions: what they compute. -/
import Derived.Test.YtangkndckghblaaDoorZE
import Derived.Test.YtangkndckghblaaDoorTd
import Derived.Test.YtangkndckghblaaDoorPlans
namespace Go.Proofs.YtangkndckghblaaDoor.Abs
set_option linter.unusedSimpArgs false
set_option linter.unusedVariables false
set_option maxRecDepth 100000
open Go Go.RowKit

attribute [go_sem] decide_true decide_false
/-- What is known of package-level variables: which bytes may stand in a name. -/
def classCells : List AV := [.raw (.int .u8 65), .raw (.int .u8 90), .raw (.bool true), .raw (.int .u8 97), .raw (.int .u8 122), .raw (.bool true), .raw (.int .u8 48), .raw (.int .u8 57), .raw (.bool false), .raw (.int .u8 95), .raw (.int .u8 95), .raw (.bool false)]
def GT0 : Globs := [(0, classCells)]
@[go_sem] theorem lookup_classes : lookupG GT0 0 = .cptr [.raw (.int .u8 65), .raw (.int .u8 90), .raw (.bool true), .raw (.int .u8 97), .raw (.int .u8 122), .raw (.bool true), .raw (.int .u8 48), .raw (.int .u8 57), .raw (.bool false), .raw (.int .u8 95), .raw (.int .u8 95), .raw (.bool false)] := rfl

theorem joins (k : Int) : Fn1 Tryd.prog GT0 69 [.raw (.int .i64 k)] (.raw (.bool (joinsK k))) [] := by
  refine holds_of Tryd.func69 rfl rfl ?_
  refine J_run 200 ?_
  delta Tryd.f69
  repeat' (first
    | (simp (maxSteps := 1000000) (disch := omega) only [go_sem])
    | ((with_reducible first | refine gDt ?_ ?_ | refine gDf ?_ ?_ | refine gNt ?_ ?_ | refine gNf ?_ ?_ | refine cD ?_ ?_ | refine cN ?_ ?_ | refine cB ?_ ?_ | refine gB ?_ ?_) <;> intro h)
    | with_reducible first | refine And.intro ?_ ?_ | refine J_seq ?_ | refine J_block ?_ | refine J_inBlock ?_ | refine rC ?_ | refine rR ?_ | refine rE ?_ | refine rG ?_ | refine FinQ.now ?_ | refine FinQ.end ?_)
  all_goals first | (simp_all [joinsK]; done) | (simp_all [joinsK]; omega) | omega
theorem gap (k : Int) : Fn1 Tryd.prog GT0 71 [.raw (.int .i64 k)] (.raw (.bool (gapK k))) [] := by
  refine holds_of Tryd.func71 rfl rfl ?_
  refine J_run 200 ?_
  delta Tryd.f71
  repeat' (first
    | (simp (maxSteps := 1000000) (disch := omega) only [go_sem])
    | ((with_reducible first | refine gDt ?_ ?_ | refine gDf ?_ ?_ | refine gNt ?_ ?_ | refine gNf ?_ ?_ | refine cD ?_ ?_ | refine cN ?_ ?_ | refine cB ?_ ?_ | refine gB ?_ ?_) <;> intro h)
    | with_reducible first | refine And.intro ?_ ?_ | refine J_seq ?_ | refine J_block ?_ | refine J_inBlock ?_ | refine rC ?_ | refine rR ?_ | refine rE ?_ | refine rG ?_ | refine FinQ.now ?_ | refine FinQ.end ?_)
  all_goals first | (simp_all [gapK]; done) | (simp_all [gapK]; omega) | omega
theorem company (k : Int) : Fn1 Tryd.prog GT0 78 [.raw (.int .i64 k)] (.raw (.bool (decide (0 ≤ k ∧ k ≤ 7)))) [] := by
  refine holds_of Tryd.func78 rfl rfl ?_
  refine J_run 200 ?_
  delta Tryd.f78
  repeat' (first
    | (simp (maxSteps := 1000000) (disch := omega) only [go_sem])
    | ((with_reducible first | refine gDt ?_ ?_ | refine gDf ?_ ?_ | refine gNt ?_ ?_ | refine gNf ?_ ?_ | refine cD ?_ ?_ | refine cN ?_ ?_ | refine cB ?_ ?_ | refine gB ?_ ?_) <;> intro h)
    | with_reducible first | refine And.intro ?_ ?_ | refine J_seq ?_ | refine J_block ?_ | refine J_inBlock ?_ | refine rC ?_ | refine rR ?_ | refine rE ?_ | refine rG ?_ | refine FinQ.now ?_ | refine FinQ.end ?_)
  all_goals first | (simp_all []; done) | (simp_all []; omega) | omega
def endsB (x : Dv) (nl : Int) : Bool := if x.a < 0 ∨ nl ≤ x.a then false else if joinsK x.kind = false then decide (x.b = -1) else decide (0 ≤ x.b ∧ x.b < nl ∧ x.b ≠ x.a)
theorem ends (x : Dv) (nl : Int) : Fn1 Tryd.prog GT0 79 [.agg (encDv x), .raw (.int .i64 nl)] (.raw (.bool (endsB x nl))) [] := by
  have cj := joins x.kind
  refine holds_of Tryd.func79 rfl rfl ?_
  refine J_run 200 ?_
  delta Tryd.f79
  simp only [encDv]
  repeat' (first
    | (simp (maxSteps := 1000000) (disch := omega) only [go_sem])
    | ((with_reducible refine CallA.pure cj ?_ ?_); (· simp only [go_sem]); rintro _ _ ⟨rfl, rfl⟩)
    | ((with_reducible first | refine gDt ?_ ?_ | refine gDf ?_ ?_ | refine gNt ?_ ?_ | refine gNf ?_ ?_ | refine cD ?_ ?_ | refine cN ?_ ?_ | refine cB ?_ ?_ | refine gB ?_ ?_) <;> intro h)
    | with_reducible first | refine And.intro ?_ ?_ | refine J_seq ?_ | refine J_block ?_ | refine J_inBlock ?_ | refine rC ?_ | refine rR ?_ | refine rE ?_ | refine rG ?_ | refine FinQ.now ?_ | refine FinQ.end ?_)
  all_goals first | (simp_all [endsB]; done) | (simp_all [endsB]; omega) | omega
/-- The other node of a device. -/
def acrossV (x : Dv) (v : Int) : Int := if joinsK x.kind = false then -1 else if x.a = v then x.b else if x.b = v then x.a else -1
theorem across (x : Dv) (v : Int) : Fn1 Tryd.prog GT0 82 [.agg (encDv x), .raw (.int .i64 v)] (.raw (.int .i64 (acrossV x v))) [] := by
  have cj := joins x.kind
  refine holds_of Tryd.func82 rfl rfl ?_
  refine J_run 200 ?_
  delta Tryd.f82
  simp only [encDv]
  repeat' (first
    | (simp (maxSteps := 1000000) (disch := omega) only [go_sem])
    | ((with_reducible refine CallA.pure cj ?_ ?_); (· simp only [go_sem]); rintro _ _ ⟨rfl, rfl⟩)
    | ((with_reducible first | refine gDt ?_ ?_ | refine gDf ?_ ?_ | refine gNt ?_ ?_ | refine gNf ?_ ?_ | refine cD ?_ ?_ | refine cN ?_ ?_ | refine cB ?_ ?_ | refine gB ?_ ?_) <;> intro h)
    | with_reducible first | refine And.intro ?_ ?_ | refine J_seq ?_ | refine J_block ?_ | refine J_inBlock ?_ | refine rC ?_ | refine rR ?_ | refine rE ?_ | refine rG ?_ | refine FinQ.now ?_ | refine FinQ.end ?_)
  all_goals first | (simp_all [acrossV]; done) | (simp_all [acrossV]; omega) | omega

/-- Whether a byte may stand in a name, or begin it. -/
def fitsB (b : Nat) (first : Bool) : Bool := isLetter b || (!first && (isDigit b || decide (b = 95)))
set_option maxHeartbeats 1000000 in
theorem fits (b : Nat) (hb : b < 256) (first : Bool) : Fn1 Tryd.prog GT0 86 [.raw (.int .u8 b), .raw (.bool first)] (.raw (.bool (fitsB b first))) [] := by
  refine holds_of Tryd.func86 rfl rfl ?_
  refine J_run 200 ?_
  delta Tryd.f86
  repeat' (first
    | (simp (maxSteps := 1000000) (disch := omega) only [go_sem])
    | ((with_reducible first | refine gDt ?_ ?_ | refine gDf ?_ ?_ | refine gNt ?_ ?_ | refine gNf ?_ ?_ | refine cD ?_ ?_ | refine cN ?_ ?_ | refine cB ?_ ?_ | refine gB ?_ ?_) <;> intro h)
    | with_reducible first | refine And.intro ?_ ?_ | refine J_seq ?_ | refine J_block ?_ | refine J_inBlock ?_ | refine rC ?_ | refine rR ?_ | refine rE ?_ | refine rG ?_ | refine FinQ.now ?_ | refine FinQ.end ?_)
  refine J_for ([6] ++ upto 9 27) (fun i : Nat => [(8, .raw (.int .i64 i))]) (fun _ => []) (fun i => i ≤ 4 ∧ (0 < i → ¬ (65 ≤ b ∧ b ≤ 90)) ∧ (1 < i → ¬ (97 ≤ b ∧ b ≤ 122)) ∧ (2 < i → ¬ (48 ≤ b ∧ b ≤ 57)) ∧ (3 < i → b ≠ 95)) (fun i => 4 - i) 0 (by omega) (.le (by simp [go_sem]) (by simp)) ?_
  rintro i ⟨hi, h0, h1, h2, h3⟩
  rcases i with _ | _ | _ | _ | _ | i
  all_goals (try (exfalso; omega))
  all_goals refine J_run 200 ?_
  · repeat' (first
      | (simp (maxSteps := 1000000) (disch := omega) only [go_sem])
      | ((with_reducible first | refine gDt ?_ ?_ | refine gDf ?_ ?_ | refine gNt ?_ ?_ | refine gNf ?_ ?_ | refine cD ?_ ?_ | refine cN ?_ ?_ | refine cB ?_ ?_ | refine gB ?_ ?_) <;> intro h)
      | with_reducible first | refine And.intro ?_ ?_ | refine J_seq ?_ | refine J_block ?_ | refine J_inBlock ?_ | refine rC ?_ | refine rR ?_ | refine rE ?_ | refine rG ?_ | refine FinQ.now ?_ | refine FinQ.end ?_)
    all_goals first | exact .mk 1 (by omega) (by omega) (by simp [go_sem]) (by simp) | (simp_all [fitsB, isLetter]; done) | (simp_all [fitsB, isLetter]; omega) | trace_state
  · repeat' (first
      | (simp (maxSteps := 1000000) (disch := omega) only [go_sem])
      | ((with_reducible first | refine gDt ?_ ?_ | refine gDf ?_ ?_ | refine gNt ?_ ?_ | refine gNf ?_ ?_ | refine cD ?_ ?_ | refine cN ?_ ?_ | refine cB ?_ ?_ | refine gB ?_ ?_) <;> intro h)
      | with_reducible first | refine And.intro ?_ ?_ | refine J_seq ?_ | refine J_block ?_ | refine J_inBlock ?_ | refine rC ?_ | refine rR ?_ | refine rE ?_ | refine rG ?_ | refine FinQ.now ?_ | refine FinQ.end ?_)
    all_goals first | exact .mk 2 (by omega) (by omega) (by simp [go_sem]) (by simp) | (simp_all [fitsB, isLetter]; done) | (simp_all [fitsB, isLetter]; omega) | trace_state
  · repeat' (first
      | (simp (maxSteps := 1000000) (disch := omega) only [go_sem])
      | ((with_reducible first | refine gDt ?_ ?_ | refine gDf ?_ ?_ | refine gNt ?_ ?_ | refine gNf ?_ ?_ | refine cD ?_ ?_ | refine cN ?_ ?_ | refine cB ?_ ?_ | refine gB ?_ ?_) <;> intro h)
      | with_reducible first | refine And.intro ?_ ?_ | refine J_seq ?_ | refine J_block ?_ | refine J_inBlock ?_ | refine rC ?_ | refine rR ?_ | refine rE ?_ | refine rG ?_ | refine FinQ.now ?_ | refine FinQ.end ?_)
    all_goals first | exact .mk 3 (by omega) (by omega) (by simp [go_sem]) (by simp) | (cases first <;> simp [fitsB, isLetter, isDigit] <;> omega) | (simp_all [fitsB, isLetter, isDigit]; done) | (simp_all [fitsB, isLetter, isDigit]; omega) | trace_state
  · repeat' (first
      | (simp (maxSteps := 1000000) (disch := omega) only [go_sem])
      | ((with_reducible first | refine gDt ?_ ?_ | refine gDf ?_ ?_ | refine gNt ?_ ?_ | refine gNf ?_ ?_ | refine cD ?_ ?_ | refine cN ?_ ?_ | refine cB ?_ ?_ | refine gB ?_ ?_) <;> intro h)
      | with_reducible first | refine And.intro ?_ ?_ | refine J_seq ?_ | refine J_block ?_ | refine J_inBlock ?_ | refine rC ?_ | refine rR ?_ | refine rE ?_ | refine rG ?_ | refine FinQ.now ?_ | refine FinQ.end ?_)
    all_goals first | exact .mk 4 (by omega) (by omega) (by simp [go_sem]) (by simp) | (cases first <;> simp [fitsB, isLetter, isDigit] <;> omega) | (simp_all [fitsB, isLetter, isDigit]; done) | (simp_all [fitsB, isLetter, isDigit]; omega) | trace_state
  · repeat' (first
      | (simp (maxSteps := 1000000) (disch := omega) only [go_sem])
      | ((with_reducible first | refine gDt ?_ ?_ | refine gDf ?_ ?_ | refine gNt ?_ ?_ | refine gNf ?_ ?_ | refine cD ?_ ?_ | refine cN ?_ ?_ | refine cB ?_ ?_ | refine gB ?_ ?_) <;> intro h)
      | with_reducible first | refine And.intro ?_ ?_ | refine J_seq ?_ | refine J_block ?_ | refine J_inBlock ?_ | refine rC ?_ | refine rR ?_ | refine rE ?_ | refine rG ?_ | refine FinQ.now ?_ | refine FinQ.end ?_)
    all_goals first | (cases first <;> simp [fitsB, isLetter, isDigit] <;> omega) | (simp_all [fitsB, isLetter, isDigit]; done) | (simp_all [fitsB, isLetter, isDigit]; omega) | trace_state

/-- Where the first element is that fits. -/
def firstAt {α : Type} (p : α → Bool) : List α → Int
  | [] => -1
  | x :: xs => if p x then 0 else (if firstAt p xs < 0 then -1 else firstAt p xs + 1)
theorem firstAt_none {α : Type} {p : α → Bool} : ∀ {l : List α}, (∀ x, x ∈ l → p x = false) → firstAt p l = -1
  | [], _ => rfl
  | x :: l, h => by simp [firstAt, h x List.mem_cons_self, firstAt_none fun y hy => h y (List.mem_cons_of_mem _ hy)]
theorem firstAt_some {α : Type} {p : α → Bool} : ∀ {l : List α} {i : Nat} (hi : i < l.length), p l[i] = true → (∀ j (hj : j < i), p (l[j]'(by omega)) = false) → firstAt p l = i
  | x :: l, 0, _, h, _ => by simp at h; simp [firstAt, h]
  | x :: l, i + 1, hi, h, hpre => by
    have h0 := hpre 0 (by omega)
    simp at h0
    have := firstAt_some (l := l) (i := i) (by simpa using hi) (by simpa using h) (fun j hj => by simpa using hpre (j + 1) (by omega))
    simp only [firstAt, h0, this]
    simp; omega
theorem firstAt_lo {α : Type} {p : α → Bool} : ∀ l : List α, -1 ≤ firstAt p l
  | [] => by simp [firstAt]
  | x :: l => by
    have := firstAt_lo (p := p) l
    simp only [firstAt]
    split
    · omega
    · split <;> omega
theorem firstAt_ge' {α : Type} {p : α → Bool} : ∀ l : List α, 0 ≤ firstAt p l ↔ l.any p = true
  | [] => by simp [firstAt]
  | x :: l => by
    have := firstAt_ge' (p := p) l
    rw [List.any_cons, Bool.or_eq_true, ← this]
    have e : firstAt p (x :: l) = if p x then 0 else (if firstAt p l < 0 then -1 else firstAt p l + 1) := rfl
    rw [e]
    split
    · rename_i h; simp [h]
    · rename_i h
      split
      · simp [h]; omega
      · simp [h]; omega
theorem firstAt_ge {α : Type} {p : α → Bool} (l : List α) : decide (0 ≤ firstAt p l) = l.any p := by
  rw [Bool.eq_iff_iff, decide_eq_true_eq]; exact firstAt_ge' l

theorem getD_N {l : List Int} {i : Nat} (h : i < l.length) : (l.map encN).getD i [] = [.raw (.int .i64 l[i])] := by rw [getD_map h]; rfl
theorem index (l : List Int) (x : Int) (hl : l.length ≤ 9223372036854775807) : Fn1 Tryd.prog GT0 80 [.lst 1 (l.map encN), .raw (.int .i64 x)] (.raw (.int .i64 (firstAt (fun y => decide (y = x)) l))) [] := by
  refine holds_of Tryd.func80 rfl rfl ?_
  refine J_run 200 ?_
  delta Tryd.f80
  repeat' (first
    | (simp (maxSteps := 1000000) (disch := omega) only [go_sem])
    | ((with_reducible first | refine gDt ?_ ?_ | refine gDf ?_ ?_ | refine gNt ?_ ?_ | refine gNf ?_ ?_ | refine cD ?_ ?_ | refine cN ?_ ?_ | refine cB ?_ ?_ | refine gB ?_ ?_) <;> intro h)
    | with_reducible first | refine And.intro ?_ ?_ | refine J_seq ?_ | refine J_block ?_ | refine J_inBlock ?_ | refine rC ?_ | refine rR ?_ | refine rE ?_ | refine rG ?_ | refine FinQ.now ?_ | refine FinQ.end ?_)
  refine J_for ([5] ++ upto 9 18) (fun i : Nat => [(8, .raw (.int .i64 i))]) (fun _ => []) (fun i => i ≤ l.length ∧ ∀ j (hj : j < i) (h : j < l.length), l[j] ≠ x) (fun i => l.length - i) 0 ⟨by omega, by omega⟩ (.le (by simp [go_sem]) (by simp)) ?_
  rintro i ⟨hi, hpre⟩
  by_cases hlt : i < l.length
  · refine J_run 200 ?_
    repeat' (first
      | (simp (maxSteps := 1000000) (disch := omega) only [go_sem, getD_N])
      | ((with_reducible first | refine gDt ?_ ?_ | refine gDf ?_ ?_ | refine gNt ?_ ?_ | refine gNf ?_ ?_ | refine cD ?_ ?_ | refine cN ?_ ?_ | refine cB ?_ ?_ | refine gB ?_ ?_) <;> intro h)
      | with_reducible first | refine And.intro ?_ ?_ | refine J_seq ?_ | refine J_block ?_ | refine J_inBlock ?_ | refine rC ?_ | refine rR ?_ | refine rE ?_ | refine rG ?_ | refine FinQ.now ?_ | refine FinQ.end ?_)
    · rw [firstAt_some hlt (by simp [h]) fun j hj => by simpa using hpre j hj (by omega)]
    · exact .mk (i + 1) ⟨hlt, fun j hj hx => by
        rcases Nat.lt_succ_iff_lt_or_eq.1 hj with h1 | rfl
        · exact hpre j h1 hx
        · exact fun e => h e.symm⟩ (by omega) (by simp [go_sem]) (by simp)
  · refine J_run 200 ?_
    repeat' (first
      | (simp (maxSteps := 1000000) (disch := omega) only [go_sem])
      | ((with_reducible first | refine gDt ?_ ?_ | refine gDf ?_ ?_ | refine gNt ?_ ?_ | refine gNf ?_ ?_ | refine cD ?_ ?_ | refine cN ?_ ?_ | refine cB ?_ ?_ | refine gB ?_ ?_) <;> intro h)
      | with_reducible first | refine And.intro ?_ ?_ | refine J_seq ?_ | refine J_block ?_ | refine J_inBlock ?_ | refine rC ?_ | refine rR ?_ | refine rE ?_ | refine rG ?_ | refine FinQ.now ?_ | refine FinQ.end ?_)
    rw [firstAt_none fun y hy => ?_]
    obtain ⟨j, hj, rfl⟩ := List.mem_iff_getElem.1 hy
    simpa using hpre j (by omega) hj
theorem contains (l : List Int) (x : Int) (hl : l.length ≤ 9223372036854775807) : Fn1 Tryd.prog GT0 66 [.lst 1 (l.map encN), .raw (.int .i64 x)] (.raw (.bool (decide (x ∈ l)))) [] := by
  have c := index l x hl
  refine holds_of Tryd.func66 rfl rfl ?_
  refine J_run 200 ?_
  delta Tryd.f66
  repeat' (first
    | (simp (maxSteps := 1000000) (disch := omega) only [go_sem])
    | ((with_reducible refine CallA.pure c ?_ ?_); (· simp only [go_sem]); rintro _ _ ⟨rfl, rfl⟩)
    | ((with_reducible first | refine gDt ?_ ?_ | refine gDf ?_ ?_ | refine gNt ?_ ?_ | refine gNf ?_ ?_ | refine cD ?_ ?_ | refine cN ?_ ?_ | refine cB ?_ ?_ | refine gB ?_ ?_) <;> intro h)
    | with_reducible first | refine And.intro ?_ ?_ | refine J_seq ?_ | refine J_block ?_ | refine J_inBlock ?_ | refine rC ?_ | refine rR ?_ | refine rE ?_ | refine rG ?_ | refine FinQ.now ?_ | refine FinQ.end ?_)
  rw [firstAt_ge]
  rw [Bool.eq_iff_iff]
  simp
end Go.Proofs.YtangkndckghblaaDoor.Abs
