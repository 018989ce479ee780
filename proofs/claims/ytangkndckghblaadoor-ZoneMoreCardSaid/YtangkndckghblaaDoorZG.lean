/- Decks: what the functions compute. -/
import Derived.Test.YtangkndckghblaaDoorZF
namespace Go.Proofs.YtangkndckghblaaDoor.Abs
set_option linter.unusedSimpArgs false
set_option linter.unusedVariables false
set_option maxRecDepth 100000
open Go Go.RowKit

@[go_sem] theorem encDk_leafs (f : AV → AV) (d : Dk) : AV.leafsL f (encDk d) = encDk d := rfl
@[go_sem] theorem encDk_names (d : Dk) : AV.namesL (encDk d) = [] := rfl
@[go_sem] theorem encDk_imm (d : Dk) : AV.immL (encDk d) = true := rfl
@[go_sem] theorem encDk_keeps (s : St) (d : Dk) : AV.keepsL s (encDk d) = true := rfl
@[go_sem] theorem encDk_length (d : Dk) : (encDk d).length = 3 := rfl
@[go_sem] theorem encNet_leafs (f : AV → AV) (d : Net) : AV.leafsL f (encNet d) = encNet d := rfl
@[go_sem] theorem encNet_names (d : Net) : AV.namesL (encNet d) = [] := rfl
@[go_sem] theorem encNet_imm (d : Net) : AV.immL (encNet d) = true := rfl
@[go_sem] theorem encNet_keeps (s : St) (d : Net) : AV.keepsL s (encNet d) = true := rfl
@[go_sem] theorem encNet_length (d : Net) : (encNet d).length = 2 := rfl
theorem few (l : List Int) (hl : l.length ≤ 9223372036854775807) : Fn1 Tryd.prog GT0 9 [.lst 1 (l.map encN)] (.raw (.bool (decide (l.length ≤ 400)))) [] := by
  refine holds_of Tryd.func9 rfl rfl ?_
  refine J_run 200 ?_
  delta Tryd.f9
  repeat' (first
    | (simp (maxSteps := 1000000) (disch := omega) only [go_sem])
    | ((with_reducible first | refine gDt ?_ ?_ | refine gDf ?_ ?_ | refine gNt ?_ ?_ | refine gNf ?_ ?_ | refine cD ?_ ?_ | refine cN ?_ ?_ | refine cB ?_ ?_ | refine gB ?_ ?_) <;> intro h)
    | with_reducible first | refine And.intro ?_ ?_ | refine J_seq ?_ | refine J_block ?_ | refine J_inBlock ?_ | refine rC ?_ | refine rR ?_ | refine rE ?_ | refine rG ?_ | refine FinQ.now ?_ | refine FinQ.end ?_)
  all_goals (simp; try omega)
theorem newDeck (l : List Int) : Fn1 Tryd.prog GT0 11 [.lst 1 (l.map encN)] (.ref 0 0) [.box (encDk ⟨l, 0, 88172645463325252⟩)] := by
  refine holds_of Tryd.func11 rfl rfl ?_
  refine J_run 200 ?_
  delta Tryd.f11
  repeat' (first
    | (simp (maxSteps := 1000000) (disch := omega) only [go_sem])
    | ((with_reducible first | refine gDt ?_ ?_ | refine gDf ?_ ?_ | refine gNt ?_ ?_ | refine gNf ?_ ?_ | refine cD ?_ ?_ | refine cN ?_ ?_ | refine cB ?_ ?_ | refine gB ?_ ?_) <;> intro h)
    | with_reducible first | refine And.intro ?_ ?_ | refine J_seq ?_ | refine J_block ?_ | refine J_inBlock ?_ | refine rC ?_ | refine rR ?_ | refine rE ?_ | refine rG ?_ | refine FinQ.now ?_ | refine FinQ.end ?_)
  all_goals simp [encDk]
theorem wrap_u64 (y : Int) : IntKind.u64.wrap y = y % 18446744073709551616 := by simp [IntKind.wrap, IntKind.bits, IntKind.signed]
theorem drawn_zero {n : Int} (hn : n < 1) {l : List Int} {k y : Int} (hl : l.length ≤ 9223372036854775807) (hk : 0 ≤ k ∧ k ≤ l.length) (hls : ∀ x, x ∈ l → inI x) :
    Drawn n (.raw (.int .i64 0)) [.box [.lst 1 (l.map encN), .raw (.int .i64 k), .raw (.int .u64 (IntKind.u64.wrap y))]] :=
  ⟨0, ⟨l, k, IntKind.u64.wrap y⟩, ⟨hl, hk.1, hk.2, by simp only [wrap_u64]; omega, by simp only [wrap_u64]; omega, hls⟩, by omega, .inr ⟨hn, rfl⟩, rfl, rfl⟩
theorem drawn_mk {n : Int} (hn : 1 ≤ n) (hi : inI n) {l : List Int} {k y : Int} (hl : l.length ≤ 9223372036854775807) (hk : 0 ≤ k ∧ k ≤ l.length) (hls : ∀ x, x ∈ l → inI x) :
    Drawn n (.raw (.int .i64 (IntKind.i64.wrap (((IntKind.u64.wrap y).fdiv (2 ^ min 33 64)).tmod (IntKind.u64.wrap n))))) [.box [.lst 1 (l.map encN), .raw (.int .i64 k), .raw (.int .u64 (IntKind.u64.wrap y))]] := by
  have hw : IntKind.u64.wrap n = n := by have := hi.2; rw [wrap_u64]; omega
  have h1 : (2 : Int) ^ min 33 64 = 8589934592 := by decide
  have h2 : 0 ≤ (IntKind.u64.wrap y).fdiv 8589934592 ∧ (IntKind.u64.wrap y).fdiv 8589934592 ≤ 4611686018427387904 := by
    rw [Int.fdiv_eq_ediv_of_nonneg _ (by omega), wrap_u64]
    omega
  rw [hw, h1]
  generalize (IntKind.u64.wrap y).fdiv 8589934592 = q at h2
  have h3 : q.tmod n = q % n := Int.tmod_eq_emod_of_nonneg h2.1
  have h4 : 0 ≤ q % n := Int.emod_nonneg _ (by omega)
  have h5 : q % n < n := Int.emod_lt_of_pos _ (by omega)
  have h6 := hi.2
  rw [h3, wrap_in (by omega) (by omega)]
  exact ⟨q % n, ⟨l, k, IntKind.u64.wrap y⟩, ⟨hl, hk.1, hk.2, by simp only [wrap_u64]; omega, by simp only [wrap_u64]; omega, hls⟩, h4, .inl h5, rfl, rfl⟩
theorem wrap_pos {n : Int} (hn : ¬ n < 1) (hi : -9223372036854775808 ≤ n ∧ n ≤ 9223372036854775807) : ¬ IntKind.u64.wrap n = 0 := by
  rw [wrap_u64]; omega
set_option maxHeartbeats 1000000 in
theorem next (d : Dk) (hd : d.ok) (n : Int) (hn : inI n) : Holds Tryd.prog GT0 40 [.ref 0 0, .raw (.int .i64 n)] [.box (encDk d)] (Drawn n) := by
  obtain ⟨l, at_, s⟩ := d
  obtain ⟨h1, h2, h3, h4, h5, h6⟩ := hd
  simp only at h1 h2 h3 h4 h5 h6
  simp only [inI] at hn
  refine holds_of Tryd.func40 rfl rfl ?_
  refine J_run 200 ?_
  delta Tryd.f40
  simp only [encDk]
  obtain ⟨k, rfl⟩ : ∃ k : Nat, at_ = k := ⟨at_.toNat, by omega⟩
  repeat' (first
    | ((with_reducible refine J_draw (id := 2) 200 [] plan40_2 (by kernel_rfl) (by kernel_rfl) ?_); delta plan40_2)
    | ((with_reducible refine J_draw (id := 3) 200 [] plan40_3 (by kernel_rfl) (by kernel_rfl) ?_); delta plan40_3)
    | (simp (maxSteps := 1000000) (disch := omega) only [go_sem, getD_N])
    | ((with_reducible first | refine gDt ?_ ?_ | refine gDf ?_ ?_ | refine gNt ?_ ?_ | refine gNf ?_ ?_ | refine cD ?_ ?_ | refine cN ?_ ?_ | refine cB ?_ ?_ | refine gB ?_ ?_) <;> intro h)
    | with_reducible first | refine And.intro ?_ ?_ | refine J_seq ?_ | refine J_block ?_ | refine J_inBlock ?_ | refine rC ?_ | refine rR ?_ | refine rE ?_ | refine rG ?_ | refine FinQ.now ?_ | refine FinQ.end ?_)
  all_goals first
    | exact drawn_zero (by omega) h1 (by omega) h6
    | exact drawn_mk (by omega) hn h1 (by omega) h6
    | exact wrap_pos (by assumption) hn
theorem one (d : Dk) (hd : d.ok) (n : Int) (hn : inI n) : Holds Tryd.prog GT0 19 [.ref 0 0, .raw (.int .i64 n)] [.box (encDk d)] DrawnB := by
  have c := next d hd n hn
  refine holds_of Tryd.func19 rfl rfl ?_
  refine J_run 200 ?_
  delta Tryd.f19
  repeat' (first
    | (simp (maxSteps := 1000000) (disch := omega) only [go_sem])
    | ((with_reducible refine CallA.mut [0] ?_ ?_ ?_ ?_ c ?_); (· simp only [go_sem]); (· simp only [go_sem]); (· simp only [go_sem]); (· simp only [go_sem]); rintro _ _ ⟨x, d', hd', h0, h1, rfl, rfl⟩)
    | ((with_reducible first | refine gDt ?_ ?_ | refine gDf ?_ ?_ | refine gNt ?_ ?_ | refine gNf ?_ ?_ | refine cD ?_ ?_ | refine cN ?_ ?_ | refine cB ?_ ?_ | refine gB ?_ ?_) <;> intro h)
    | with_reducible first | refine And.intro ?_ ?_ | refine J_seq ?_ | refine J_block ?_ | refine J_inBlock ?_ | refine rC ?_ | refine rR ?_ | refine rE ?_ | refine rG ?_ | refine FinQ.now ?_ | refine FinQ.end ?_)
  exact ⟨_, d', hd', rfl, rfl⟩
end Go.Proofs.YtangkndckghblaaDoor.Abs
