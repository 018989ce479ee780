/- A device is added to the network that is made. -/
import Derived.Test.YtangkndckghblaaDoorZH
namespace Go.Proofs.YtangkndckghblaaDoor.Abs
set_option linter.unusedSimpArgs false
set_option linter.unusedVariables false
set_option maxRecDepth 100000
open Go Go.RowKit

/-- The letter of a kind. -/
def letterOf (k : Int) : Nat := if k = 1 then 76 else if k = 2 then 81 else if k = 3 then 68 else if k = 4 then 69 else if k = 5 then 83 else 71
theorem letterOf_mem (k : Int) : letterOf k ∈ letters := by
  unfold letterOf letters
  repeat' split
  all_goals simp
/-- What is left behind 'add'. -/
def AddR (ns : List Nd) (ds : List Dv) (kind a b most : Int) (r : AV) (os : List Obj) : Prop := r = .tup [] ∧ ∃ d : Dk, d.ok ∧
  ((most ≤ ds.length ∧ os = [.box [.own 1 3 0 ns.length, .own 2 5 0 ds.length], .arr 3 (ns.map encNd), .arr 5 (ds.map encDv), .box [.raw (.int .i64 most)], .box [.ref 5 0], .box (encDk d)]) ∨
   ((ds.length : Int) < most ∧ ∃ comp, 0 ≤ comp ∧ comp ≤ 7 ∧ os = [.box [.own 1 3 0 ns.length, .own 6 5 0 (ds.length + 1)], .arr 3 (ns.map encNd), .dead, .box [.raw (.int .i64 most)], .box [.ref 5 0], .box (encDk d), .arr 5 ((ds ++ [(⟨nmS (letterOf kind) ds.length, kind, a, b, comp⟩ : Dv)]).map encDv)]))
set_option maxHeartbeats 4000000 in
theorem addD (d : Dk) (hd : d.ok) (ns : List Nd) (ds : List Dv) (hds : ds.length < 100) (kind a b most : Int) (hk : 1 ≤ kind ∧ kind ≤ 6) :
    Holds Tryd.prog GT0 42 [.raw (.int .i64 kind), .raw (.int .i64 a), .raw (.int .i64 b), .ref 0 0, .ref 3 0, .ref 4 0]
      [.box [.own 1 3 0 ns.length, .own 2 5 0 ds.length], .arr 3 (ns.map encNd), .arr 5 (ds.map encDv), .box [.raw (.int .i64 most)], .box [.ref 5 0], .box (encDk d)] (AddR ns ds kind a b most) := by
  have c1 := fun (d : Dk) (hd : d.ok) => one d hd 8 (by decide)
  have c2 := fun (d : Dk) (hd : d.ok) => next d hd 2 (by decide)
  have cn := name_nm (letterOf kind) ds.length hds
  have hL : ([[AV.raw (Value.string { data := #[] })], [AV.raw (Value.string { data := #[76] })], [AV.raw (Value.string { data := #[81] })], [AV.raw (Value.string { data := #[68] })], [AV.raw (Value.string { data := #[69] })], [AV.raw (Value.string { data := #[83] })], [AV.raw (Value.string { data := #[71] })]] : List (List AV)).getD kind.toNat [] = [AV.raw (.string ⟨#[(letterOf kind).toUInt8]⟩)] := by
    have : kind = 1 ∨ kind = 2 ∨ kind = 3 ∨ kind = 4 ∨ kind = 5 ∨ kind = 6 := by omega
    rcases this with rfl | rfl | rfl | rfl | rfl | rfl <;> rfl
  refine holds_of Tryd.func42 rfl rfl ?_
  refine J_run 200 ?_
  delta Tryd.f42
  repeat' (first
    | ((with_reducible refine J_draw (id := 1) 200 [] plan42_1 (by kernel_rfl) (by kernel_rfl) ?_); delta plan42_1)
    | (simp (maxSteps := 1000000) (disch := omega) only [go_sem, hL])
    | ((with_reducible refine CallA.pure cn ?_ ?_); (· simp only [go_sem]); rintro _ _ ⟨rfl, rfl⟩)
    | ((with_reducible refine CallA.mut [5] ?_ ?_ ?_ ?_ (c1 _ (by assumption)) ?_); (· simp only [go_sem]); (· simp only [go_sem]); (· simp only [go_sem]); (· simp only [go_sem]); rintro _ _ ⟨b1, d1, hd1, rfl, rfl⟩)
    | ((with_reducible refine CallA.mut [5] ?_ ?_ ?_ ?_ (c2 _ (by assumption)) ?_); (· simp only [go_sem]); (· simp only [go_sem]); (· simp only [go_sem]); (· simp only [go_sem]); rintro _ _ ⟨x, d2, hd2, hx0, hx1, rfl, rfl⟩)
    | ((with_reducible first | refine gDt ?_ ?_ | refine gDf ?_ ?_ | refine gNt ?_ ?_ | refine gNf ?_ ?_ | refine cD ?_ ?_ | refine cN ?_ ?_ | refine cB ?_ ?_ | refine gB ?_ ?_) <;> intro h)
    | with_reducible first | refine And.intro ?_ ?_ | refine J_seq ?_ | refine J_block ?_ | refine J_inBlock ?_ | refine rC ?_ | refine rR ?_ | refine rE ?_ | refine rG ?_ | refine FinQ.now ?_ | refine FinQ.end ?_)
  · exact ⟨rfl, d, hd, .inl ⟨by omega, rfl⟩⟩
  all_goals first
    | (refine ⟨rfl, d2, hd2, .inr ⟨by omega, 1 + x, by omega, by omega, ?_⟩⟩; simp [encDv])
    | (refine ⟨rfl, d1, hd1, .inr ⟨by omega, 0, by omega, by omega, ?_⟩⟩; simp [encDv])
end Go.Proofs.YtangkndckghblaaDoor.Abs
