/- The bays that the statements make. -/
import Derived.Test.YthgcmeniecaemaaDoorZ2
import Derived.Test.YthgcmeniecaemaaDoorZ3
namespace Go.Proofs.YthgcmeniecaemaaDoor.Abs
set_option linter.unusedSimpArgs false
set_option linter.unusedVariables false
set_option maxRecDepth 100000
open Go Go.RowKit

/-- Devices of a bay. -/
def bay6 : List Dv := [⟨⟨#[83, 48]⟩, 5, 0, -1, 0⟩, ⟨nmS 88 0, 2, 0, 1, 0⟩, ⟨nmS 88 1, 3, 1, 2, 0⟩, ⟨nmS 88 2, 1, 2, 3, 0⟩, ⟨nmS 88 3, 3, 3, 4, 0⟩, ⟨nmS 88 4, 2, 4, 5, 0⟩]
def kindOf (k : Nat) : Int := if k = 0 ∨ k = 4 then 2 else if k = 2 then 1 else 3
def bayDevs (t : List Dv) : List Dv := bay6 ++ [⟨⟨#[69, 50]⟩, 4, 2, -1, 0⟩, ⟨⟨#[69, 51]⟩, 4, 3, -1, 0⟩] ++ t
def bayTail : Nat → List Dv
  | 0 => [⟨⟨#[83, 53]⟩, 5, 5, -1, 0⟩]
  | 1 => [⟨⟨#[71, 51]⟩, 6, 3, -1, 0⟩]
  | 2 => [⟨⟨#[68, 49]⟩, 3, 1, 4, 0⟩]
  | _ => []
def bayBase (j : Nat) : Net := ⟨(List.range 6).map fun i => ⟨nmS 78 i, 0, 0⟩, bayDevs (bayTail j)⟩
theorem bayBase_ok (j : Nat) : (bayBase j).ok := by
  match j with
  | 0 => exact Net.chk_ok.1 (by decide +kernel)
  | 1 => exact Net.chk_ok.1 (by decide +kernel)
  | 2 => exact Net.chk_ok.1 (by decide +kernel)
  | k + 3 => exact Net.chk_ok.1 (show (bayBase 3).chk = 0 by decide +kernel)
/-- A valid network stays valid with other numbers of customers. -/
theorem ok_cust {n m : Net} (hn : n.ok) (hd : m.devs = n.devs) (hl : m.nodes.length = n.nodes.length) (h : ∀ i (hi : i < m.nodes.length), m.nodes[i].name = (n.nodes[i]'(by omega)).name ∧ m.nodes[i].comp = (n.nodes[i]'(by omega)).comp ∧ 0 ≤ m.nodes[i].cust ∧ m.nodes[i].cust ≤ 1048576) : m.ok := by
  have hnames : m.nodes.map Nd.name = n.nodes.map Nd.name := by
    apply List.ext_getElem (by simp [hl])
    intro i h1 h2
    simp only [List.getElem_map]
    exact (h i (by simpa using h1)).1
  refine ⟨by rw [hl]; exact hn.nl, by rw [hd]; exact hn.dl, fun i hi => ?_, fun i hi => ?_⟩
  · have h1 := hn.nd i (by omega)
    have hh := h i hi
    unfold nErr at h1 ⊢
    rw [getD_get hi]
    rw [getD_get (show i < n.nodes.length by omega)] at h1
    have ht : (m.nodes.take i).map Nd.name = (n.nodes.take i).map Nd.name := by rw [List.map_take, List.map_take, hnames]
    simp only [hh.1, ht, hh.2.1]
    simp only at h1
    split at h1
    · cases h1
    rename_i g1
    rw [if_neg g1]
    split at h1
    · cases h1
    rename_i g2
    rw [if_neg g2]
    split at h1
    · cases h1
    rename_i g3
    rw [if_neg (by omega)]
  · have h1 := hn.dv i (by rw [← hd]; exact hi)
    unfold dErr at h1 ⊢
    rw [hd, hnames, hl]
    exact h1
/-- Nodes of a bay. -/
def BayNodes (ns : List Nd) : Prop := ∀ i (hi : i < ns.length), ns[i].name = nmS 78 i ∧ ns[i].comp = 0 ∧ 0 ≤ ns[i].cust ∧ ns[i].cust ≤ 1048576
theorem BayNodes.push {ns : List Nd} (h : BayNodes ns) {c : Int} (h0 : 0 ≤ c) (h1 : c ≤ 1048576) : BayNodes (ns ++ [⟨nmS 78 ns.length, c, 0⟩]) := by
  intro i hi
  rw [List.getElem_append]
  split
  · exact h i (by assumption)
  · have hie : i = ns.length := by simp at hi; omega
    subst hie
    simp only [Nat.sub_self, List.getElem_cons_zero]
    exact ⟨trivial, trivial, h0, h1⟩
theorem bay_ok {ns : List Nd} (h : BayNodes ns) (hl : ns.length = 6) (j : Nat) : (⟨ns, bayDevs (bayTail j)⟩ : Net).ok := by
  refine ok_cust (n := bayBase j) (bayBase_ok j) rfl (by simp [bayBase, hl]) fun i hi => ?_
  have := h i hi
  simp only [bayBase, List.getElem_map, List.getElem_range]
  exact ⟨this.1, this.2.1, this.2.2⟩
/-- A bay that was drawn, with its state. -/
def DrawnBay (r : AV) (os : List Obj) : Prop := ∃ (n : Net) (st : List Int) (d : Dk), d.ok ∧ n.ok ∧ n.nodes.length = 6 ∧ 1 ≤ n.devs.length ∧ n.devs.length ≤ 9 ∧ st.length = n.devs.length ∧ (∀ x, x ∈ st → x = 1 ∨ x = 2) ∧ r = .tup [.agg (encNet n), .lst 1 (st.map encN)] ∧ os = [.box (encDk d)]
def unN : List AV → Int
  | [.raw (.int .i64 v)] => v
  | _ => 0
theorem bayEnd {ns : List Nd} (h : BayNodes ns) (hl : ns.length = 6) (j : Nat) {d : Dk} (hd : d.ok) {xs ys : List (List AV)} (hxs : xs = (bayDevs (bayTail j)).map encDv) (hys : ys = (ys.map unN).map encN) (hs : (ys.map unN).length = (bayDevs (bayTail j)).length) (hx : ((ys.map unN).all fun x => decide (x = 1 ∨ x = 2)) = true) :
    DrawnBay (.tup [.agg [.lst 3 ((ns.map encNd).take 6), .lst 5 xs], .lst 1 ys]) [.box (encDk d)] := by
  refine ⟨⟨ns, bayDevs (bayTail j)⟩, ys.map unN, d, hd, bay_ok h hl j, hl, ?_, ?_, hs, fun x hx' => ?_, ?_, rfl⟩
  · simp [bayDevs, bay6]
  · match j with
    | 0 => simp [bayDevs, bay6, bayTail]
    | 1 => simp [bayDevs, bay6, bayTail]
    | 2 => simp [bayDevs, bay6, bayTail]
    | k + 3 => simp [bayDevs, bay6, bayTail]
  · have := List.all_eq_true.1 hx x hx'
    simpa using this
  · rw [← hys, hxs, List.take_of_length_le (by simp [hl])]; rfl
set_option maxHeartbeats 16000000 in
theorem bayD (d : Dk) (hd : d.ok) : Holds Tryd.prog GT0 11 [.ref 0 0] [.box (encDk d)] DrawnBay := by
  have b2 := fun (d : Dk) (hd : d.ok) => one d hd 2 (by decide)
  have b3 := fun (d : Dk) (hd : d.ok) => one d hd 3 (by decide)
  have x2 := fun (d : Dk) (hd : d.ok) => next d hd 2 (by decide)
  have x4 := fun (d : Dk) (hd : d.ok) => next d hd 4 (by decide)
  have x5 := fun (d : Dk) (hd : d.ok) => next d hd 5 (by decide)
  have x20 := fun (d : Dk) (hd : d.ok) => next d hd 20 (by decide)
  refine holds_of Tryd.func11 rfl rfl ?_
  refine J_run 200 ?_
  delta Tryd.f11
  iterate 6 (all_goals (try (first
    | (simp (maxSteps := 1000000) (disch := omega) only [go_sem, Nat.reduceLT])
    | ((with_reducible first | refine gDt ?_ ?_ | refine gDf ?_ ?_ | refine gNt ?_ ?_ | refine gNf ?_ ?_ | refine cD ?_ ?_ | refine cN ?_ ?_ | refine cB ?_ ?_ | refine gB ?_ ?_) <;> intro h)
    | with_reducible first | refine And.intro ?_ ?_ | refine J_seq ?_ | refine J_block ?_ | refine J_inBlock ?_ | refine rC ?_ | refine rR ?_ | refine rE ?_ | refine rG ?_ | refine FinQ.now ?_ | refine FinQ.end ?_)))
  refine J_for ([6] ++ upto 10 32) (fun x : List Nd × Dk => [(5, .raw (.int .i64 x.1.length))]) (fun x => [.box (encDk x.2), .box [.raw (.slice none 0 0), .raw (.slice none 0 0)], .box [.own 3 3 0 x.1.length, .own 4 5 0 0], .arr 3 (x.1.map encNd), .arr 5 []]) (fun x => x.1.length ≤ 6 ∧ BayNodes x.1 ∧ x.2.ok) (fun x => 6 - x.1.length) ([], d) ⟨by simp, fun i hi => absurd hi (by simp), hd⟩ ?_ ?_
  · refine SemLe.trans (SemLe.nilBox 2 0 3 (cs := [.raw (.slice none 0 0), .raw (.slice none 0 0)]) (by simp [St.obj, List.getD]) (by simp [sget])) ?_
    refine SemLe.trans (SemLe.nilBox 2 1 5 (cs := [.own 3 3 0 0, .raw (.slice none 0 0)]) ?_ ?_) ?_
    · simp [go_sem, St.nilBox]
    · rfl
    · simp only [go_sem, St.nilBox]
      exact .le (by simp [go_sem]) (by simp)
  clear hd d
  rintro ⟨ns, d⟩ ⟨hnl, hno, hd⟩
  simp only at hnl hno hd
  by_cases hlt : ns.length < 6
  · have cn := name_nm 78 ns.length (by omega)
    have q0 := hno.push (c := 0) (by omega) (by omega)
    by_cases h0 : ns.length = 0
    · have hdz : decide ((0 : Int) < ns.length) = false := decide_eq_false (by omega)
      refine J_run 200 ?_
      iterate 14 (all_goals (try (first
        | (simp (maxSteps := 1000000) (disch := omega) only [go_sem, Nat.reduceLT, hdz])
        | ((with_reducible refine CallA.pure cn ?_ ?_); (· simp (disch := omega) only [go_sem, Nat.reduceLT, hdz]); rintro _ _ ⟨rfl, rfl⟩)
        | ((with_reducible first | refine gDt ?_ ?_ | refine gDf ?_ ?_ | refine gNt ?_ ?_ | refine gNf ?_ ?_ | refine cD ?_ ?_ | refine cN ?_ ?_ | refine cB ?_ ?_ | refine gB ?_ ?_) <;> intro h)
        | with_reducible first | refine And.intro ?_ ?_ | refine J_seq ?_ | refine J_block ?_ | refine J_inBlock ?_ | refine rC ?_ | refine rR ?_ | refine rE ?_ | refine rG ?_)))
      refine .mk (ns ++ [⟨nmS 78 ns.length, 0, 0⟩], d) ⟨by simp only [List.length_append, List.length_cons, List.length_nil]; omega, q0, hd⟩ (by simp only [List.length_append, List.length_cons, List.length_nil]; omega) ?_ ?_
      · simp [go_sem, encNd]
      · simp
    · have hdz : decide ((0 : Int) < ns.length) = true := decide_eq_true (by omega)
      refine J_run 200 ?_
      iterate 20 (all_goals (try (first
        | (simp (maxSteps := 1000000) (disch := omega) only [go_sem, Nat.reduceLT, hdz])
        | ((with_reducible refine CallA.pure cn ?_ ?_); (· simp (disch := omega) only [go_sem, Nat.reduceLT, hdz]); rintro _ _ ⟨rfl, rfl⟩)
        | ((with_reducible refine CallA.mut [0] ?_ ?_ ?_ ?_ (b2 _ (by assumption)) ?_); (· simp (disch := omega) only [go_sem, Nat.reduceLT, hdz]); (· simp (disch := omega) only [go_sem, Nat.reduceLT, hdz]); (· simp (disch := omega) only [go_sem, Nat.reduceLT, hdz]); (· simp (disch := omega) only [go_sem, Nat.reduceLT, hdz]); rintro _ _ ⟨v2, d1, hd1, rfl, rfl⟩)
        | ((with_reducible refine CallA.mut [0] ?_ ?_ ?_ ?_ (x20 _ (by assumption)) ?_); (· simp (disch := omega) only [go_sem, Nat.reduceLT, hdz]); (· simp (disch := omega) only [go_sem, Nat.reduceLT, hdz]); (· simp (disch := omega) only [go_sem, Nat.reduceLT, hdz]); (· simp (disch := omega) only [go_sem, Nat.reduceLT, hdz]); rintro _ _ ⟨y, d2, hd2, hy0, hy1, rfl, rfl⟩)
        | ((with_reducible first | refine gDt ?_ ?_ | refine gDf ?_ ?_ | refine gNt ?_ ?_ | refine gNf ?_ ?_ | refine cD ?_ ?_ | refine cN ?_ ?_ | refine cB ?_ ?_ | refine gB ?_ ?_) <;> intro h)
        | with_reducible first | refine And.intro ?_ ?_ | refine J_seq ?_ | refine J_block ?_ | refine J_inBlock ?_ | refine rC ?_ | refine rR ?_ | refine rE ?_ | refine rG ?_)))
      · refine .mk (ns ++ [⟨nmS 78 ns.length, 1 + y, 0⟩], d2) ⟨by simp only [List.length_append, List.length_cons, List.length_nil]; omega, hno.push (by omega) (by omega), hd2⟩ (by simp only [List.length_append, List.length_cons, List.length_nil]; omega) ?_ ?_
        · simp [go_sem, encNd]
        · simp
      · refine .mk (ns ++ [⟨nmS 78 ns.length, 0, 0⟩], d1) ⟨by simp only [List.length_append, List.length_cons, List.length_nil]; omega, q0, hd1⟩ (by simp only [List.length_append, List.length_cons, List.length_nil]; omega) ?_ ?_
        · simp [go_sem, encNd]
        · simp
  have hne : ns.length = 6 := by omega
  refine J_run 200 ?_
  iterate 6 (all_goals (try (first
    | (simp (maxSteps := 1000000) (disch := omega) only [go_sem, Nat.reduceLT])
    | ((with_reducible first | refine gDt ?_ ?_ | refine gDf ?_ ?_ | refine gNt ?_ ?_ | refine gNf ?_ ?_ | refine cD ?_ ?_ | refine cN ?_ ?_ | refine cB ?_ ?_ | refine gB ?_ ?_) <;> intro h)
    | with_reducible first | refine And.intro ?_ ?_ | refine J_seq ?_ | refine J_block ?_ | refine J_inBlock ?_ | refine rC ?_ | refine rR ?_ | refine rE ?_ | refine rG ?_ | refine FinQ.now ?_ | refine FinQ.end ?_)))
  refine J_for ([] ++ upto 33 58) (fun k : Nat => [(8, .raw (.int .i64 k))]) (fun k => [.box (encDk d), .box [.raw (.slice none 0 0), .raw (.slice none 0 0)], .box [.own 3 3 0 6, .own 4 5 0 (k + 1)], .arr 3 (ns.map encNd), .arr 5 ((bay6.take (k + 1)).map encDv), .arr 1 [[.raw (.int .i64 2)], [.raw (.int .i64 3)], [.raw (.int .i64 1)], [.raw (.int .i64 3)], [.raw (.int .i64 2)]]]) (fun k => k ≤ 5) (fun k => 5 - k) 0 (by omega) (.le (by rw [hne]; simp [go_sem, bay6, encDv]) (by simp)) ?_
  intro k hk
  by_cases hk5 : k < 5
  · have hkc : k = 0 ∨ k = 1 ∨ k = 2 ∨ k = 3 ∨ k = 4 := by omega
    have hkd : ([[.raw (.int .i64 2)], [.raw (.int .i64 3)], [.raw (.int .i64 1)], [.raw (.int .i64 3)], [.raw (.int .i64 2)]] : List (List AV)).getD k [] = [.raw (.int .i64 (kindOf k))] := by
      rcases hkc with rfl | rfl | rfl | rfl | rfl <;> rfl
    have htk : bay6.take (k + 2) = bay6.take (k + 1) ++ [(⟨nmS 88 k, kindOf k, k, k + 1, 0⟩ : Dv)] := by
      rcases hkc with rfl | rfl | rfl | rfl | rfl <;> rfl
    have htl : (bay6.take (k + 1)).length = k + 1 := by rw [List.length_take]; simp [bay6]; omega
    have cn := name_nm 88 k (by omega)
    refine J_run 200 ?_
    iterate 14 (all_goals (try (first
      | ((with_reducible refine J_draw (id := 14) 200 [] plan11_14 (by kernel_rfl) (by kernel_rfl) ?_); delta plan11_14)
      | (simp (maxSteps := 1000000) (disch := omega) only [go_sem, hkd, htl, Nat.reduceLT])
      | ((with_reducible refine CallA.pure cn ?_ ?_); (· simp (disch := omega) only [go_sem, hkd, htl, Nat.reduceLT]); rintro _ _ ⟨rfl, rfl⟩)
      | ((with_reducible first | refine gDt ?_ ?_ | refine gDf ?_ ?_ | refine gNt ?_ ?_ | refine gNf ?_ ?_ | refine cD ?_ ?_ | refine cN ?_ ?_ | refine cB ?_ ?_ | refine gB ?_ ?_ | refine stepGuard_dect ?_ ?_ | refine stepGuard_decf ?_ ?_ | refine stepGuard_ndect ?_ ?_ | refine stepGuard_ndecf ?_ ?_ | refine stepGuard_by ?_ ?_) <;> intro h)
      | with_reducible first | refine And.intro ?_ ?_ | refine J_seq ?_ | refine J_block ?_ | refine J_inBlock ?_ | refine rC ?_ | refine rR ?_ | refine rE ?_ | refine rG ?_)))
    refine .mk (k + 1) (by omega) (by omega) ?_ ?_
    · rw [show k + 1 + 1 = k + 2 from rfl, htk]; simp [go_sem, encDv, htl]
    · simp
  have hke : k = 5 := by omega
  subst hke
  rw [show bay6.take (5 + 1) = bay6 from rfl]
  have hbl : bay6.length = 6 := rfl
  refine J_run 200 ?_
  iterate 40 (all_goals (try (first
    | (simp (maxSteps := 1000000) (disch := omega) only [go_sem, Nat.reduceLT, hbl])
    | ((with_reducible refine CallA.mut [0] ?_ ?_ ?_ ?_ (x4 _ hd) ?_); (· simp (disch := omega) only [go_sem, Nat.reduceLT, hbl]); (· simp (disch := omega) only [go_sem, Nat.reduceLT, hbl]); (· simp (disch := omega) only [go_sem, Nat.reduceLT, hbl]); (· simp (disch := omega) only [go_sem, Nat.reduceLT, hbl]); rintro _ _ ⟨y4, d4, hd4, h40, h41, rfl, rfl⟩)
    | ((with_reducible refine CallA.mut [0] ?_ ?_ ?_ ?_ (x2 _ hd4) ?_); (· simp (disch := omega) only [go_sem, Nat.reduceLT, hbl]); (· simp (disch := omega) only [go_sem, Nat.reduceLT, hbl]); (· simp (disch := omega) only [go_sem, Nat.reduceLT, hbl]); (· simp (disch := omega) only [go_sem, Nat.reduceLT, hbl]); rintro _ _ ⟨y2, d5, hd5, h20, h21, rfl, rfl⟩)
    | ((with_reducible refine CallA.mut [0] ?_ ?_ ?_ ?_ (b3 _ (by assumption)) ?_); (· simp (disch := omega) only [go_sem, Nat.reduceLT, hbl]); (· simp (disch := omega) only [go_sem, Nat.reduceLT, hbl]); (· simp (disch := omega) only [go_sem, Nat.reduceLT, hbl]); (· simp (disch := omega) only [go_sem, Nat.reduceLT, hbl]); rintro _ _ ⟨v3, d6, hd6, rfl, rfl⟩)
    | ((with_reducible refine CallA.mut [0] ?_ ?_ ?_ ?_ (x5 _ (by assumption)) ?_); (· simp (disch := omega) only [go_sem, Nat.reduceLT, hbl]); (· simp (disch := omega) only [go_sem, Nat.reduceLT, hbl]); (· simp (disch := omega) only [go_sem, Nat.reduceLT, hbl]); (· simp (disch := omega) only [go_sem, Nat.reduceLT, hbl]); rintro _ _ ⟨y5, d7, hd7, h50, h51, rfl, rfl⟩)
    | ((with_reducible first | refine gDt ?_ ?_ | refine gDf ?_ ?_ | refine gNt ?_ ?_ | refine gNf ?_ ?_ | refine cD ?_ ?_ | refine cN ?_ ?_ | refine cB ?_ ?_ | refine gB ?_ ?_) <;> intro h)
    | with_reducible first | refine And.intro ?_ ?_ | refine J_seq ?_ | refine J_block ?_ | refine J_inBlock ?_ | refine rC ?_ | refine rR ?_ | refine rE ?_ | refine rG ?_)))
  all_goals
    refine .frz [3, 4, 7] (.now ?_)
    simp only [go_sem]
  all_goals (try (rcases (show y2 = 0 ∨ y2 = 1 by omega) with rfl | rfl))
  all_goals (try (rcases (show y5 = 0 ∨ y5 = 1 ∨ y5 = 2 ∨ y5 = 3 ∨ y5 = 4 by omega) with rfl | rfl | rfl | rfl | rfl))
  all_goals first
    | exact bayEnd hno hne 0 (by assumption) rfl rfl rfl rfl
    | exact bayEnd hno hne 1 (by assumption) rfl rfl rfl rfl
    | exact bayEnd hno hne 2 (by assumption) rfl rfl rfl rfl
    | exact bayEnd hno hne 3 (by assumption) rfl rfl rfl rfl
end Go.Proofs.YthgcmeniecaemaaDoor.Abs
