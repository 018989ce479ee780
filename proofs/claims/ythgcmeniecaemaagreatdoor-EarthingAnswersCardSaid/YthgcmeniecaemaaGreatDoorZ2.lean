/- A device is added to the network that is made. The networks that the statements make. -/
import Derived.Test.YthgcmeniecaemaaGreatDoorZ1
namespace Go.Proofs.YthgcmeniecaemaaGreatDoor.Abs
set_option linter.unusedSimpArgs false
set_option linter.unusedVariables false
set_option maxRecDepth 100000
open Go Go.RowKit

/-- The letter of a kind. -/
def letterOf (k : Int) : Nat := if k = 1 then 76 else if k = 2 then 81 else if k = 3 then 68 else if k = 4 then 69 else if k = 5 then 83 else 71
theorem letterOf_mem (k : Int) : letterOf k ∈ letters := by
  unfold letterOf letters
  repeat' split
  all_goals simp
/-- What is left behind 'add'. -/
def AddR (ns : List Nd) (ds : List Dv) (kind a b most : Int) (r : AV) (os : List Obj) : Prop := r = .tup [] ∧ ∃ d : Dk, d.ok ∧
  ((most ≤ ds.length ∧ os = [.box [.own 1 3 0 ns.length, .own 2 5 0 ds.length], .arr 3 (ns.map encNd), .arr 5 (ds.map encDv), .box [.raw (.int .i64 most)], .box [.ref 5 0], .box (encDk d)]) ∨
   ((ds.length : Int) < most ∧ ∃ comp, 0 ≤ comp ∧ comp ≤ 7 ∧ os = [.box [.own 1 3 0 ns.length, .own 6 5 0 (ds.length + 1)], .arr 3 (ns.map encNd), .dead, .box [.raw (.int .i64 most)], .box [.ref 5 0], .box (encDk d), .arr 5 ((ds ++ [(⟨nmS (letterOf kind) ds.length, kind, a, b, comp⟩ : Dv)]).map encDv)]))
set_option maxHeartbeats 4000000 in
theorem addD (d : Dk) (hd : d.ok) (ns : List Nd) (ds : List Dv) (hds : ds.length < 100) (kind a b most : Int) (hk : 1 ≤ kind ∧ kind ≤ 6) :
    Holds Tryz.prog GT0 30 [.raw (.int .i64 kind), .raw (.int .i64 a), .raw (.int .i64 b), .ref 0 0, .ref 3 0, .ref 4 0]
      [.box [.own 1 3 0 ns.length, .own 2 5 0 ds.length], .arr 3 (ns.map encNd), .arr 5 (ds.map encDv), .box [.raw (.int .i64 most)], .box [.ref 5 0], .box (encDk d)] (AddR ns ds kind a b most) := by
  have c1 := fun (d : Dk) (hd : d.ok) => one d hd 8 (by decide)
  have c2 := fun (d : Dk) (hd : d.ok) => next d hd 2 (by decide)
  have cn := name_nm (letterOf kind) ds.length hds
  have hL : ([[AV.raw (Value.string { data := #[] })], [AV.raw (Value.string { data := #[76] })], [AV.raw (Value.string { data := #[81] })], [AV.raw (Value.string { data := #[68] })], [AV.raw (Value.string { data := #[69] })], [AV.raw (Value.string { data := #[83] })], [AV.raw (Value.string { data := #[71] })]] : List (List AV)).getD kind.toNat [] = [AV.raw (.string ⟨#[(letterOf kind).toUInt8]⟩)] := by
    have : kind = 1 ∨ kind = 2 ∨ kind = 3 ∨ kind = 4 ∨ kind = 5 ∨ kind = 6 := by omega
    rcases this with rfl | rfl | rfl | rfl | rfl | rfl <;> rfl
  refine holds_of Tryz.func30 rfl rfl ?_
  refine J_run 200 ?_
  delta Tryz.f30
  repeat' (first
    | ((with_reducible refine J_draw (id := 1) 200 [] plan30_1 (by kernel_rfl) (by kernel_rfl) ?_); delta plan30_1)
    | (simp (maxSteps := 1000000) (disch := omega) only [go_sem, hL])
    | ((with_reducible refine CallA.pure cn ?_ ?_); (· simp only [go_sem]); rintro _ _ ⟨rfl, rfl⟩)
    | ((with_reducible refine CallA.mut [5] ?_ ?_ ?_ ?_ (c1 _ (by assumption)) ?_); (· simp only [go_sem]); (· simp only [go_sem]); (· simp only [go_sem]); (· simp only [go_sem]); rintro _ _ ⟨b1, d1, hd1, rfl, rfl⟩)
    | ((with_reducible refine CallA.mut [5] ?_ ?_ ?_ ?_ (c2 _ (by assumption)) ?_); (· simp only [go_sem]); (· simp only [go_sem]); (· simp only [go_sem]); (· simp only [go_sem]); rintro _ _ ⟨x, d2, hd2, hx0, hx1, rfl, rfl⟩)
    | ((with_reducible first | refine gDt ?_ ?_ | refine gDf ?_ ?_ | refine gNt ?_ ?_ | refine gNf ?_ ?_ | refine cD ?_ ?_ | refine cN ?_ ?_ | refine cB ?_ ?_ | refine gB ?_ ?_) <;> intro h)
    | with_reducible first | refine And.intro ?_ ?_ | refine J_seq ?_ | refine J_block ?_ | refine J_inBlock ?_ | refine rC ?_ | refine rR ?_ | refine rE ?_ | refine rG ?_ | refine FinQ.now ?_ | refine FinQ.end ?_)
  · exact ⟨rfl, d, hd, .inl ⟨by omega, rfl⟩⟩
  all_goals first
    | (refine ⟨rfl, d2, hd2, .inr ⟨by omega, 1 + x, by omega, by omega, ?_⟩⟩; simp [encDv])
    | (refine ⟨rfl, d1, hd1, .inr ⟨by omega, 0, by omega, by omega, ?_⟩⟩; simp [encDv])
end Go.Proofs.YthgcmeniecaemaaGreatDoor.Abs
namespace Go.Proofs.YthgcmeniecaemaaGreatDoor.Abs
set_option linter.unusedSimpArgs false
set_option linter.unusedVariables false
set_option maxRecDepth 100000
open Go Go.RowKit

/-- A network that was drawn. -/
def DrawnNet (nodes most : Int) (r : AV) (os : List Obj) : Prop := ∃ (n : Net) (k : Nat) (d : Dk), d.ok ∧ Made k n ∧ 2 ≤ k ∧ (k : Int) ≤ max 2 nodes ∧ (n.devs.length : Int) ≤ most ∧ 1 ≤ n.devs.length ∧ r = .agg (encNet n) ∧ os = [.box (encDk d)]
theorem made_node {k : Nat} {ns : List Nd} (h : ∀ i (hi : i < ns.length), ns[i].name = nmS 78 i ∧ 0 ≤ ns[i].cust ∧ ns[i].cust ≤ 1048576 ∧ 0 ≤ ns[i].comp ∧ ns[i].comp ≤ 7) {c p : Int} (hc : 0 ≤ c ∧ c ≤ 1048576) (hp : 0 ≤ p ∧ p ≤ 7) :
    ∀ i (hi : i < (ns ++ [(⟨nmS 78 ns.length, c, p⟩ : Nd)]).length), (ns ++ [(⟨nmS 78 ns.length, c, p⟩ : Nd)])[i].name = nmS 78 i ∧ 0 ≤ (ns ++ [(⟨nmS 78 ns.length, c, p⟩ : Nd)])[i].cust ∧ (ns ++ [(⟨nmS 78 ns.length, c, p⟩ : Nd)])[i].cust ≤ 1048576 ∧ 0 ≤ (ns ++ [(⟨nmS 78 ns.length, c, p⟩ : Nd)])[i].comp ∧ (ns ++ [(⟨nmS 78 ns.length, c, p⟩ : Nd)])[i].comp ≤ 7 := by
  intro i hi
  rw [List.getElem_append]
  split
  · exact h i (by assumption)
  · have : i = ns.length := by simp at hi; omega
    subst this
    simp only [Nat.sub_self, List.getElem_cons_zero]
    exact ⟨trivial, hc.1, hc.2, hp.1, hp.2⟩
theorem Made.add {k : Nat} {ns : List Nd} {ds : List Dv} (h : Made k ⟨ns, ds⟩) {kind a b comp : Int} (hd : (⟨nmS (letterOf kind) ds.length, kind, a, b, comp⟩ : Dv).ok k) (hc : 0 ≤ comp ∧ comp ≤ 7) : Made k ⟨ns, ds ++ [(⟨nmS (letterOf kind) ds.length, kind, a, b, comp⟩ : Dv)]⟩ := by
  refine ⟨h.nl, h.nd, fun i hi => ?_⟩
  simp only [List.getElem_append]
  split
  · exact h.dv i (by assumption)
  · have : i = ds.length := by simp at hi; omega
    subst this
    simp only [Nat.sub_self, List.getElem_cons_zero]
    exact ⟨⟨_, letterOf_mem kind, rfl⟩, hd, hc.1, hc.2⟩
theorem dv_ok1 {nm : ByteArray} {k : Nat} {kind a comp : Int} (h1 : 4 ≤ kind) (h2 : kind ≤ 6) (ha : 0 ≤ a) (hk : a < k) : (⟨nm, kind, a, -1, comp⟩ : Dv).ok k :=
  ⟨by simp only; omega, h2, ha, hk, fun h => by simp [joinsK] at h; omega, fun _ => rfl⟩
theorem dv_ok2 {nm : ByteArray} {k : Nat} {kind a b comp : Int} (h1 : 1 ≤ kind) (h2 : kind ≤ 3) (ha : 0 ≤ a) (hk : a < k) (hb : 0 ≤ b) (hbk : b < k) (hne : b ≠ a) : (⟨nm, kind, a, b, comp⟩ : Dv).ok k :=
  ⟨h1, by simp only; omega, ha, hk, fun _ => ⟨hb, hbk, hne⟩, fun h => by simp [joinsK] at h; omega⟩

/-- What is drawn of a node. -/
def NodeOk (ns : List Nd) : Prop := ∀ i (hi : i < ns.length), ns[i].name = nmS 78 i ∧ 0 ≤ ns[i].cust ∧ ns[i].cust ≤ 1048576 ∧ 0 ≤ ns[i].comp ∧ ns[i].comp ≤ 7
theorem NodeOk.push {ns : List Nd} (h : NodeOk ns) {c p : Int} (hc : 0 ≤ c ∧ c ≤ 1048576) (hp : 0 ≤ p ∧ p ≤ 7) : NodeOk (ns ++ [⟨nmS 78 ns.length, c, p⟩]) := made_node (k := 0) h hc hp
theorem rem_ne {a c : Int} {k : Nat} (ha : 0 ≤ a) (hk : a < k) (hc : 0 ≤ c) (hck : c < (k : Int) - 1) : 0 ≤ (a + 1 + c).tmod k ∧ (a + 1 + c).tmod k < k ∧ (a + 1 + c).tmod k ≠ a := by
  rw [Int.tmod_eq_emod_of_nonneg (by omega)]
  by_cases h : a + 1 + c < k
  · rw [Int.emod_eq_of_lt (by omega) h]; omega
  · have : (a + 1 + c) % (k : Int) = a + 1 + c - k := by
      rw [← Int.sub_emod_right]
      exact Int.emod_eq_of_lt (by omega) (by omega)
    rw [this]; omega
set_option maxHeartbeats 16000000 in
theorem networkD (d : Dk) (hd : d.ok) (nodes most : Int) (hn : 1 ≤ nodes ∧ nodes ≤ 32) (hm : 1 ≤ most ∧ most ≤ 64) : Holds Tryz.prog GT0 8 [.ref 0 0, .raw (.int .i64 nodes), .raw (.int .i64 most)] [.box (encDk d)] (DrawnNet nodes most) := by
  have c1 := next d hd (if nodes - 1 > 1 then nodes - 1 else 1) (by split <;> exact ⟨by omega, by omega⟩)
  have b2 := fun (d : Dk) (hd : d.ok) => one d hd 2 (by decide)
  have b3 := fun (d : Dk) (hd : d.ok) => one d hd 3 (by decide)
  have b8 := fun (d : Dk) (hd : d.ok) => one d hd 8 (by decide)
  have x2 := fun (d : Dk) (hd : d.ok) => next d hd 2 (by decide)
  have x3 := fun (d : Dk) (hd : d.ok) => next d hd 3 (by decide)
  have x4 := fun (d : Dk) (hd : d.ok) => next d hd 4 (by decide)
  have x50 := fun (d : Dk) (hd : d.ok) => next d hd 50 (by decide)
  refine holds_of Tryz.func8 rfl rfl ?_
  refine J_run 200 ?_
  delta Tryz.f8
  repeat' (first
    | (simp (maxSteps := 1000000) (disch := omega) only [go_sem])
    | ((with_reducible refine CallA.mut [0] ?_ ?_ ?_ ?_ c1 ?_); (· simp only [go_sem]); (· simp only [go_sem]); (· simp only [go_sem]); (· simp only [go_sem]); rintro _ _ ⟨x, d0, hd0, hx0, hx1, rfl, rfl⟩)
    | ((with_reducible first | refine gDt ?_ ?_ | refine gDf ?_ ?_ | refine gNt ?_ ?_ | refine gNf ?_ ?_ | refine cD ?_ ?_ | refine cN ?_ ?_ | refine cB ?_ ?_ | refine gB ?_ ?_) <;> intro h)
    | with_reducible first | refine And.intro ?_ ?_ | refine J_seq ?_ | refine J_block ?_ | refine J_inBlock ?_ | refine rC ?_ | refine rR ?_ | refine rE ?_ | refine rG ?_ | refine FinQ.now ?_ | refine FinQ.end ?_)
  obtain ⟨k, hk⟩ : ∃ k : Nat, (k : Int) = 2 + x := ⟨(2 + x).toNat, by omega⟩
  have hk2 : 2 ≤ k := by omega
  have hkm : (k : Int) ≤ max 2 nodes := by split at hx1 <;> omega
  have hk32 : k ≤ 32 := by omega
  rw [← hk]
  refine J_for ([10, 24, 25, 26, 27, 28] ++ upto 29 49) (fun x : List Nd × Dk => [(9, .raw (.int .i64 x.1.length))]) (fun x => [.box (encDk x.2), .box [.ref 0 0], .box [.raw (.int .i64 most)], .box [.raw (.slice none 0 0), .raw (.slice none 0 0)], .box [.own 5 3 0 x.1.length, .own 6 5 0 0], .arr 3 (x.1.map encNd), .arr 5 []]) (fun x => x.1.length ≤ k ∧ NodeOk x.1 ∧ x.2.ok) (fun x => k - x.1.length) ([], d0) ⟨by simp, fun i hi => absurd hi (by simp), hd0⟩ ?_ ?_
  · refine SemLe.trans (SemLe.nilBox 4 0 3 (cs := [.raw (.slice none 0 0), .raw (.slice none 0 0)]) (by simp [St.obj, List.getD]) (by simp [sget])) ?_
    refine SemLe.trans (SemLe.nilBox 4 1 5 (cs := [.own 5 3 0 0, .raw (.slice none 0 0)]) ?_ ?_) ?_
    · simp [go_sem, St.nilBox]
    · rfl
    · simp only [go_sem, St.nilBox]
      exact .le (by simp [go_sem]) (by simp)
  rintro ⟨ns, d⟩ ⟨hnl, hno, hd⟩
  simp only at hnl hno hd
  have h51 : (5 < 1) = False := by simp
  clear hd0
  by_cases hlt : ns.length < k
  · have cn := name_nm 78 ns.length (by omega)
    refine J_run 200 ?_
    repeat' (first
      | (simp (maxSteps := 1000000) (disch := omega) only [go_sem, h51])
      | ((with_reducible refine CallA.pure cn ?_ ?_); (· simp only [go_sem]); rintro _ _ ⟨rfl, rfl⟩)
      | ((with_reducible refine CallA.mut [0] ?_ ?_ ?_ ?_ (b2 _ (by assumption)) ?_); (· simp only [go_sem]); (· simp only [go_sem]); (· simp only [go_sem]); (· simp only [go_sem]); rintro _ _ ⟨v2, d1, hd1, rfl, rfl⟩)
      | ((with_reducible refine CallA.mut [0] ?_ ?_ ?_ ?_ (b8 _ (by assumption)) ?_); (· simp only [go_sem]); (· simp only [go_sem]); (· simp only [go_sem]); (· simp only [go_sem]); rintro _ _ ⟨v8, d3, hd3, rfl, rfl⟩)
      | ((with_reducible refine CallA.mut [0] ?_ ?_ ?_ ?_ (x50 _ (by assumption)) ?_); (· simp only [go_sem]); (· simp only [go_sem]); (· simp only [go_sem]); (· simp only [go_sem]); rintro _ _ ⟨y50, d2, hd2, h500, h501, rfl, rfl⟩)
      | ((with_reducible refine CallA.mut [0] ?_ ?_ ?_ ?_ (x2 _ (by assumption)) ?_); (· simp only [go_sem]); (· simp only [go_sem]); (· simp only [go_sem]); (· simp only [go_sem]); rintro _ _ ⟨y2, d4, hd4, h20, h21, rfl, rfl⟩)
      | ((with_reducible first | refine gDt ?_ ?_ | refine gDf ?_ ?_ | refine gNt ?_ ?_ | refine gNf ?_ ?_ | refine cD ?_ ?_ | refine cN ?_ ?_ | refine cB ?_ ?_ | refine gB ?_ ?_) <;> intro h)
      | with_reducible first | refine And.intro ?_ ?_ | refine J_seq ?_ | refine J_block ?_ | refine J_inBlock ?_ | refine rC ?_ | refine rR ?_ | refine rE ?_ | refine rG ?_)
    · have hno' := hno.push (c := 1 + y50) (p := 1 + y2) ⟨by omega, by omega⟩ ⟨by omega, by omega⟩
      refine .mk (ns ++ [⟨nmS 78 ns.length, 1 + y50, 1 + y2⟩], d4) ⟨by simp only [List.length_append, List.length_cons, List.length_nil]; omega, hno', by assumption⟩ (by simp only [List.length_append, List.length_cons, List.length_nil]; omega) ?_ ?_
      · simp [go_sem, encNd]
      · simp
    · have hno' := hno.push (c := 1 + y50) (p := 0) ⟨by omega, by omega⟩ ⟨by omega, by omega⟩
      refine .mk (ns ++ [⟨nmS 78 ns.length, 1 + y50, 0⟩], d3) ⟨by simp only [List.length_append, List.length_cons, List.length_nil]; omega, hno', by assumption⟩ (by simp only [List.length_append, List.length_cons, List.length_nil]; omega) ?_ ?_
      · simp [go_sem, encNd]
      · simp
    · have hno' := hno.push (c := 0) (p := 1 + y2) ⟨by omega, by omega⟩ ⟨by omega, by omega⟩
      refine .mk (ns ++ [⟨nmS 78 ns.length, 0, 1 + y2⟩], d4) ⟨by simp only [List.length_append, List.length_cons, List.length_nil]; omega, hno', by assumption⟩ (by simp only [List.length_append, List.length_cons, List.length_nil]; omega) ?_ ?_
      · simp [go_sem, encNd]
      · simp
    · have hno' := hno.push (c := 0) (p := 0) ⟨by omega, by omega⟩ ⟨by omega, by omega⟩
      refine .mk (ns ++ [⟨nmS 78 ns.length, 0, 0⟩], d3) ⟨by simp only [List.length_append, List.length_cons, List.length_nil]; omega, hno', by assumption⟩ (by simp only [List.length_append, List.length_cons, List.length_nil]; omega) ?_ ?_
      · simp [go_sem, encNd]
      · simp
  have hne : ns.length = k := by omega
  have hM0 : Made k ⟨ns, []⟩ := ⟨hne, hno, fun i hi => absurd hi (by simp)⟩
  refine J_run 200 ?_
  repeat' (first
    | (simp (maxSteps := 1000000) (disch := omega) only [go_sem])
    | ((with_reducible first | refine gDt ?_ ?_ | refine gDf ?_ ?_ | refine gNt ?_ ?_ | refine gNf ?_ ?_ | refine cD ?_ ?_ | refine cN ?_ ?_ | refine cB ?_ ?_ | refine gB ?_ ?_) <;> intro h)
    | with_reducible first | refine And.intro ?_ ?_ | refine J_seq ?_ | refine J_block ?_ | refine J_inBlock ?_ | refine rC ?_ | refine rR ?_ | refine rE ?_ | refine rG ?_ | refine FinQ.now ?_ | refine FinQ.end ?_)
  refine CallA.mutLe [4, 5, 6, 2, 1, 0] ?_ ?_ ?_ ?_ (addD d hd ns [] (by first | omega | decide) 5 0 (-1) most ⟨by omega, by omega⟩) ?_
  · simp only [go_sem]
  · simp only [go_sem]
  · simp only [go_sem]
  · simp only [go_sem]
  rintro _ _ ⟨rfl, d1, hd1, ⟨hge, rfl⟩ | ⟨hlm, comp, hc0, hc7, rfl⟩⟩
  · exfalso; simp at hge; omega
  refine ⟨_, SemLe.reloc (i := 6) (j := 7) ?_ (by decide) ?_ ?_ (by decide) (by decide), ?_⟩
  · simp [go_sem]
  · simp [go_sem]
  · simp [go_sem]
  simp only [go_sem, St.reloc]
  have hM1 := hM0.add (kind := 5) (a := 0) (b := -1) (comp := comp) (dv_ok1 (by omega) (by omega) (by omega) (by omega)) ⟨hc0, hc7⟩
  refine J_for ([13] ++ upto 53 71) (fun x : Nat × List Dv × Dk => [(12, .raw (.int .i64 x.1))]) (fun x => [.box (encDk x.2.2), .box [.ref 0 0], .box [.raw (.int .i64 most)], .box [.raw (.slice none 0 0), .raw (.slice none 0 0)], .box [.own 5 3 0 ns.length, .own 6 5 0 x.2.1.length], .arr 3 (ns.map encNd), .arr 5 (x.2.1.map encDv)]) (fun x => (1 ≤ x.1 ∧ x.1 ≤ k) ∧ Made k ⟨ns, x.2.1⟩ ∧ 1 ≤ x.2.1.length ∧ (x.2.1.length : Int) ≤ most ∧ x.2.2.ok) (fun x => k - x.1) (1, [] ++ [⟨nmS (letterOf 5) ([] : List Dv).length, 5, 0, -1, comp⟩], d1) ⟨by simp only; omega, hM1, by simp, by simp; omega, hd1⟩ (.le (by simp [go_sem]) (by simp)) ?_
  clear hM0 hM1 hc0 hc7 hlm hd hd1 comp d d1
  rintro ⟨i, ds, d⟩ ⟨hi, hM, hl1, hlm, hd⟩
  simp only at hi hM hl1 hlm hd
  by_cases hlt : i < k
  · have xi := fun (d : Dk) (hd : d.ok) => next d hd i ⟨by omega, by omega⟩
    refine J_run 200 ?_
    repeat' (first
      | (simp (maxSteps := 1000000) (disch := omega) only [go_sem])
      | ((with_reducible refine CallA.mut [0] ?_ ?_ ?_ ?_ (b3 _ (by assumption)) ?_); (· simp only [go_sem]); (· simp only [go_sem]); (· simp only [go_sem]); (· simp only [go_sem]); rintro _ _ ⟨v, d1, hd1, rfl, rfl⟩)
      | ((with_reducible refine CallA.mut [0] ?_ ?_ ?_ ?_ (x3 _ (by assumption)) ?_); (· simp only [go_sem]); (· simp only [go_sem]); (· simp only [go_sem]); (· simp only [go_sem]); rintro _ _ ⟨y3, d3, hd3, h30, h31, rfl, rfl⟩)
      | ((with_reducible refine CallA.mut [0] ?_ ?_ ?_ ?_ (xi _ (by assumption)) ?_); (· simp only [go_sem]); (· simp only [go_sem]); (· simp only [go_sem]); (· simp only [go_sem]); rintro _ _ ⟨yi, d2, hd2, hi0, hi1, rfl, rfl⟩)
      | ((with_reducible first | refine gDt ?_ ?_ | refine gDf ?_ ?_ | refine gNt ?_ ?_ | refine gNf ?_ ?_ | refine cD ?_ ?_ | refine cN ?_ ?_ | refine cB ?_ ?_ | refine gB ?_ ?_) <;> intro h)
      | with_reducible first | refine And.intro ?_ ?_ | refine J_seq ?_ | refine J_block ?_ | refine J_inBlock ?_ | refine rC ?_ | refine rR ?_ | refine rE ?_ | refine rG ?_)
    · refine CallA.mutLe [4, 5, 6, 2, 1, 0] ?_ ?_ ?_ ?_ (addD d3 hd3 ns ds (by first | omega | decide) (1 + y3) yi i most ⟨by omega, by omega⟩) ?_
      · simp only [go_sem]
      · simp only [go_sem]
      · simp only [go_sem]
      · simp only [go_sem]
      rintro _ _ ⟨rfl, dz, hdz, ⟨hge, rfl⟩ | ⟨hlm, comp, hc0, hc7, rfl⟩⟩
      · refine ⟨_, SemLe.refl _ _, ?_⟩
        repeat' (first
          | (simp (maxSteps := 1000000) (disch := omega) only [go_sem])
          | ((with_reducible first | refine gDt ?_ ?_ | refine gDf ?_ ?_ | refine gNt ?_ ?_ | refine gNf ?_ ?_ | refine cD ?_ ?_ | refine cN ?_ ?_ | refine cB ?_ ?_ | refine gB ?_ ?_) <;> intro h)
          | with_reducible first | refine And.intro ?_ ?_ | refine J_seq ?_ | refine J_block ?_ | refine J_inBlock ?_ | refine rC ?_ | refine rR ?_ | refine rE ?_ | refine rG ?_)
        refine .mk (i + 1, ds, dz) ⟨by simp only; omega, hM, hl1, hlm, hdz⟩ (by simp only; omega) ?_ ?_
        · simp [go_sem]
        · simp
      refine ⟨_, SemLe.reloc (i := 6) (j := 7) ?_ (by decide) ?_ ?_ (by decide) (by decide), ?_⟩
      · simp [go_sem]
      · simp [go_sem]
      · simp [go_sem]
      simp only [go_sem, St.reloc]
      repeat' (first
        | (simp (maxSteps := 1000000) (disch := omega) only [go_sem])
        | ((with_reducible first | refine gDt ?_ ?_ | refine gDf ?_ ?_ | refine gNt ?_ ?_ | refine gNf ?_ ?_ | refine cD ?_ ?_ | refine cN ?_ ?_ | refine cB ?_ ?_ | refine gB ?_ ?_) <;> intro h)
        | with_reducible first | refine And.intro ?_ ?_ | refine J_seq ?_ | refine J_block ?_ | refine J_inBlock ?_ | refine rC ?_ | refine rR ?_ | refine rE ?_ | refine rG ?_)
      have hM' := hM.add (kind := (1 + y3)) (a := yi) (b := i) (comp := comp) (dv_ok2 (by omega) (by omega) (by omega) (by omega) (by omega) (by omega) (by omega)) ⟨hc0, hc7⟩
      refine .mk (i + 1, ds ++ [⟨nmS (letterOf ((1 + y3))) ds.length, (1 + y3), yi, i, comp⟩], dz) ⟨by simp only; omega, hM', by simp, by simp; omega, hdz⟩ (by simp only; omega) ?_ ?_
      · simp [go_sem]
      · simp
    · refine CallA.mutLe [4, 5, 6, 2, 1, 0] ?_ ?_ ?_ ?_ (addD d3 hd3 ns ds (by first | omega | decide) (1 + y3) (i - 1) i most ⟨by omega, by omega⟩) ?_
      · simp only [go_sem]
      · simp only [go_sem]
      · simp only [go_sem]
      · simp only [go_sem]
      rintro _ _ ⟨rfl, dz, hdz, ⟨hge, rfl⟩ | ⟨hlm, comp, hc0, hc7, rfl⟩⟩
      · refine ⟨_, SemLe.refl _ _, ?_⟩
        repeat' (first
          | (simp (maxSteps := 1000000) (disch := omega) only [go_sem])
          | ((with_reducible first | refine gDt ?_ ?_ | refine gDf ?_ ?_ | refine gNt ?_ ?_ | refine gNf ?_ ?_ | refine cD ?_ ?_ | refine cN ?_ ?_ | refine cB ?_ ?_ | refine gB ?_ ?_) <;> intro h)
          | with_reducible first | refine And.intro ?_ ?_ | refine J_seq ?_ | refine J_block ?_ | refine J_inBlock ?_ | refine rC ?_ | refine rR ?_ | refine rE ?_ | refine rG ?_)
        refine .mk (i + 1, ds, dz) ⟨by simp only; omega, hM, hl1, hlm, hdz⟩ (by simp only; omega) ?_ ?_
        · simp [go_sem]
        · simp
      refine ⟨_, SemLe.reloc (i := 6) (j := 7) ?_ (by decide) ?_ ?_ (by decide) (by decide), ?_⟩
      · simp [go_sem]
      · simp [go_sem]
      · simp [go_sem]
      simp only [go_sem, St.reloc]
      repeat' (first
        | (simp (maxSteps := 1000000) (disch := omega) only [go_sem])
        | ((with_reducible first | refine gDt ?_ ?_ | refine gDf ?_ ?_ | refine gNt ?_ ?_ | refine gNf ?_ ?_ | refine cD ?_ ?_ | refine cN ?_ ?_ | refine cB ?_ ?_ | refine gB ?_ ?_) <;> intro h)
        | with_reducible first | refine And.intro ?_ ?_ | refine J_seq ?_ | refine J_block ?_ | refine J_inBlock ?_ | refine rC ?_ | refine rR ?_ | refine rE ?_ | refine rG ?_)
      have hM' := hM.add (kind := (1 + y3)) (a := (i - 1)) (b := i) (comp := comp) (dv_ok2 (by omega) (by omega) (by omega) (by omega) (by omega) (by omega) (by omega)) ⟨hc0, hc7⟩
      refine .mk (i + 1, ds ++ [⟨nmS (letterOf ((1 + y3))) ds.length, (1 + y3), (i - 1), i, comp⟩], dz) ⟨by simp only; omega, hM', by simp, by simp; omega, hdz⟩ (by simp only; omega) ?_ ?_
      · simp [go_sem]
      · simp
  have hie : i = k := by omega
  clear hlt
  refine J_run 200 ?_
  repeat' (first
    | (simp (maxSteps := 1000000) (disch := omega) only [go_sem])
    | ((with_reducible refine CallA.mut [0] ?_ ?_ ?_ ?_ (x4 _ (by assumption)) ?_); (· simp only [go_sem]); (· simp only [go_sem]); (· simp only [go_sem]); (· simp only [go_sem]); rintro _ _ ⟨y4, d4, hd4, h40, h41, rfl, rfl⟩)
    | ((with_reducible first | refine gDt ?_ ?_ | refine gDf ?_ ?_ | refine gNt ?_ ?_ | refine gNf ?_ ?_ | refine cD ?_ ?_ | refine cN ?_ ?_ | refine cB ?_ ?_ | refine gB ?_ ?_) <;> intro h)
    | with_reducible first | refine And.intro ?_ ?_ | refine J_seq ?_ | refine J_block ?_ | refine J_inBlock ?_ | refine rC ?_ | refine rR ?_ | refine rE ?_ | refine rG ?_ | refine FinQ.now ?_ | refine FinQ.end ?_)
  obtain ⟨j0, hj0⟩ : ∃ j : Nat, (j : Int) = y4 := ⟨y4.toNat, by omega⟩
  subst hj0
  refine J_for ([15, 16] ++ upto 74 114) (fun x : Nat × List Dv × Dk => [(14, .raw (.int .i64 x.1))]) (fun x => [.box (encDk x.2.2), .box [.ref 0 0], .box [.raw (.int .i64 most)], .box [.raw (.slice none 0 0), .raw (.slice none 0 0)], .box [.own 5 3 0 ns.length, .own 6 5 0 x.2.1.length], .arr 3 (ns.map encNd), .arr 5 (x.2.1.map encDv)]) (fun x => x.1 ≤ 4 ∧ Made k ⟨ns, x.2.1⟩ ∧ 1 ≤ x.2.1.length ∧ (x.2.1.length : Int) ≤ most ∧ x.2.2.ok) (fun x => x.1) (j0, ds, d4) ⟨by simp only; omega, hM, hl1, hlm, hd4⟩ (.le (by simp [go_sem]) (by simp)) ?_
  clear hM hl1 hlm hd hd4 h40 h41 d d4 ds
  rintro ⟨j, ds, d⟩ ⟨hj, hM, hl1, hlm, hd⟩
  simp only at hj hM hl1 hlm hd
  have xk := fun (d : Dk) (hd : d.ok) => next d hd k ⟨by omega, by omega⟩
  by_cases hlt : 0 < j
  · have xk1 := fun (d : Dk) (hd : d.ok) => next d hd (k - 1) ⟨by omega, by omega⟩
    refine J_run 200 ?_
    repeat' (first
      | (exfalso; omega)
      | (simp (maxSteps := 1000000) (disch := omega) only [go_sem])
      | ((with_reducible refine CallA.mut [0] ?_ ?_ ?_ ?_ (x4 _ (by assumption)) ?_); (· simp only [go_sem]); (· simp only [go_sem]); (· simp only [go_sem]); (· simp only [go_sem]); rintro _ _ ⟨y4, d4, hd4, h40, h41, rfl, rfl⟩)
      | ((with_reducible refine CallA.mut [0] ?_ ?_ ?_ ?_ (x3 _ (by assumption)) ?_); (· simp only [go_sem]); (· simp only [go_sem]); (· simp only [go_sem]); (· simp only [go_sem]); rintro _ _ ⟨y3, d3, hd3, h30, h31, rfl, rfl⟩)
      | ((with_reducible refine CallA.mut [0] ?_ ?_ ?_ ?_ (xk _ (by assumption)) ?_); (· simp only [go_sem]); (· simp only [go_sem]); (· simp only [go_sem]); (· simp only [go_sem]); rintro _ _ ⟨yk, d2, hd2, hk0, hk1, rfl, rfl⟩)
      | ((with_reducible refine CallA.mut [0] ?_ ?_ ?_ ?_ (xk1 _ (by assumption)) ?_); (· simp only [go_sem]); (· simp only [go_sem]); (· simp only [go_sem]); (· simp only [go_sem]); rintro _ _ ⟨yk1, d5, hd5, hk10, hk11, rfl, rfl⟩)
      | ((with_reducible first | refine gDt ?_ ?_ | refine gDf ?_ ?_ | refine gNt ?_ ?_ | refine gNf ?_ ?_ | refine cD ?_ ?_ | refine cN ?_ ?_ | refine cB ?_ ?_ | refine gB ?_ ?_) <;> intro h)
      | with_reducible first | refine And.intro ?_ ?_ | refine J_seq ?_ | refine J_block ?_ | refine J_inBlock ?_ | refine rC ?_ | refine rR ?_ | refine rE ?_ | refine rG ?_)
    · have hr := rem_ne (k := k) hk0 (by omega) hk10 (by omega)
      refine CallA.mutLe [4, 5, 6, 2, 1, 0] ?_ ?_ ?_ ?_ (addD d3 hd3 ns ds (by first | omega | decide) (1 + y3) yk ((yk + 1 + yk1).tmod k) most ⟨by omega, by omega⟩) ?_
      · simp only [go_sem]
      · simp only [go_sem]
      · simp only [go_sem]
      · simp only [go_sem]
      rintro _ _ ⟨rfl, dz, hdz, ⟨hge, rfl⟩ | ⟨hlm, comp, hc0, hc7, rfl⟩⟩
      · refine ⟨_, SemLe.refl _ _, ?_⟩
        repeat' (first
          | (simp (maxSteps := 1000000) (disch := omega) only [go_sem])
          | ((with_reducible first | refine gDt ?_ ?_ | refine gDf ?_ ?_ | refine gNt ?_ ?_ | refine gNf ?_ ?_ | refine cD ?_ ?_ | refine cN ?_ ?_ | refine cB ?_ ?_ | refine gB ?_ ?_) <;> intro h)
          | with_reducible first | refine And.intro ?_ ?_ | refine J_seq ?_ | refine J_block ?_ | refine J_inBlock ?_ | refine rC ?_ | refine rR ?_ | refine rE ?_ | refine rG ?_)
        refine .mk (j - 1, ds, dz) ⟨by simp only; omega, hM, hl1, hlm, hdz⟩ (by simp only; omega) ?_ ?_
        · simp [go_sem]; omega
        · simp
      refine ⟨_, SemLe.reloc (i := 6) (j := 7) ?_ (by decide) ?_ ?_ (by decide) (by decide), ?_⟩
      · simp [go_sem]
      · simp [go_sem]
      · simp [go_sem]
      simp only [go_sem, St.reloc]
      repeat' (first
        | (simp (maxSteps := 1000000) (disch := omega) only [go_sem])
        | ((with_reducible first | refine gDt ?_ ?_ | refine gDf ?_ ?_ | refine gNt ?_ ?_ | refine gNf ?_ ?_ | refine cD ?_ ?_ | refine cN ?_ ?_ | refine cB ?_ ?_ | refine gB ?_ ?_) <;> intro h)
        | with_reducible first | refine And.intro ?_ ?_ | refine J_seq ?_ | refine J_block ?_ | refine J_inBlock ?_ | refine rC ?_ | refine rR ?_ | refine rE ?_ | refine rG ?_)
      have hM' := hM.add (kind := (1 + y3)) (a := yk) (b := ((yk + 1 + yk1).tmod k)) (comp := comp) (dv_ok2 (by omega) (by omega) (by omega) (by omega) hr.1 hr.2.1 hr.2.2) ⟨hc0, hc7⟩
      refine .mk (j - 1, ds ++ [⟨nmS (letterOf ((1 + y3))) ds.length, (1 + y3), yk, ((yk + 1 + yk1).tmod k), comp⟩], dz) ⟨by simp only; omega, hM', by simp, by simp; omega, hdz⟩ (by simp only; omega) ?_ ?_
      · simp [go_sem]; omega
      · simp
    · refine CallA.mutLe [4, 5, 6, 2, 1, 0] ?_ ?_ ?_ ?_ (addD d2 hd2 ns ds (by first | omega | decide) 5 yk (-1) most ⟨by omega, by omega⟩) ?_
      · simp only [go_sem]
      · simp only [go_sem]
      · simp only [go_sem]
      · simp only [go_sem]
      rintro _ _ ⟨rfl, dz, hdz, ⟨hge, rfl⟩ | ⟨hlm, comp, hc0, hc7, rfl⟩⟩
      · refine ⟨_, SemLe.refl _ _, ?_⟩
        repeat' (first
          | (simp (maxSteps := 1000000) (disch := omega) only [go_sem])
          | ((with_reducible first | refine gDt ?_ ?_ | refine gDf ?_ ?_ | refine gNt ?_ ?_ | refine gNf ?_ ?_ | refine cD ?_ ?_ | refine cN ?_ ?_ | refine cB ?_ ?_ | refine gB ?_ ?_) <;> intro h)
          | with_reducible first | refine And.intro ?_ ?_ | refine J_seq ?_ | refine J_block ?_ | refine J_inBlock ?_ | refine rC ?_ | refine rR ?_ | refine rE ?_ | refine rG ?_)
        refine .mk (j - 1, ds, dz) ⟨by simp only; omega, hM, hl1, hlm, hdz⟩ (by simp only; omega) ?_ ?_
        · simp [go_sem]; omega
        · simp
      refine ⟨_, SemLe.reloc (i := 6) (j := 7) ?_ (by decide) ?_ ?_ (by decide) (by decide), ?_⟩
      · simp [go_sem]
      · simp [go_sem]
      · simp [go_sem]
      simp only [go_sem, St.reloc]
      repeat' (first
        | (simp (maxSteps := 1000000) (disch := omega) only [go_sem])
        | ((with_reducible first | refine gDt ?_ ?_ | refine gDf ?_ ?_ | refine gNt ?_ ?_ | refine gNf ?_ ?_ | refine cD ?_ ?_ | refine cN ?_ ?_ | refine cB ?_ ?_ | refine gB ?_ ?_) <;> intro h)
        | with_reducible first | refine And.intro ?_ ?_ | refine J_seq ?_ | refine J_block ?_ | refine J_inBlock ?_ | refine rC ?_ | refine rR ?_ | refine rE ?_ | refine rG ?_)
      have hM' := hM.add (kind := 5) (a := yk) (b := (-1)) (comp := comp) (dv_ok1 (by omega) (by omega) (by omega) (by omega)) ⟨hc0, hc7⟩
      refine .mk (j - 1, ds ++ [⟨nmS (letterOf (5)) ds.length, 5, yk, (-1), comp⟩], dz) ⟨by simp only; omega, hM', by simp, by simp; omega, hdz⟩ (by simp only; omega) ?_ ?_
      · simp [go_sem]; omega
      · simp
    · refine CallA.mutLe [4, 5, 6, 2, 1, 0] ?_ ?_ ?_ ?_ (addD d2 hd2 ns ds (by first | omega | decide) 6 yk (-1) most ⟨by omega, by omega⟩) ?_
      · simp only [go_sem]
      · simp only [go_sem]
      · simp only [go_sem]
      · simp only [go_sem]
      rintro _ _ ⟨rfl, dz, hdz, ⟨hge, rfl⟩ | ⟨hlm, comp, hc0, hc7, rfl⟩⟩
      · refine ⟨_, SemLe.refl _ _, ?_⟩
        repeat' (first
          | (simp (maxSteps := 1000000) (disch := omega) only [go_sem])
          | ((with_reducible first | refine gDt ?_ ?_ | refine gDf ?_ ?_ | refine gNt ?_ ?_ | refine gNf ?_ ?_ | refine cD ?_ ?_ | refine cN ?_ ?_ | refine cB ?_ ?_ | refine gB ?_ ?_) <;> intro h)
          | with_reducible first | refine And.intro ?_ ?_ | refine J_seq ?_ | refine J_block ?_ | refine J_inBlock ?_ | refine rC ?_ | refine rR ?_ | refine rE ?_ | refine rG ?_)
        refine .mk (j - 1, ds, dz) ⟨by simp only; omega, hM, hl1, hlm, hdz⟩ (by simp only; omega) ?_ ?_
        · simp [go_sem]; omega
        · simp
      refine ⟨_, SemLe.reloc (i := 6) (j := 7) ?_ (by decide) ?_ ?_ (by decide) (by decide), ?_⟩
      · simp [go_sem]
      · simp [go_sem]
      · simp [go_sem]
      simp only [go_sem, St.reloc]
      repeat' (first
        | (simp (maxSteps := 1000000) (disch := omega) only [go_sem])
        | ((with_reducible first | refine gDt ?_ ?_ | refine gDf ?_ ?_ | refine gNt ?_ ?_ | refine gNf ?_ ?_ | refine cD ?_ ?_ | refine cN ?_ ?_ | refine cB ?_ ?_ | refine gB ?_ ?_) <;> intro h)
        | with_reducible first | refine And.intro ?_ ?_ | refine J_seq ?_ | refine J_block ?_ | refine J_inBlock ?_ | refine rC ?_ | refine rR ?_ | refine rE ?_ | refine rG ?_)
      have hM' := hM.add (kind := 6) (a := yk) (b := (-1)) (comp := comp) (dv_ok1 (by omega) (by omega) (by omega) (by omega)) ⟨hc0, hc7⟩
      refine .mk (j - 1, ds ++ [⟨nmS (letterOf (6)) ds.length, 6, yk, (-1), comp⟩], dz) ⟨by simp only; omega, hM', by simp, by simp; omega, hdz⟩ (by simp only; omega) ?_ ?_
      · simp [go_sem]; omega
      · simp
    · refine .mk (j - 1, ds, d4) ⟨by simp only; omega, hM, hl1, hlm, hd4⟩ (by simp only; omega) ?_ ?_
      · simp [go_sem]
        omega
      · simp
  have hj0 : j = 0 := by omega
  subst hj0
  refine J_run 200 ?_
  repeat' (first
    | (simp (maxSteps := 1000000) (disch := omega) only [go_sem])
    | ((with_reducible refine CallA.mut [0] ?_ ?_ ?_ ?_ (x3 _ (by assumption)) ?_); (· simp only [go_sem]); (· simp only [go_sem]); (· simp only [go_sem]); (· simp only [go_sem]); rintro _ _ ⟨y3, d3, hd3, h30, h31, rfl, rfl⟩)
    | ((with_reducible first | refine gDt ?_ ?_ | refine gDf ?_ ?_ | refine gNt ?_ ?_ | refine gNf ?_ ?_ | refine cD ?_ ?_ | refine cN ?_ ?_ | refine cB ?_ ?_ | refine gB ?_ ?_) <;> intro h)
    | with_reducible first | refine And.intro ?_ ?_ | refine J_seq ?_ | refine J_block ?_ | refine J_inBlock ?_ | refine rC ?_ | refine rR ?_ | refine rE ?_ | refine rG ?_ | refine FinQ.now ?_ | refine FinQ.end ?_)
  obtain ⟨j0, hj0⟩ : ∃ j : Nat, (j : Int) = 1 + y3 := ⟨(1 + y3).toNat, by omega⟩
  rw [← hj0]
  refine J_for (upto 118 126) (fun x : Nat × List Dv × Dk => [(17, .raw (.int .i64 x.1))]) (fun x => [.box (encDk x.2.2), .box [.ref 0 0], .box [.raw (.int .i64 most)], .box [.raw (.slice none 0 0), .raw (.slice none 0 0)], .box [.own 5 3 0 ns.length, .own 6 5 0 x.2.1.length], .arr 3 (ns.map encNd), .arr 5 (x.2.1.map encDv)]) (fun x => x.1 ≤ 4 ∧ Made k ⟨ns, x.2.1⟩ ∧ 1 ≤ x.2.1.length ∧ (x.2.1.length : Int) ≤ most ∧ x.2.2.ok) (fun x => x.1) (j0, ds, d3) ⟨by simp only; omega, hM, hl1, hlm, hd3⟩ (.le (by simp [go_sem]) (by simp)) ?_
  clear hj hM hl1 hlm hd hd3 h30 h31 hj0 d d3 ds
  rintro ⟨j, ds, d⟩ ⟨hj, hM, hl1, hlm, hd⟩
  simp only at hj hM hl1 hlm hd
  clear hlt
  by_cases hlt : 0 < j
  · refine J_run 200 ?_
    repeat' (first
      | (exfalso; omega)
      | (simp (maxSteps := 1000000) (disch := omega) only [go_sem])
      | ((with_reducible refine CallA.mut [0] ?_ ?_ ?_ ?_ (xk _ (by assumption)) ?_); (· simp only [go_sem]); (· simp only [go_sem]); (· simp only [go_sem]); (· simp only [go_sem]); rintro _ _ ⟨yk, d2, hd2, hk0, hk1, rfl, rfl⟩)
      | ((with_reducible first | refine gDt ?_ ?_ | refine gDf ?_ ?_ | refine gNt ?_ ?_ | refine gNf ?_ ?_ | refine cD ?_ ?_ | refine cN ?_ ?_ | refine cB ?_ ?_ | refine gB ?_ ?_) <;> intro h)
      | with_reducible first | refine And.intro ?_ ?_ | refine J_seq ?_ | refine J_block ?_ | refine J_inBlock ?_ | refine rC ?_ | refine rR ?_ | refine rE ?_ | refine rG ?_)
    refine CallA.mutLe [4, 5, 6, 2, 1, 0] ?_ ?_ ?_ ?_ (addD d2 hd2 ns ds (by first | omega | decide) 4 yk (-1) most ⟨by omega, by omega⟩) ?_
    · simp only [go_sem]
    · simp only [go_sem]
    · simp only [go_sem]
    · simp only [go_sem]
    rintro _ _ ⟨rfl, dz, hdz, ⟨hge, rfl⟩ | ⟨hlm, comp, hc0, hc7, rfl⟩⟩
    · refine ⟨_, SemLe.refl _ _, ?_⟩
      repeat' (first
        | (simp (maxSteps := 1000000) (disch := omega) only [go_sem])
        | ((with_reducible first | refine gDt ?_ ?_ | refine gDf ?_ ?_ | refine gNt ?_ ?_ | refine gNf ?_ ?_ | refine cD ?_ ?_ | refine cN ?_ ?_ | refine cB ?_ ?_ | refine gB ?_ ?_) <;> intro h)
        | with_reducible first | refine And.intro ?_ ?_ | refine J_seq ?_ | refine J_block ?_ | refine J_inBlock ?_ | refine rC ?_ | refine rR ?_ | refine rE ?_ | refine rG ?_)
      refine .mk (j - 1, ds, dz) ⟨by simp only; omega, hM, hl1, hlm, hdz⟩ (by simp only; omega) ?_ ?_
      · simp [go_sem]; omega
      · simp
    refine ⟨_, SemLe.reloc (i := 6) (j := 7) ?_ (by decide) ?_ ?_ (by decide) (by decide), ?_⟩
    · simp [go_sem]
    · simp [go_sem]
    · simp [go_sem]
    simp only [go_sem, St.reloc]
    repeat' (first
      | (simp (maxSteps := 1000000) (disch := omega) only [go_sem])
      | ((with_reducible first | refine gDt ?_ ?_ | refine gDf ?_ ?_ | refine gNt ?_ ?_ | refine gNf ?_ ?_ | refine cD ?_ ?_ | refine cN ?_ ?_ | refine cB ?_ ?_ | refine gB ?_ ?_) <;> intro h)
      | with_reducible first | refine And.intro ?_ ?_ | refine J_seq ?_ | refine J_block ?_ | refine J_inBlock ?_ | refine rC ?_ | refine rR ?_ | refine rE ?_ | refine rG ?_)
    have hM' := hM.add (kind := 4) (a := yk) (b := (-1)) (comp := comp) (dv_ok1 (by omega) (by omega) (by omega) (by omega)) ⟨hc0, hc7⟩
    refine .mk (j - 1, ds ++ [⟨nmS (letterOf (4)) ds.length, 4, yk, (-1), comp⟩], dz) ⟨by simp only; omega, hM', by simp, by simp; omega, hdz⟩ (by simp only; omega) ?_ ?_
    · simp [go_sem]; omega
    · simp
  have hj0 : j = 0 := by omega
  subst hj0
  refine J_run 200 ?_
  repeat' (first
    | (simp (maxSteps := 1000000) (disch := omega) only [go_sem])
    | ((with_reducible first | refine gDt ?_ ?_ | refine gDf ?_ ?_ | refine gNt ?_ ?_ | refine gNf ?_ ?_ | refine cD ?_ ?_ | refine cN ?_ ?_ | refine cB ?_ ?_ | refine gB ?_ ?_) <;> intro h)
    | with_reducible first | refine And.intro ?_ ?_ | refine J_seq ?_ | refine J_block ?_ | refine J_inBlock ?_ | refine rC ?_ | refine rR ?_ | refine rE ?_ | refine rG ?_)
  refine .frz [5, 6] (.now ?_)
  simp only [go_sem]
  exact ⟨⟨ns, ds⟩, k, d, hd, hM, hk2, hkm, hlm, hl1, by simp [encNet, List.take_of_length_le], rfl⟩
end Go.Proofs.YthgcmeniecaemaaGreatDoor.Abs
