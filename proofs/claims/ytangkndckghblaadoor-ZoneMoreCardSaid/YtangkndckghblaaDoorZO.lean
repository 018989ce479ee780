/- zone.Check, zone.region, zone.at, zone.check: what they compute. -/
import Derived.Test.YtangkndckghblaaDoorZB
import Derived.Test.YtangkndckghblaaDoorZK
import Derived.Test.YtangkndckghblaaDoorZN
import Derived.Test.YtangkndckghblaaDoorAbsP
namespace Go.Proofs.YtangkndckghblaaDoor.Abs
set_option linter.unusedSimpArgs false
set_option linter.unusedVariables false
set_option maxRecDepth 100000
open Go Go.RowKit

theorem flatB (l : List Bool) : (Obj.arr 1 (l.map encB)).flat := by
  intro x hx
  obtain ⟨b, _, rfl⟩ := List.mem_map.1 hx
  rfl
theorem region1 (gaps : List Int) (hl : gaps.length ≤ 1000000) (i : Int) : Fn1 Tryd.prog GT0 65 [.raw (.int .i64 i), .cptr [.lst 1 (gaps.map encN)]] (.raw (.bool (!decide (i ∈ gaps)))) [] := by
  have c := contains gaps i (by omega)
  refine holds_of Tryd.func65 rfl rfl ?_
  refine J_run 200 ?_
  delta Tryd.f65
  repeat' (first
    | (simp (maxSteps := 1000000) (disch := omega) only [go_sem])
    | ((with_reducible refine CallA.pure c ?_ ?_); (· simp only [go_sem]); rintro _ _ ⟨rfl, rfl⟩)
    | ((with_reducible first | refine gDt ?_ ?_ | refine gDf ?_ ?_ | refine gNt ?_ ?_ | refine gNf ?_ ?_ | refine cD ?_ ?_ | refine cN ?_ ?_ | refine cB ?_ ?_ | refine gB ?_ ?_) <;> intro h)
    | with_reducible first | refine And.intro ?_ ?_ | refine J_seq ?_ | refine J_block ?_ | refine J_inBlock ?_ | refine rC ?_ | refine rR ?_ | refine rE ?_ | refine rG ?_ | refine FinQ.now ?_ | refine FinQ.end ?_)
theorem region2 (v : Int) : Fn1 Tryd.prog GT0 68 [.raw (.int .i64 v)] (.raw (.bool false)) [] := by
  refine holds_of Tryd.func68 rfl rfl ?_
  refine J_run 200 ?_
  delta Tryd.f68
  repeat' (first
    | (simp (maxSteps := 1000000) (disch := omega) only [go_sem])
    | ((with_reducible first | refine gDt ?_ ?_ | refine gDf ?_ ?_ | refine gNt ?_ ?_ | refine gNf ?_ ?_ | refine cD ?_ ?_ | refine cN ?_ ?_ | refine cB ?_ ?_ | refine gB ?_ ?_) <;> intro h)
    | with_reducible first | refine And.intro ?_ ?_ | refine J_seq ?_ | refine J_block ?_ | refine J_inBlock ?_ | refine rC ?_ | refine rR ?_ | refine rE ?_ | refine rG ?_ | refine FinQ.now ?_ | refine FinQ.end ?_)
theorem regionO (n : Net) (hn : n.ok) (zone gaps : List Int) (hz : ∀ x, x ∈ zone → 0 ≤ x ∧ x < n.nodes.length) (hzl : zone.length ≤ 1000000) (hgl : gaps.length ≤ 1000000) :
    Fn1 Tryd.prog GT0 44 [.agg (encNet n), .lst 1 (zone.map encN), .lst 1 (gaps.map encN)] (.own 0 1 0 n.nodes.length) [.arr 1 ((regB n zone gaps).map encB)] := by
  have c := floodF n hn zone hz hzl 65 [.cptr [.lst 1 (gaps.map encN)]] rfl (fun i => (i : Int) ∉ gaps) (fun i _ => ⟨!decide ((i : Int) ∈ gaps), by simp, region1 gaps hgl i⟩) 68 [] rfl (fun _ => False) (fun v _ _ => ⟨false, by simp, region2 v⟩)
  refine holds_of Tryd.func44 rfl rfl ?_
  refine J_run 200 ?_
  delta Tryd.f44
  simp only [encNet] at c ⊢
  repeat' (first
    | (simp (maxSteps := 1000000) (disch := omega) only [go_sem])
    | ((with_reducible first | refine gDt ?_ ?_ | refine gDf ?_ ?_ | refine gNt ?_ ?_ | refine gNf ?_ ?_ | refine cD ?_ ?_ | refine cN ?_ ?_ | refine cB ?_ ?_ | refine gB ?_ ?_) <;> intro h)
    | with_reducible first | refine And.intro ?_ ?_ | refine J_seq ?_ | refine J_block ?_ | refine J_inBlock ?_ | refine rC ?_ | refine rR ?_ | refine rE ?_ | refine rG ?_)
  refine CallA.keep [1] ?_ ?_ c ?_
  · simp only [go_sem]
  · simp only [go_sem]
  rintro _ _ ⟨rfl, rfl⟩
  refine ⟨⟨rfl, fun o ho => by rw [List.mem_singleton] at ho; subst ho; exact flatB _⟩, ?_⟩
  repeat' (first
    | (simp (maxSteps := 1000000) (disch := omega) only [go_sem])
    | ((with_reducible first | refine gDt ?_ ?_ | refine gDf ?_ ?_ | refine gNt ?_ ?_ | refine gNf ?_ ?_ | refine cD ?_ ?_ | refine cN ?_ ?_ | refine cB ?_ ?_ | refine gB ?_ ?_) <;> intro h)
    | with_reducible first | refine And.intro ?_ ?_ | refine J_seq ?_ | refine J_block ?_ | refine J_inBlock ?_ | refine rC ?_ | refine rR ?_ | refine rE ?_ | refine rG ?_)
  refine .now ?_
  simp only [go_sem]
  rfl
theorem regionF (n : Net) (hn : n.ok) (zone gaps : List Int) (hz : ∀ x, x ∈ zone → 0 ≤ x ∧ x < n.nodes.length) (hzl : zone.length ≤ 1000000) (hgl : gaps.length ≤ 1000000) :
    Fn1 Tryd.prog GT0 44 [.agg (encNet n), .lst 1 (zone.map encN), .lst 1 (gaps.map encN)] (.lst 1 ((regB n zone gaps).map encB)) [] := by
  refine (regionO n hn zone gaps hz hzl hgl).lst _ ?_
  simp only [AV.leafs, frzOwn, if_true, List.drop_zero]
  rw [List.take_of_length_le (by simpa using Nat.le_of_eq regB_len)]
theorem at_ (r : List Bool) (x : Dv) (ha : 0 ≤ x.a ∧ x.a < r.length) (hb : joinsK x.kind = true → 0 ≤ x.b ∧ x.b < r.length) : Fn1 Tryd.prog GT0 45 [.lst 1 (r.map encB), .agg (encDv x)] (.raw (.bool (r.getD x.a.toNat false || (joinsK x.kind && r.getD x.b.toNat false)))) [] := by
  have c := joins x.kind
  have hA := getD_B (l := r) (i := x.a.toNat) (by omega)
  have hA' : r.getD x.a.toNat false = r[x.a.toNat] := by simp [List.getD_eq_getElem?_getD, show x.a.toNat < r.length by omega]
  refine holds_of Tryd.func45 rfl rfl ?_
  refine J_run 200 ?_
  delta Tryd.f45
  simp only [encDv]
  rw [hA']
  obtain ⟨o, ho⟩ : ∃ o, r[x.a.toNat]'(by omega) = o := ⟨_, rfl⟩
  rw [ho] at hA ⊢
  cases o with
  | true =>
    repeat' (first
      | (simp (maxSteps := 1000000) (disch := omega) only [go_sem, hA])
      | ((with_reducible refine CallA.pure c ?_ ?_); (· simp only [go_sem]); rintro _ _ ⟨rfl, rfl⟩)
      | ((with_reducible first | refine gDt ?_ ?_ | refine gDf ?_ ?_ | refine gNt ?_ ?_ | refine gNf ?_ ?_ | refine cD ?_ ?_ | refine cN ?_ ?_ | refine cB ?_ ?_ | refine gB ?_ ?_) <;> intro h)
      | with_reducible first | refine And.intro ?_ ?_ | refine J_seq ?_ | refine J_block ?_ | refine J_inBlock ?_ | refine rC ?_ | refine rR ?_ | refine rE ?_ | refine rG ?_ | refine FinQ.now ?_ | refine FinQ.end ?_)
  | false =>
    cases hj : joinsK x.kind with
    | false =>
      rw [hj] at c
      repeat' (first
        | (simp (maxSteps := 1000000) (disch := omega) only [go_sem, hA])
        | ((with_reducible refine CallA.pure c ?_ ?_); (· simp only [go_sem]); rintro _ _ ⟨rfl, rfl⟩)
        | ((with_reducible first | refine gDt ?_ ?_ | refine gDf ?_ ?_ | refine gNt ?_ ?_ | refine gNf ?_ ?_ | refine cD ?_ ?_ | refine cN ?_ ?_ | refine cB ?_ ?_ | refine gB ?_ ?_) <;> intro h)
        | with_reducible first | refine And.intro ?_ ?_ | refine J_seq ?_ | refine J_block ?_ | refine J_inBlock ?_ | refine rC ?_ | refine rR ?_ | refine rE ?_ | refine rG ?_ | refine FinQ.now ?_ | refine FinQ.end ?_)
    | true =>
      rw [hj] at c
      have hb' := hb hj
      have hB := getD_B (l := r) (i := x.b.toNat) (by omega)
      have hB' : r.getD x.b.toNat false = r[x.b.toNat] := by simp [List.getD_eq_getElem?_getD, show x.b.toNat < r.length by omega]
      rw [hB']
      repeat' (first
        | (simp (maxSteps := 1000000) (disch := omega) only [go_sem, hA, hB])
        | ((with_reducible refine CallA.pure c ?_ ?_); (· simp only [go_sem]); rintro _ _ ⟨rfl, rfl⟩)
        | ((with_reducible first | refine gDt ?_ ?_ | refine gDf ?_ ?_ | refine gNt ?_ ?_ | refine gNf ?_ ?_ | refine cD ?_ ?_ | refine cN ?_ ?_ | refine cB ?_ ?_ | refine gB ?_ ?_) <;> intro h)
        | with_reducible first | refine And.intro ?_ ?_ | refine J_seq ?_ | refine J_block ?_ | refine J_inBlock ?_ | refine rC ?_ | refine rR ?_ | refine rE ?_ | refine rG ?_ | refine FinQ.now ?_ | refine FinQ.end ?_)
theorem checkZ (n : Net) (hs : n.sized) (zone : List Int) (hzl : zone.length ≤ 1000000) : Fn1 Tryd.prog GT0 32 [.agg (encNet n), .lst 1 (zone.map encN)] (.raw (.int .i64 (zoneChk n zone))) [] := by
  have h1 := hs.nl
  have c := netCheck n hs
  have cr := risingF zone n.nodes.length hzl
  refine holds_of Tryd.func32 rfl rfl ?_
  refine J_run 200 ?_
  delta Tryd.f32
  simp only [encNet] at c ⊢
  repeat' (first
    | (exfalso; omega)
    | (simp (maxSteps := 1000000) (disch := omega) only [go_sem])
    | ((with_reducible refine CallA.pure c ?_ ?_); (· simp only [go_sem]); rintro _ _ ⟨rfl, rfl⟩)
    | ((with_reducible refine CallA.pure cr ?_ ?_); (· simp only [go_sem]); rintro _ _ ⟨rfl, rfl⟩)
    | ((with_reducible first | refine gDt ?_ ?_ | refine gDf ?_ ?_ | refine gNt ?_ ?_ | refine gNf ?_ ?_ | refine cD ?_ ?_ | refine cN ?_ ?_ | refine cB ?_ ?_ | refine gB ?_ ?_) <;> intro h)
    | with_reducible first | refine And.intro ?_ ?_ | refine J_seq ?_ | refine J_block ?_ | refine J_inBlock ?_ | refine rC ?_ | refine rR ?_ | refine rE ?_ | refine rG ?_ | refine FinQ.now ?_ | refine FinQ.end ?_)
  all_goals first | (simp_all [zoneChk, List.length_eq_zero_iff]; done) | (simp_all [zoneChk, List.length_eq_zero_iff]; omega) | omega
theorem at_n (n : Net) (hn : n.ok) (zone gaps : List Int) (i : Nat) (hi : i < n.devs.length) : Fn1 Tryd.prog GT0 45 [.lst 1 ((regB n zone gaps).map encB), .agg (encDv n.devs[i])] (.raw (.bool (atB n zone gaps i))) [] := by
  have hd := hn.dev' hi
  have hL := regB_len (n := n) (zone := zone) (gaps := gaps)
  have c := at_ (regB n zone gaps) n.devs[i] ⟨hd.a0, by rw [hL]; exact hd.al⟩ (fun hj => by have := hd.j hj; rw [hL]; exact ⟨this.1, this.2.1⟩)
  have e : atB n zone gaps i = ((regB n zone gaps).getD n.devs[i].a.toNat false || (joinsK n.devs[i].kind && (regB n zone gaps).getD n.devs[i].b.toNat false)) := by
    have ha := hd.a0; have hal := hd.al
    have hA : (regB n zone gaps).getD n.devs[i].a.toNat false = true ↔ RG n zone gaps n.devs[i].a.toNat := by
      have h : n.devs[i].a.toNat < (regB n zone gaps).length := by omega
      rw [← regB_at h]; simp [List.getD_eq_getElem?_getD, h]
    have hB : joinsK n.devs[i].kind = true → ((regB n zone gaps).getD n.devs[i].b.toNat false = true ↔ RG n zone gaps n.devs[i].b.toNat) := fun hj => by
      have := hd.j hj
      have h : n.devs[i].b.toNat < (regB n zone gaps).length := by omega
      rw [← regB_at h]; simp [List.getD_eq_getElem?_getD, h]
    rw [Bool.eq_iff_iff]
    simp only [atB, decide_eq_true_eq, Bool.or_eq_true, Bool.and_eq_true, Int.toNat_natCast, List.getElem?_eq_getElem hi, Option.some.injEq]
    constructor
    · rintro ⟨d, rfl, h | ⟨h, h'⟩⟩
      · exact .inl (hA.2 h)
      · exact .inr ⟨h, (hB h).2 h'⟩
    · rintro (h | ⟨h, h'⟩)
      · exact ⟨_, rfl, .inl (hA.1 h)⟩
      · exact ⟨_, rfl, .inr ⟨h, (hB h).1 h'⟩⟩
  rw [e]
  exact c
end Go.Proofs.YtangkndckghblaaDoor.Abs
