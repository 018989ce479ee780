/- Package-level variables whose data are known: their cells, and contracts that ask for them. -/
import Derived.Test.YtangkndckghblaaDoorAbsO
import Derived.Test.YtangkndckghblaaDoorAbsN
import Derived.MakeChecks
namespace Go.Proofs.YtangkndckghblaaDoor.Abs
set_option linter.unusedSimpArgs false
set_option linter.unusedVariables false
open Go Go.RowKit

mutual
/-- The cells of a datum without memory of its own, at a type. -/
def fitD (P : Program) : Nat → TypeId → DataW Unit → Option (List Value)
  | 0, _, _ => none
  | n + 1, t, d => match P.underlying t with
    | some .bool => match d with
      | .lit (.bool b) => some [.bool b]
      | _ => none
    | some (.int k) => match d with
      | .lit (.int k' m) => if k' = k then some [.int k m] else none
      | _ => none
    | some .string => match d with
      | .lit (.string l) => some [.string ⟨l.toArray⟩]
      | _ => none
    | some (.struct fs) => match d with
      | .agg ds => (fitL P n (fs.toList.map fun f => (f.offset, f.type)) ds 0).bind fun vs => if vs.length = P.cellsOf t then some vs else none
      | _ => none
    | some (.array m e) => match d with
      | .agg ds => (fitL P n ((List.range m).map fun i => (i * P.cellsOf e, e)) ds 0).bind fun vs => if vs.length = P.cellsOf t then some vs else none
      | _ => none
    | _ => none
def fitL (P : Program) : Nat → List (Nat × TypeId) → List (DataW Unit) → Nat → Option (List Value)
  | 0, _, _, _ => none
  | _ + 1, [], [], _ => some []
  | n + 1, f :: fs, d :: ds, off => (fitD P n f.2 d).bind fun vs => (fitL P n fs ds (off + P.cellsOf f.2)).bind fun ws => if f.1 = off ∧ vs.length = P.cellsOf f.2 then some (vs ++ ws) else none
  | _ + 1, _, _, _ => none
end

section
variable {P : Program} {w : World}

theorem fit_sound (k : Nat) : (∀ (t : TypeId) (d : DataW Unit) (vs : List Value), fitD P k t d = some vs → ∀ (m : Nat) (cs : List Value) (ps : List MemPlace), DataW.trod (fun _ => ()) P w 0 (fun _ => true) false m t cs = some (d, ps) → cs = vs) ∧
    (∀ (fs : List (Nat × TypeId)) (ds : List (DataW Unit)) (off : Nat) (vs : List Value), fitL P k fs ds off = some vs → ∀ (m : Nat) (cs : List Value), off + vs.length = cs.length →
      (∀ (i : Nat) (f : Nat × TypeId) (d : DataW Unit), fs[i]? = some f → ds[i]? = some d → ∃ ps, DataW.trod (fun _ => ()) P w 0 (fun _ => true) false m f.2 ((cs.drop f.1).take (P.cellsOf f.2)) = some (d, ps)) → cs.drop off = vs) := by
  induction k with
  | zero => exact ⟨fun t d vs h => by simp [fitD] at h, fun fs ds off vs h => by simp [fitL] at h⟩
  | succ k ih =>
    constructor
    · intro t d vs h m cs ps ht
      unfold fitD at h
      split at h
      · rename_i hu
        obtain ⟨b, rfl, hx⟩ := DataW.trod_bool hu ht
        obtain ⟨rfl, _⟩ := Prod.mk.inj hx
        exact Option.some.inj h
      · rename_i k1 hu
        obtain ⟨b, rfl, hx, _⟩ := DataW.trod_int hu ht
        obtain ⟨rfl, _⟩ := Prod.mk.inj hx
        simp only [if_true] at h
        exact Option.some.inj h
      · rename_i hu
        obtain ⟨b, rfl, hx, _⟩ := DataW.trod_string hu ht
        obtain ⟨rfl, _⟩ := Prod.mk.inj hx
        simp only [Option.some.injEq] at h
        subst h
        rfl
      · rename_i fs hu
        obtain ⟨xs, n, _, hx, hl, hxl, hxs⟩ := DataW.trod_struct hu ht
        obtain ⟨rfl, _⟩ := Prod.mk.inj hx
        simp only [Option.bind_eq_some_iff] at h
        obtain ⟨ws, h1, h2⟩ := h
        split at h2
        · rename_i hlen
          obtain rfl := Option.some.inj h2
          have := ih.2 _ _ _ _ h1 n cs (by omega) fun i f d hf hd => by
            rw [List.getElem?_map] at hf hd
            cases hfi : fs.toList[i]? with
            | none => rw [hfi] at hf; cases hf
            | some g =>
              rw [hfi] at hf
              obtain rfl := Option.some.inj hf
              cases hdi : xs[i]? with
              | none => rw [hdi] at hd; cases hd
              | some y =>
                rw [hdi] at hd
                obtain rfl := Option.some.inj hd
                exact ⟨y.2, (hxs i g (by simpa using hfi)).trans hdi⟩
          simpa using this
        · cases h2
      · rename_i m' e hu
        obtain ⟨xs, n, _, hx, hl, hxl, hxs⟩ := DataW.trod_array hu ht
        obtain ⟨rfl, _⟩ := Prod.mk.inj hx
        simp only [Option.bind_eq_some_iff] at h
        obtain ⟨ws, h1, h2⟩ := h
        split at h2
        · rename_i hlen
          obtain rfl := Option.some.inj h2
          have := ih.2 _ _ _ _ h1 n cs (by omega) fun i f d hf hd => by
            rw [List.getElem?_map] at hf hd
            cases hfi : (List.range m')[i]? with
            | none => rw [hfi] at hf; cases hf
            | some g =>
              rw [hfi] at hf
              obtain rfl := Option.some.inj hf
              have hi : i < m' := by simpa using (List.getElem?_eq_some_iff.1 hfi).1
              have hg : g = i := by rw [List.getElem?_range hi] at hfi; exact (Option.some.inj hfi).symm
              subst hg
              cases hdi : xs[g]? with
              | none => rw [hdi] at hd; cases hd
              | some y =>
                rw [hdi] at hd
                obtain rfl := Option.some.inj hd
                exact ⟨y.2, (hxs g hi).trans hdi⟩
          simpa using this
        · cases h2
      · cases h
    · intro fs ds off vs h m cs hl hall
      cases fs with
      | nil =>
        cases ds with
        | nil =>
          simp only [fitL, Option.some.injEq] at h
          subst h
          exact List.drop_eq_nil_of_le (by simp at hl; omega)
        | cons d ds => simp [fitL] at h
      | cons f fs =>
        cases ds with
        | nil => simp [fitL] at h
        | cons d ds =>
          simp only [fitL, Option.bind_eq_some_iff] at h
          obtain ⟨v1, h1, v2, h2, h3⟩ := h
          split at h3
          · rename_i hc
            obtain rfl := Option.some.inj h3
            obtain ⟨ps, hp⟩ := hall 0 f d rfl rfl
            have e1 := ih.1 _ _ _ h1 _ _ _ hp
            have e2 := ih.2 _ _ _ _ h2 m cs (by simp at hl; omega) fun i f' d' hf hd => hall (i + 1) f' d' (by simpa using hf) (by simpa using hd)
            rw [hc.1] at e1
            rw [← e2, ← e1, ← List.drop_drop, List.take_append_drop]
          · cases h3
theorem lits_one : ∀ (k : Nat), (∀ (t : TypeId) (d : DataW Unit) (vs : List Value), fitD P k t d = some vs → ∀ v, v ∈ vs → v.oneCell' = true) ∧ (∀ (fs : List (Nat × TypeId)) (ds : List (DataW Unit)) (off : Nat) (vs : List Value), fitL P k fs ds off = some vs → ∀ v, v ∈ vs → v.oneCell' = true)
  | 0 => ⟨fun t d vs h => by simp [fitD] at h, fun fs ds off vs h => by simp [fitL] at h⟩
  | k + 1 => by
    have ih := lits_one k
    constructor
    · intro t d vs h v hv
      unfold fitD at h
      split at h
      · split at h
        · obtain rfl := Option.some.inj h; simp at hv; subst hv; rfl
        · cases h
      · split at h
        · split at h
          · obtain rfl := Option.some.inj h; simp at hv; subst hv; rfl
          · cases h
        · cases h
      · split at h
        · obtain rfl := Option.some.inj h; simp at hv; subst hv; rfl
        · cases h
      · split at h
        · simp only [Option.bind_eq_some_iff] at h
          obtain ⟨ws, h1, h2⟩ := h
          split at h2
          · obtain rfl := Option.some.inj h2; exact ih.2 _ _ _ _ h1 v hv
          · cases h2
        · cases h
      · split at h
        · simp only [Option.bind_eq_some_iff] at h
          obtain ⟨ws, h1, h2⟩ := h
          split at h2
          · obtain rfl := Option.some.inj h2; exact ih.2 _ _ _ _ h1 v hv
          · cases h2
        · cases h
      · cases h
    · intro fs ds off vs h v hv
      cases fs with
      | nil =>
        cases ds with
        | nil => simp only [fitL, Option.some.injEq] at h; subst h; cases hv
        | cons d ds => simp [fitL] at h
      | cons f fs =>
        cases ds with
        | nil => simp [fitL] at h
        | cons d ds =>
          simp only [fitL, Option.bind_eq_some_iff] at h
          obtain ⟨v1, h1, v2, h2, h3⟩ := h
          split at h3
          · obtain rfl := Option.some.inj h3
            rcases List.mem_append.1 hv with hv | hv
            · exact ih.1 _ _ _ h1 v hv
            · exact ih.2 _ _ _ _ h2 v hv
          · cases h3

/-- What is asked of package-level variables, out of what the row says that they read as. -/
theorem globs_of (laid : List (String × DataW Unit)) (GT : Globs) (hpl : (laid.all fun x => x.2.handleName?.isNone) = true) (h : laidMetH P laid w)
    (hgt : ∀ g cs, (g, cs) ∈ GT → ∃ n d t k vs, (n, d) ∈ laid ∧ P.globalNamed n = some g ∧ (P.globals[g]?).map (·.type) = some t ∧ fitD P k t d = some vs ∧ vs ≠ [] ∧ cs = vs.map .raw) :
    ∀ g cs, (g, cs) ∈ GT → Conc (fun b => b < w.heap.size) w noPlace (.pointer (some ⟨g, 0, none⟩)) (.cptr cs) := by
  rw [MakeChecks.laidMetH_plain _ _ _ hpl] at h
  obtain ⟨ps, h, _⟩ := h
  have key : ∀ (laid : List (String × DataW Unit)) (ps : List MemPlace), DataW.LaidVars P w laid ps → ∀ n d, (n, d) ∈ laid → ∃ g t cs fuel p, P.globalNamed n = some g ∧ (P.globals[g]?).map (·.type) = some t ∧ w.var? P n = some cs ∧ DataW.trod (fun _ => ()) P w 0 (fun _ => true) false fuel t cs.toList = some (d, p) := by
    intro laid
    induction laid with
    | nil => intro ps _ n d hm; cases hm
    | cons x laid ih =>
      intro ps hl n d hm
      obtain ⟨g, t, cs, fuel, p, q, h1, h2, h3, h4, h5, _⟩ := hl
      rcases List.mem_cons.1 hm with e | hm
      · subst e; exact ⟨g, t, cs, fuel, p, h1, h2, h3, h4⟩
      · exact ih q h5 n d hm
  intro g cs hm
  obtain ⟨n, d, t, k, vs, hl, hg, ht, hf, hne, rfl⟩ := hgt g cs hm
  obtain ⟨g', t', cs', fuel, p, h1, h2, h3, h4⟩ := key laid ps h n d hl
  obtain rfl := Option.some.inj (hg.symm.trans h1)
  obtain rfl := Option.some.inj (ht.symm.trans h2)
  have e := (fit_sound k).1 _ _ _ hf _ _ _ h4
  have one := (lits_one k).1 _ _ _ hf
  have hcell : ∀ j, j < vs.length → w.cell? ⟨g, 0 + j, none⟩ = some (vs.getD j undef) := fun j hj => by
    rw [World.var?_cell h1 h3, Nat.zero_add, ← Array.getElem?_toList, e, List.getElem?_eq_getElem hj]
    simp [List.getD_eq_getElem?_getD, hj]
  have hlt : g < w.heap.size := by
    have := hcell 0 (List.length_pos_iff.2 hne)
    rcases Nat.lt_or_ge g w.heap.size with h | h
    · exact h
    · simp [World.cell?, Array.getElem?_eq_none h] at this
  refine .cptr (f := fun j => vs.getD j undef) hlt (fun j hj => hcell j (by simpa using hj)) (fun j hj => ?_) fun j a ea => ?_
  · have hj' : j < vs.length := by simpa using hj
    simp only [List.getD_eq_getElem?_getD, List.getElem?_eq_getElem hj', Option.getD_some]
    exact one _ (List.getElem_mem hj')
  · rw [List.getElem?_map] at ea
    cases hj : vs[j]? with
    | none => rw [hj] at ea; cases ea
    | some v =>
      rw [hj] at ea
      obtain rfl := Option.some.inj ea
      simp only [List.getD_eq_getElem?_getD, hj, Option.getD_some]
      exact .raw

/-- A function that returns one value and writes nothing that was there. -/
theorem below_ofG {GT : Globs} {f : FuncId} {args : List AV} {u : Value} (h : Fn1 P GT f args (.raw u) []) {vs : Array Value} (hsz : vs.size = args.length)
    (hargs : ∀ (i : Nat) (v : Value) (a : AV), vs[i]? = some v → args[i]? = some a → Conc (fun b => b < w.heap.size) w noPlace v a)
    (hg : ∀ g cs, (g, cs) ∈ GT → Conc (fun b => b < w.heap.size) w noPlace (.pointer (some ⟨g, 0, none⟩)) (.cptr cs)) :
    Calls P f vs w fun e w' => e = .returned u ∧ Below w.heap.size w w' := by
  refine (h.2 w (fun b => b < w.heap.size) vs noPlace hsz hargs ?_ (fun _ h => h) hg).mono ?_
  · refine ⟨fun id => ?_, fun i j r r' e => ?_, fun i r e => ?_⟩
    · simp [ObjConc, noPlace]
    · cases e
    · cases e
  · rintro e w' ⟨v, q, I', r, os, ⟨rfl, rfl⟩, rfl, hf, _, _, _, hc, _, _⟩
    refine ⟨by rw [conc_raw_eq hc], hf.os, hf.tape, hf.output, hf.size, fun k hk => hf.block k hk ?_⟩
    rintro ⟨i, r, e, _⟩
    cases e
end
end Go.Proofs.YtangkndckghblaaDoor.Abs
