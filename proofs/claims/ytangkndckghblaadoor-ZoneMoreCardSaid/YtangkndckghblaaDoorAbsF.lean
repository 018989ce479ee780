/- The abstract step: structs and slices that are built, make, len, min, max. -/
import Derived.Test.YtangkndckghblaaDoorAbsE
namespace Go.Proofs.YtangkndckghblaaDoor.Abs
set_option linter.unusedSimpArgs false
set_option linter.unusedVariables false
open Go Go.RowKit

/-- The parts laid into the cells. -/
def fillA (place : Nat → Option (Nat × Nat)) : List AV → List (Nat × AV) → Option (List AV)
  | cells, [] => some cells
  | cells, (i, v) :: rest =>
    match place i, cellsOf v with
    | some (off, size), some cs => if cs.length = size ∧ off + size ≤ cells.length then fillA place (splice cells off cs) rest else none
    | _, _ => none

theorem foldl_set (off : Nat) : ∀ (l : List Value) (k : Nat) (cs : Array Value),
    ((l.zipIdx k).foldl (fun cs (x : Value × Nat) => cs.setIfInBounds (off + x.2) x.1) cs).size = cs.size ∧
    ∀ j, ((l.zipIdx k).foldl (fun cs (x : Value × Nat) => cs.setIfInBounds (off + x.2) x.1) cs)[j]? = if off + k ≤ j ∧ j < off + k + l.length ∧ j < cs.size then l[j - off - k]? else cs[j]?
  | [], k, cs => ⟨rfl, fun j => by rw [if_neg (by simp; omega)]; rfl⟩
  | v :: l, k, cs => by
    obtain ⟨h1, h2⟩ := foldl_set off l (k + 1) (cs.setIfInBounds (off + k) v)
    simp only [List.zipIdx_cons, List.foldl_cons]
    refine ⟨by rw [h1]; simp, fun j => ?_⟩
    rw [h2]
    simp only [Array.getElem?_setIfInBounds, Array.size_setIfInBounds, List.length_cons]
    by_cases hj : j = off + k
    · subst hj
      rw [if_neg (by omega), if_pos rfl]
      by_cases hs : off + k < cs.size
      · rw [if_pos hs, if_pos ⟨by omega, by omega, hs⟩]
        simp
      · rw [if_neg hs, if_neg (by omega)]
        rw [Array.getElem?_eq_none (by omega)]
    · rw [if_neg (show ¬ off + k = j by omega)]
      by_cases hin : off + (k + 1) ≤ j ∧ j < off + (k + 1) + l.length ∧ j < cs.size
      · rw [if_pos hin, if_pos (by omega)]
        have : j - off - k = (j - off - (k + 1)) + 1 := by omega
        rw [this, List.getElem?_cons_succ]
      · rw [if_neg hin, if_neg (by omega)]

theorem foldl_cells (off : Nat) (v cs : Array Value) (h : off + v.size ≤ cs.size) :
    (v.zipIdx.foldl (fun cs (x : Value × Nat) => cs.setIfInBounds (off + x.2) x.1) cs).size = cs.size ∧
    ∀ j, (v.zipIdx.foldl (fun cs (x : Value × Nat) => cs.setIfInBounds (off + x.2) x.1) cs)[j]? = if off ≤ j ∧ j < off + v.size then v[j - off]? else cs[j]? := by
  rw [← Array.foldl_toList, Array.toList_zipIdx]
  obtain ⟨h1, h2⟩ := foldl_set off v.toList 0 cs
  refine ⟨h1, fun j => ?_⟩
  rw [h2]
  simp only [Nat.add_zero, Array.length_toList, Nat.sub_zero, Array.getElem?_toList]
  by_cases hin : off ≤ j ∧ j < off + v.size
  · rw [if_pos ⟨hin.1, hin.2, by omega⟩, if_pos hin]
  · rw [if_neg (by omega), if_neg hin]

/-- A row of cells and what is said of it. -/
def CellsConc (I : Nat → Prop) (w : World) (p : Place) (cs : Array Value) (as : List AV) : Prop :=
  cs.size = as.length ∧ ∀ (j : Nat) (c : AV), as[j]? = some c → ∃ u, cs[j]? = some u ∧ u.oneCell' = true ∧ Conc I w p u c

theorem fill_conc {I : Nat → Prop} {w : World} {p : Place} {place : Nat → Option (Nat × Nat)} : ∀ (parts : List (Nat × Value)) (partsA : List (Nat × AV)) (cs : Array Value) (as bs : List AV),
    parts.length = partsA.length → (∀ (j i i' : Nat) (v : Value) (x : AV), parts[j]? = some (i, v) → partsA[j]? = some (i', x) → i = i' ∧ Conc I w p v x) → CellsConc I w p cs as → fillA place as partsA = some bs →
    ∃ cs', Instr.fill place cs parts = some cs' ∧ CellsConc I w p cs' bs
  | [], [], cs, as, bs, _, _, hc, h => by
    injection h with h
    subst h
    exact ⟨cs, rfl, hc⟩
  | (i, v) :: parts, (i', x) :: partsA, cs, as, bs, hl, hp, hc, h => by
    obtain ⟨rfl, hv⟩ := hp 0 i i' v x rfl rfl
    simp only [fillA] at h
    split at h
    · rename_i off size xs hpl hcx
      split at h
      · rename_i hcond
        obtain ⟨hsz, hle⟩ := hcond
        obtain ⟨g1, g2⟩ := cellsOf_conc hv hcx
        have hfit : off + v.cells.size ≤ cs.size := by rw [hc.1]; omega
        obtain ⟨f1, f2⟩ := foldl_cells off v.cells cs hfit
        have hrec := fill_conc parts partsA (v.cells.zipIdx.foldl (fun cs (x : Value × Nat) => cs.setIfInBounds (off + x.2) x.1) cs) (splice as off xs) bs (by simpa using hl)
          (fun j i i' v x e e' => hp (j + 1) i i' v x (by simpa using e) (by simpa using e')) ⟨?_, ?_⟩ h
        · obtain ⟨cs', h1, h2⟩ := hrec
          refine ⟨cs', ?_, h2⟩
          rw [← h1]
          have hc1 : (v.cells.size != size) = false := by simp; omega
          have hc2 : decide (off + v.cells.size > cs.size) = false := by simp; omega
          simp only [Instr.fill, hpl]
          rw [if_neg (by simp; omega)]
        · rw [f1, splice_length _ _ _ (by omega)]
          exact hc.1
        · intro j c e
          rw [splice_get _ _ _ _ (by omega)] at e
          rw [f2]
          split at e
          · rename_i hin
            rw [if_pos (by omega)]
            exact g2 _ _ e
          · rename_i hout
            rw [if_neg (by omega)]
            exact hc.2 _ _ e
      · cases h
    · cases h
  | [], _ :: _, _, _, _, hl, _, _, _ => by simp at hl
  | _ :: _, [], _, _, _, hl, _, _, _ => by simp at hl

section
variable {P : Program} {GT : Ctx} {o : Oper} {s : St}

/-- Where the fields of a struct lie. -/
def placesOf (P : Program) : List (Nat × Nat) → Option (List (Nat × Nat))
  | [] => some []
  | (off, ty) :: rest => match td P ty, placesOf P rest with
    | some d, some r => some ((off, d.size) :: r)
    | _, _ => none

theorem placesOf_run : ∀ (fields : List Field) (ps : List (Nat × Nat)), placesOf P (fields.map fun f => (f.offset, f.type)) = some ps → fields.mapM (fun f => (P.info? f.type).map fun i => (f.offset, i.size)) = some ps
  | [], ps, h => by injection h with h; subst h; rfl
  | f :: fields, ps, h => by
    simp only [List.map_cons, placesOf] at h
    split at h
    · rename_i d r hd hr
      injection h with h
      subst h
      obtain ⟨i, desc, h1, _, h2, _⟩ := td_info hd
      simp [List.mapM_cons, h1, h2, placesOf_run fields r hr]
    · cases h

def zeroAV (d : TD) : Option (List AV) :=
  match d.zero with
  | some z => if z.all Value.oneCell' then some (z.map .raw) else none
  | none => none

theorem zeroAV_conc {t : TypeId} {d : TD} (hd : td P t = some d) {zs : List AV} (h : zeroAV d = some zs) (I : Nat → Prop) (w : World) (p : Place) : ∃ i z, P.info? t = some i ∧ i.zero = some z ∧ z.cells.size = zs.length ∧ CellsConc I w p z.cells zs ∧ AV.immL zs = true := by
  unfold zeroAV at h
  split at h
  · rename_i zl hz
    split at h
    · rename_i hall
      injection h with h
      subst h
      obtain ⟨i, desc, h1, h2, _, _, _, h3, _⟩ := td_info hd
      rw [hz] at h3
      cases hv : i.zero with
      | none => rw [hv] at h3; cases h3
      | some v =>
        rw [hv] at h3
        injection h3 with h3
        replace h3 : v.cells.toList = zl := h3
        refine ⟨i, v, h1, hv, by rw [← Array.length_toList, h3]; simp, ⟨by rw [← Array.length_toList, h3]; simp, fun j c e => ?_⟩, ?_⟩
        · rw [List.getElem?_map] at e
          cases hj : zl[j]? with
          | none => rw [hj] at e; cases e
          | some u =>
            rw [hj] at e
            simp at e
            subst e
            exact ⟨u, by rw [← Array.getElem?_toList, h3]; exact hj, List.all_eq_true.1 hall u (List.mem_of_getElem? hj), .raw⟩
        · clear h3 hz hall
          induction zl with
          | nil => rfl
          | cons a l ih => simp [AV.immL, AV.imm, ih]
    · cases h
  · cases h

def evBuild (P : Program) (GT : Ctx) (s : St) (T : TypeId) (parts : Array (Nat × Operand)) : Option Res :=
  match td P T with
  | some d => match zeroAV d with
    | some zs => match d.kind with
      | .struct fs => match placesOf P fs with
        | some ps => match fillA (fun i => ps[i]?) zs (parts.toList.map fun x => (x.1, ev GT s x.2)) with
          | some cs => some ⟨True, .agg cs, s⟩
          | none => none
        | none => none
      | .array _ e => match td P e with
        | some d' => match fillA (fun i => some (i * d'.size, d'.size)) zs (parts.toList.map fun x => (x.1, ev GT s x.2)) with
          | some cs => some ⟨True, .agg cs, s⟩
          | none => none
        | none => none
      | _ => none
    | none => none
  | none => none

theorem agg_of {I : Nat → Prop} {w : World} {p : Place} {cs : Array Value} {as : List AV} (h : CellsConc I w p cs as) : Conc I w p (.agg cs) (.agg as) := by
  refine .agg h.1.symm (fun i v e => ?_) fun i v a e e' => ?_
  · have hi : i < as.length := by rw [← h.1]; exact (Array.getElem?_eq_some_iff.1 e).1
    obtain ⟨u, e1, e2, _⟩ := h.2 i _ (List.getElem?_eq_getElem hi)
    rw [e] at e1
    injection e1 with e1
    rw [e1]; exact e2
  · obtain ⟨u, e1, _, e3⟩ := h.2 i a e'
    rw [e] at e1
    injection e1 with e1
    rw [e1]; exact e3

theorem parts_conc {w0 : World} {G : Nat → Prop} {p : Place} {I : Nat → Prop} {a : Act} {w : World} (hs : Sim GT w0 G p I s a w) (parts : Array (Nat × Operand)) :
    ∀ (j i i' : Nat) (v : Value) (x : AV), (parts.toList.map fun x => (x.1, a.eval x.2))[j]? = some (i, v) → (parts.toList.map fun x => (x.1, ev GT s x.2))[j]? = some (i', x) → i = i' ∧ Conc I w p v x := by
  intro j i i' v x e e'
  rw [List.getElem?_map] at e e'
  cases hj : parts.toList[j]? with
  | none => rw [hj] at e; cases e
  | some y =>
    rw [hj] at e e'
    simp only [Option.map_some, Option.some.injEq, Prod.mk.injEq] at e e'
    obtain ⟨rfl, rfl⟩ := e
    obtain ⟨rfl, rfl⟩ := e'
    exact ⟨rfl, hs.ev _⟩

theorem evBuild_ok {T : TypeId} {parts : Array (Nat × Operand)} {r : Res} (ho : o.op = .build T parts) (h : evBuild P GT s T parts = some r) : StepPure P GT o s r := by
  have hexec : ∀ {a : Act} {w : World} {v : Value}, (Instr.build T (parts.map fun x => (x.1, a.eval x.2))).run P w = .ok v w → (execOp a.eval o).run P w = .ok (.value v) w := by
    intro a w v hr
    have : (execOp a.eval o) = (do pure (.value (← Instr.build T (parts.map fun (i, x) => (i, a.eval x))))) := by simp [execOp, ho]
    rw [this, Sem.run_bind, hr]
    rfl
  unfold evBuild at h
  split at h
  · rename_i d hd
    split at h
    · rename_i zs hzs
      split at h
      · rename_i fs hk
        split at h
        · rename_i ps hps
          split at h
          · rename_i cs hcs
            injection h with h
            subst h
            refine stepOK_pure fun _ w0 G p I a w hs => ?_
            obtain ⟨i, z, hi, hz, hzsz, hzc, _⟩ := zeroAV_conc hd hzs I w p
            obtain ⟨fields, hu, hfs⟩ := td_struct hd hk
            rw [← hfs] at hps
            have hpl := placesOf_run _ _ hps
            obtain ⟨cs', h1, h2⟩ := fill_conc (parts.toList.map fun x => (x.1, a.eval x.2)) _ z.cells zs cs (by simp) (parts_conc hs parts) hzc hcs
            refine ⟨.agg cs', fun w' _ => hexec (run_build w' T _ cs' ?_), agg_of h2⟩
            have hf : (fun (i : Nat) => ps[i]?) = (fun (i : Nat) => ps.toArray[i]?) := by funext i; simp
            rw [hf] at h1
            simp only [Program.built, hi, hu, hz, hpl]
            simpa using h1
          · cases h
        · cases h
      · rename_i n e hk
        split at h
        · rename_i d' hd'
          split at h
          · rename_i cs hcs
            injection h with h
            subst h
            refine stepOK_pure fun _ w0 G p I a w hs => ?_
            obtain ⟨i, z, hi, hz, hzsz, hzc, _⟩ := zeroAV_conc hd hzs I w p
            have hu := td_array hd hk
            obtain ⟨i', desc', hi', _, hsz', _⟩ := td_info hd'
            obtain ⟨cs', h1, h2⟩ := fill_conc (parts.toList.map fun x => (x.1, a.eval x.2)) _ z.cells zs cs (by simp) (parts_conc hs parts) hzc hcs
            refine ⟨.agg cs', fun w' _ => hexec (run_build w' T _ cs' ?_), agg_of h2⟩
            simp only [Program.built, hi, hu, hz, hi', hsz']
            simpa using h1
          · cases h
        · cases h
      · cases h
    · cases h
  · cases h

/-- A row of cells, cut into elements. -/
def chunks (k : Nat) : Nat → List AV → List (List AV)
  | 0, _ => []
  | n + 1, l => l.take k :: chunks k n (l.drop k)

theorem chunks_length (k : Nat) : ∀ (n : Nat) (l : List AV), (chunks k n l).length = n
  | 0, _ => rfl
  | n + 1, l => by simp [chunks, chunks_length k n]
theorem chunks_get (k : Nat) : ∀ (n : Nat) (l : List AV) (i : Nat) (x : List AV), (chunks k n l)[i]? = some x → x = (l.drop (i * k)).take k
  | 0, _, i, x, h => by simp [chunks] at h
  | n + 1, l, 0, x, h => by simp [chunks] at h; simp [h]
  | n + 1, l, i + 1, x, h => by
    simp only [chunks, List.getElem?_cons_succ] at h
    have := chunks_get k n _ i x h
    rw [this, List.drop_drop, Nat.add_mul]
    congr 2
    omega

/-- A new array out of a row of cells. -/
theorem arr_of_cells {I : Nat → Prop} {w' : World} {p : Place} {id k n : Nat} {b : Nat} {E : TypeId} {cs : Array Value} {as : List AV} (hp : p id = some ⟨b, 0, n, n, false⟩) (hh : w'.heap[b]? = some (.cells cs E (0, 0)))
    (hm : n ≤ maxLen) (hl : as.length = n * k) (h : CellsConc I w' noPlace cs as) : ObjConc I w' p id (.arr k (chunks k n as)) := by
  have hk : ∀ i x, (chunks k n as)[i]? = some x → x = (as.drop (i * k)).take k ∧ i < n ∧ x.length = k := by
    intro i x e
    have h1 := chunks_get k n as i x e
    have h2 : i < n := by have := (List.getElem?_eq_some_iff.1 e).1; rwa [chunks_length] at this
    refine ⟨h1, h2, ?_⟩
    rw [h1]
    have := Nat.mul_le_mul_right k (show i + 1 ≤ n by omega)
    rw [Nat.add_mul] at this
    simp [hl]
    omega
  refine ⟨⟨b, 0, n, n, false⟩, hp, .inr ⟨rfl, cs, E, hh, by rw [chunks_length]; exact ⟨Nat.le_refl _, rfl⟩, hm, by simp [h.1, hl], fun x hx => ?_, fun i j x a e e' => ?_⟩⟩
  · obtain ⟨i, hi⟩ := List.getElem?_of_mem hx
    exact (hk i x hi).2.2
  · obtain ⟨h1, h2, h3⟩ := hk i x e
    subst h1
    rw [List.getElem?_take] at e'
    split at e'
    · rw [List.getElem?_drop] at e'
      obtain ⟨u, q1, q2, q3⟩ := h.2 _ _ e'
      exact ⟨u, by simpa using q1, q2, q3⟩
    · cases e'

def evBuildSlice (P : Program) (GT : Ctx) (s : St) (T : TypeId) (n : Nat) (parts : Array (Nat × Operand)) : Option Res :=
  match td P T with
  | some d => match d.kind with
    | .slice e => match td P e with
      | some d' => match zeroAV d' with
        | some zs => if zs.length = d'.size ∧ n * d'.size ≤ 16777216 ∧ n ≤ 16777216 then
            match fillA (fun i => some (i * d'.size, d'.size)) (List.replicate n zs).flatten (parts.toList.map fun x => (x.1, ev GT s x.2)) with
            | some cs => if AV.immL cs then some ⟨True, .own s.objs.length d'.size 0 n, { s with objs := s.objs ++ [.arr d'.size (chunks d'.size n cs)] }⟩ else none
            | none => none
          else none
        | none => none
      | none => none
    | _ => none
  | none => none

theorem flatten_replicate_get (zs : List AV) (k : Nat) (hk : zs.length = k) : ∀ (n j : Nat), j < n * k → (List.replicate n zs).flatten[j]? = zs[j % k]?
  | 0, j, h => by simp at h
  | n + 1, j, h => by
    rw [List.replicate_succ, List.flatten_cons]
    by_cases hj : j < k
    · rw [List.getElem?_append_left (by omega), Nat.mod_eq_of_lt hj]
    · rw [List.getElem?_append_right (by omega), hk, flatten_replicate_get zs k hk n (j - k) (by rw [Nat.add_mul] at h; omega)]
      congr 1
      have : j = j - k + k := by omega
      conv => rhs; rw [this, Nat.add_mod_right]

theorem flatten_replicate_length (zs : List AV) (n : Nat) : (List.replicate n zs).flatten.length = n * zs.length := by simp

theorem fillA_length {place : Nat → Option (Nat × Nat)} : ∀ (parts : List (Nat × AV)) (as bs : List AV), fillA place as parts = some bs → bs.length = as.length
  | [], as, bs, h => by injection h with h; rw [h]
  | (i, v) :: parts, as, bs, h => by
    simp only [fillA] at h
    split at h
    · split at h
      · rename_i hc
        rw [fillA_length parts _ _ h, splice_length _ _ _ (by omega)]
      · cases h
    · cases h

theorem Conc.ofImmL {I : Nat → Prop} {w : World} {p p' : Place} {cs : Array Value} {as : List AV} (h : CellsConc I w p cs as) (hi : AV.immL as = true) : CellsConc I w p' cs as :=
  ⟨h.1, fun j c e => by
    obtain ⟨u, h1, h2, h3⟩ := h.2 j c e
    exact ⟨u, h1, h2, h3.ofImm (AV.immL_mem hi c (List.mem_of_getElem? e))⟩⟩

theorem evBuildSlice_ok {T : TypeId} {n : Nat} {parts : Array (Nat × Operand)} {r : Res} (ho : o.op = .buildSlice T n parts) (h : evBuildSlice P GT s T n parts = some r) : StepOK P GT o s r := by
  unfold evBuildSlice at h
  split at h
  · rename_i d hd
    split at h
    · rename_i e hk
      have hu := td_slice hd hk
      split at h
      · rename_i d' hd'
        split at h
        · rename_i zs hzs
          split at h
          · rename_i hcond
            obtain ⟨hzl, hn, hn'⟩ := hcond
            split at h
            · rename_i cs hcs
              split at h
              · rename_i himm
                injection h with h
                subst h
                intro _ w0 G p I a w hs
                obtain ⟨i, z, hi, hz, hzsz, hzc, _⟩ := zeroAV_conc hd' hzs I w p
                have hrz : (zeroValue e).run P w = .ok z w := by simp [zeroValue, typeInfo, hi, hz]
                -- the zero cells
                have hbase : CellsConc I w p ((Array.range (n * d'.size)).map (z.cells[· % z.cells.size]!)) (List.replicate n zs).flatten := by
                  refine ⟨by simp [hzl], fun j c e => ?_⟩
                  have hj : j < n * d'.size := by
                    have := (List.getElem?_eq_some_iff.1 e).1
                    simpa [hzl] using this
                  rw [flatten_replicate_get zs d'.size hzl n j hj] at e
                  obtain ⟨u, q1, q2, q3⟩ := hzc.2 _ _ e
                  refine ⟨u, ?_, q2, q3⟩
                  have hzd : z.cells.size = d'.size := by rw [hzsz, hzl]
                  have hlt := (Array.getElem?_eq_some_iff.1 q1).1
                  simp only [Array.getElem?_map, Array.getElem?_range, hj, if_true, Option.map_some, hzd]
                  rw [getElem!_pos z.cells _ hlt, ← Array.getElem?_eq_getElem hlt, q1]
                obtain ⟨cs', h1, h2⟩ := fill_conc (parts.toList.map fun x => (x.1, a.eval x.2)) _ _ _ cs (by simp) (parts_conc hs parts) hbase hcs
                have hlen : cs.length = n * d'.size := by rw [fillA_length _ _ _ hcs]; simp [hzl]
                have hrun : (execOp a.eval o).run P w = .ok (.value (.slice (some ⟨w.heap.size, 0, none⟩) n n)) (w.alloc (.cells cs' e)) := by
                  have hn24 : ¬ (n * d'.size > 2 ^ 24) := by omega
                  have hfill : ∀ zc : Array Value, ((Array.range (n * d'.size)).map (zc[· % zc.size]!)) = ((Array.range (n * d'.size)).map (z.cells[· % z.cells.size]!)) →
                      Instr.fill (fun i => some (i * d'.size, d'.size)) ((Array.range (n * d'.size)).map (zc[· % zc.size]!)) (parts.map fun x => (x.1, a.eval x.2)).toList = some cs' := by
                    intro zc hz2
                    rw [hz2]; simpa using h1
                  have : (execOp a.eval o) = (do pure (.value (← Instr.buildSlice T n (parts.map fun (i, x) => (i, a.eval x))))) := by simp [execOp, ho]
                  rw [this, Sem.run_bind]
                  have hb : (Instr.buildSlice T n (parts.map fun (i, x) => (i, a.eval x))).run P w = .ok (.slice (some ⟨w.heap.size, 0, none⟩) n n) (w.alloc (.cells cs' e)) := by
                    simp only [Instr.buildSlice, Sem.run_bind, run_underlying hu, Result.andThen_ok, run_sizeOf hd', hn24, if_false]
                    by_cases h0 : n * d'.size = 0
                    · rw [if_pos h0]
                      simp only [Sem.run_bind, Sem.run_pure, Result.andThen_ok]
                      rw [hfill #[] (by simp [h0])]
                      simp [newRow]
                    · rw [if_neg h0]
                      simp only [Sem.run_bind, Sem.run_pure, Result.andThen_ok, hrz]
                      rw [hfill z.cells rfl]
                      simp [newRow]
                  rw [hb]
                  rfl
                refine ⟨p.with s.objs.length (some ⟨w.heap.size, 0, n, n, false⟩), _, _, .inl hrun, hs.new _ rfl rfl (.cells cs' e) _ rfl rfl rfl rfl ?_, ?_, fun _ => Agree.alloc w _, hs.fresh_given _⟩
                · refine arr_of_cells (E := e) (Place.with_same _ _ _) (heap_alloc_new w _) (by simp [maxLen]; omega) hlen ?_
                  have := Conc.ofImmL (p' := noPlace) h2 himm
                  exact ⟨this.1, fun j c e => by
                    obtain ⟨u, q1, q2, q3⟩ := this.2 j c e
                    exact ⟨u, q1, q2, q3.mono (fun b hb => Below.heap_alloc w _ b (hs.imm b hb)) (fun _ h => h) fun _ _ h => h⟩⟩
                · exact .own (Nat.le_refl _) (by simp [maxLen]; omega) (Place.with_same _ _ _) (.inr ⟨rfl, .inr (by simp), by simp, by simp⟩)
              · cases h
            · cases h
          · cases h
        · cases h
      · cases h
    · cases h
  · cases h

def evMakeSlice (P : Program) (GT : Ctx) (s : St) (T : TypeId) (x y : Operand) : Option Res :=
  match td P T, ev GT s x, ev GT s y with
  | some d, .raw (.int _ n), .raw (.int _ c) => match d.kind with
    | .slice e => match td P e with
      | some d' => match zeroAV d' with
        | some zs => if zs.length = d'.size then
            some ⟨0 ≤ n ∧ n ≤ c ∧ d'.bytes * c ≤ 281474976710656 ∧ c ≤ 9223372036854775807, .own s.objs.length d'.size 0 n.toNat, { s with objs := s.objs ++ [.arr d'.size (List.replicate n.toNat zs)] }⟩ else none
        | none => none
      | none => none
    | _ => none
  | _, _, _ => none

theorem evMakeSlice_ok {T : TypeId} {x y : Operand} {r : Res} (ho : o.op = .makeSlice T x y) (h : evMakeSlice P GT s T x y = some r) : StepOK P GT o s r := by
  unfold evMakeSlice at h
  split at h
  · rename_i d k1 n k2 c hd hx hy
    split at h
    · rename_i e hk
      have hu := td_slice hd hk
      split at h
      · rename_i d' hd'
        split at h
        · rename_i zs hzs
          split at h
          · rename_i hzl
            injection h with h
            subst h
            intro hn w0 G p I a w hs
            obtain ⟨h0, h1, h2, h3⟩ := hn
            have hvx : a.eval x = .int k1 n := by have := hs.ev x; rw [hx] at this; exact this.raw_eq
            have hvy : a.eval y = .int k2 c := by have := hs.ev y; rw [hy] at this; exact this.raw_eq
            obtain ⟨i, z, hi, hz, hzsz, hzc, himm⟩ := zeroAV_conc hd' hzs I w noPlace
            obtain ⟨i', desc', hi', _, hsz', hby', _⟩ := td_info hd'
            obtain rfl : i = i' := Option.some.inj (hi.symm.trans hi')
            have hrun := run_make (P := P) w T e i z hu hi hz k1 k2 n c h0 h1 (by rw [hby']; exact h2) h3
            have hexec : (execOp a.eval o).run P w = .ok (.value (.slice (some ⟨w.heap.size, 0, none⟩) n.toNat c.toNat)) (w.alloc (.cells (madeCells z.cells (c.toNat * i.size)) e)) := by
              simp [execOp, ho, hvx, hvy, hrun]
            refine ⟨p.with s.objs.length (some ⟨w.heap.size, 0, c.toNat, n.toNat, false⟩), _, _, .inl hexec, hs.new _ rfl rfl _ _ rfl rfl rfl rfl ?_, ?_, fun _ => Agree.alloc w _, hs.fresh_given _⟩
            · refine ⟨_, Place.with_same _ _ _, .inr ⟨rfl, _, e, heap_alloc_new w _, by simp; omega, by simp [maxLen]; omega, by simp [madeCells, hsz'], fun x hx => by rw [List.eq_of_mem_replicate hx, hzl], fun i1 j x' b' e1 e2 => ?_⟩⟩
              have hi1 : i1 < n.toNat := by have := (List.getElem?_eq_some_iff.1 e1).1; simpa using this
              rw [List.getElem?_replicate, if_pos hi1] at e1
              injection e1 with e1
              subst e1
              have hj : j < d'.size := by rw [← hzl]; exact (List.getElem?_eq_some_iff.1 e2).1
              obtain ⟨u, q1, q2, q3⟩ := hzc.2 _ _ e2
              refine ⟨u, ?_, q2, q3.mono (fun b hb => Below.heap_alloc w _ b (hs.imm b hb)) (fun _ h => h) fun _ _ h => h⟩
              have hzd : z.cells.size = d'.size := by rw [hzsz, hzl]
              have hlt : 0 + i1 * d'.size + j < c.toNat * i.size := by
                have := Nat.mul_le_mul_right d'.size (show i1 + 1 ≤ c.toNat by omega)
                rw [Nat.add_mul] at this
                rw [hsz']; omega
              have hmod : (0 + i1 * d'.size + j) % d'.size = j := by rw [Nat.zero_add]; exact (divmod _ _ _ hj).2
              simp only [madeCells, Array.getElem?_map, Array.getElem?_range, hlt, if_true, Option.map_some, hzd, hmod]
              have hlt' := (Array.getElem?_eq_some_iff.1 q1).1
              rw [getElem!_pos z.cells _ hlt', ← Array.getElem?_eq_getElem hlt', q1]
            · exact .own (by omega) (by simp [maxLen]; omega) (Place.with_same _ _ _) (.inr ⟨rfl, .inr (by simp), by simp, by simp⟩)
          · cases h
        · cases h
      · cases h
    · cases h
  · cases h

/-- len, of a string or a slice; min and max of two integers. -/
def evLen (P : Program) (GT : Ctx) (s : St) (t : TypeId) (x : Operand) : Option Res :=
  match td P t with
  | some d => match d.kind with
    | .str => match ev GT s x with
      | .raw (.string b) => some ⟨True, .raw (.int .i64 b.size), s⟩
      | _ => none
    | .slice _ => match ev GT s x with
      | .lst _ xs => some ⟨True, .raw (.int .i64 xs.length), s⟩
      | .own _ _ _ n => some ⟨True, .raw (.int .i64 n), s⟩
      | .raw (.slice _ n _) => some ⟨True, .raw (.int .i64 n), s⟩
      | _ => none
    | .array n _ => some ⟨True, .raw (.int .i64 n), s⟩
    | _ => none
  | none => none

theorem evLen_ok {t : TypeId} {x : Operand} {r : Res} (ho : o.op = .call { callee := .builtin .len, args := #[x], argTypes := #[t] }) (h : evLen P GT s t x = some r) : StepPure P GT o s r := by
  have hexec : ∀ {a : Act} {w : World} {v : Value}, (Builtin.len_ #[t] o.type #[a.eval x]).run P w = .ok v w → (execOp a.eval o).run P w = .ok (.value v) w := by
    intro a w v hr
    simp [execOp, ho, resolve, invoke, builtin, hr]
  unfold evLen at h
  split at h
  · rename_i d hd
    split at h
    · rename_i hk
      have hu := td_str hd hk
      split at h
      · rename_i b hx
        injection h with h
        subst h
        refine stepOK_pure fun _ w0 G p I a w hs => ?_
        have hv : a.eval x = .string b := by have := hs.ev x; rw [hx] at this; exact this.raw_eq
        exact ⟨_, fun w' _ => hexec (by simp [Builtin.len_, hv, run_underlying hu, goInt]), .raw⟩
      · cases h
    · rename_i e hk
      have hu := td_slice hd hk
      split at h
      · rename_i k xs hx
        injection h with h
        subst h
        refine stepOK_pure fun _ w0 G p I a w hs => ?_
        have hc := hs.ev x
        rw [hx] at hc
        generalize hv : a.eval x = v at hc
        cases hc with
        | lst hn => subst hn; exact ⟨_, fun w' _ => hexec (by simp [Builtin.len_, hv, run_underlying hu, goInt]), .raw⟩
      · rename_i id k lo n hx
        injection h with h
        subst h
        refine stepOK_pure fun _ w0 G p I a w hs => ?_
        have hc := hs.ev x
        rw [hx] at hc
        generalize hv : a.eval x = v at hc
        cases hc with
        | own => exact ⟨_, fun w' _ => hexec (by simp [Builtin.len_, hv, run_underlying hu, goInt]), .raw⟩
      · rename_i A n c hx
        injection h with h
        subst h
        refine stepOK_pure fun _ w0 G p I a w hs => ?_
        have hv : a.eval x = .slice A n c := by have := hs.ev x; rw [hx] at this; exact this.raw_eq
        exact ⟨_, fun w' _ => hexec (by simp [Builtin.len_, hv, run_underlying hu, goInt]), .raw⟩
      · cases h
    · rename_i n e hk
      have hu := td_array hd hk
      injection h with h
      subst h
      refine stepOK_pure fun _ w0 G p I a w hs => ?_
      exact ⟨_, fun w' _ => hexec (by simp [Builtin.len_, run_underlying hu, goInt]), .raw⟩
    · cases h
  · cases h

def evMinMax (GT : Ctx) (s : St) (isMin : Bool) (x y : Operand) : Option Res :=
  match ev GT s x, ev GT s y with
  | .raw (.int k a), .raw (.int _ b) => some ⟨True, .raw (.int k (if isMin then (if b < a then b else a) else (if b > a then b else a))), s⟩
  | _, _ => none

theorem evMin_ok {ts : Array TypeId} {x y : Operand} {r : Res} (ho : o.op = .call { callee := .builtin .min, args := #[x, y], argTypes := ts }) (h : evMinMax GT s true x y = some r) : StepPure P GT o s r := by
  unfold evMinMax at h
  split at h
  · rename_i k a k' b hx hy
    injection h with h
    subst h
    refine stepOK_pure fun _ w0 G p I ac w hs => ?_
    have hvx : ac.eval x = .int k a := by have := hs.ev x; rw [hx] at this; exact this.raw_eq
    have hvy : ac.eval y = .int k' b := by have := hs.ev y; rw [hy] at this; exact this.raw_eq
    exact ⟨_, by simp [execOp, ho, resolve, invoke, builtin, hvx, hvy, Builtin.min_, Builtin.min2], .raw⟩
  · cases h

theorem evMax_ok {ts : Array TypeId} {x y : Operand} {r : Res} (ho : o.op = .call { callee := .builtin .max, args := #[x, y], argTypes := ts }) (h : evMinMax GT s false x y = some r) : StepPure P GT o s r := by
  unfold evMinMax at h
  split at h
  · rename_i k a k' b hx hy
    injection h with h
    subst h
    refine stepOK_pure fun _ w0 G p I ac w hs => ?_
    have hvx : ac.eval x = .int k a := by have := hs.ev x; rw [hx] at this; exact this.raw_eq
    have hvy : ac.eval y = .int k' b := by have := hs.ev y; rw [hy] at this; exact this.raw_eq
    exact ⟨_, by simp [execOp, ho, resolve, invoke, builtin, hvx, hvy, Builtin.max_, Builtin.max2], .raw⟩
  · cases h


theorem set_same {id : Nat} {o' : Obj} (h : s.obj id = o') (hne : o' ≠ .dead) : ({ s with objs := s.objs.set id o' } : St) = s := by
  have hid : id < s.objs.length := obj_lt (by rw [h]; exact hne)
  have : s.objs.set id o' = s.objs := by
    apply List.ext_getElem?
    intro j
    rw [List.getElem?_set]
    split
    · rename_i hj
      subst hj
      rw [← h, St.obj, List.getD_eq_getElem?_getD, List.getElem?_eq_getElem hid]
      rfl
    · rfl
  rw [this]

/-- Elements of an array that are written over. -/
theorem arr_splice {I : Nat → Prop} {w : World} {p : Place} {id k lo : Nat} {r : Real} {cs : Array Value} {E : TypeId} {xs ys : List (List AV)} {f : Nat → Nat → Value} (hr : p id = some r) (hnl : r.nul = false) (hI : ¬ I r.blk)
    (hh : w.heap[r.blk]? = some (.cells cs E (0, 0))) (hl : xs.length ≤ r.cap ∧ xs.length = r.len) (hm : r.cap ≤ maxLen) (hcs : r.base + r.cap * k ≤ cs.size) (hkx : ∀ x, x ∈ xs → x.length = k)
    (hv : ∀ i j x a, xs[i]? = some x → x[j]? = some a → ∃ v, cs[r.base + i * k + j]? = some v ∧ v.oneCell' = true ∧ Conc I w noPlace v a)
    (hn : lo + ys.length ≤ xs.length) (hyk : ∀ y, y ∈ ys → y.length = k) (hy1 : ∀ i j, i < ys.length → j < k → (f i j).oneCell' = true)
    (hyv : ∀ (i j : Nat) (y : List AV) (z : AV), ys[i]? = some y → y[j]? = some z → Conc I w noPlace (f i j) z) :
    ObjConc I (w.setRow r.blk (cs.toList.take (r.base + lo * k) ++ flatCells k ys.length f ++ cs.toList.drop (r.base + lo * k + (flatCells k ys.length f).length)).toArray) p id (.arr k (xs.take lo ++ ys ++ xs.drop (lo + ys.length))) := by
  have hfl : (flatCells k ys.length f).length = ys.length * k := flatCells_length _ _ _
  have hlen' : (xs.take lo ++ ys ++ xs.drop (lo + ys.length)).length = xs.length := by simp; omega
  have hkept : ∀ z, z ∈ xs.take lo ++ ys ++ xs.drop (lo + ys.length) → z.length = k := by
    intro z hz
    rcases List.mem_append.1 hz with hz | hz
    · rcases List.mem_append.1 hz with hz | hz
      · exact hkx z (List.mem_of_mem_take hz)
      · exact hyk z hz
    · exact hkx z (List.mem_of_mem_drop hz)
  have hmul : r.base + lo * k + ys.length * k ≤ r.base + r.cap * k := by
    have : (lo + ys.length) * k ≤ r.cap * k := Nat.mul_le_mul_right _ (by omega)
    rw [Nat.add_mul] at this
    omega
  refine ⟨r, hr, .inr ⟨hnl, _, E, setRow_heap w r.blk cs _ E _ hh, by rw [hlen']; exact hl, hm, ?_, hkept, ?_⟩⟩
  · simp [hfl]; omega
  · intro i' j z z' ee e'
    have hzk : z.length = k := hkept z (List.mem_of_getElem? ee)
    have hj : j < k := by rw [← hzk]; exact (List.getElem?_eq_some_iff.1 e').1
    have hi' : i' < xs.length := by rw [← hlen']; exact (List.getElem?_eq_some_iff.1 ee).1
    rw [splice_get_val _ _ _ _ (by rw [hfl]; omega), hfl]
    have hIw : ∀ b, I b → (w.setRow r.blk (cs.toList.take (r.base + lo * k) ++ flatCells k ys.length f ++ cs.toList.drop (r.base + lo * k + ys.length * k)).toArray).heap[b]? = w.heap[b]? :=
      fun b hb => (setRow_eq w r.blk _).2.1 b (by rintro rfl; exact hI hb)
    have hm2 : (lo + ys.length) * k = lo * k + ys.length * k := by rw [Nat.add_mul]
    by_cases h1 : i' < lo
    · have : i' * k + k ≤ lo * k := by
        have := Nat.mul_le_mul_right k (show i' + 1 ≤ lo by omega)
        rw [Nat.add_mul] at this; omega
      rw [if_neg (by omega)]
      rw [List.append_assoc, List.getElem?_append_left (by simp; omega), List.getElem?_take, if_pos h1] at ee
      obtain ⟨u, e1, e2, e3⟩ := hv _ _ _ _ ee e'
      exact ⟨u, e1, e2, e3.mono hIw (fun _ h => h) fun _ _ h => h⟩
    · by_cases h2 : i' < lo + ys.length
      · have g1 : lo * k ≤ i' * k := Nat.mul_le_mul_right _ (by omega)
        have g2 : i' * k + k ≤ (lo + ys.length) * k := by
          have := Nat.mul_le_mul_right k (show i' + 1 ≤ lo + ys.length by omega)
          rw [Nat.add_mul] at this; omega
        rw [if_pos (by omega)]
        rw [List.append_assoc, List.getElem?_append_right (by simp; omega), List.getElem?_append_left (by simp; omega)] at ee
        have hidx : i' - (xs.take lo).length = i' - lo := by simp; omega
        rw [hidx] at ee
        have hlt : i' - lo < ys.length := by omega
        have := flatCells_get k ys.length f hlt hj
        refine ⟨f (i' - lo) j, ?_, hy1 _ _ hlt hj, (hyv _ _ _ _ ee e').mono hIw (fun _ h => h) fun _ _ h => h⟩
        have hsub : (i' - lo) * k = i' * k - lo * k := Nat.sub_mul _ _ _
        rw [← this]; congr 1; omega
      · have g1 : (lo + ys.length) * k ≤ i' * k := Nat.mul_le_mul_right _ (by omega)
        rw [if_neg (by omega)]
        rw [List.getElem?_append_right (by simp; omega), List.getElem?_drop] at ee
        have hidx : lo + ys.length + (i' - (xs.take lo ++ ys).length) = i' := by simp; omega
        rw [hidx] at ee
        obtain ⟨u, e1, e2, e3⟩ := hv _ _ _ _ ee e'
        exact ⟨u, e1, e2, e3.mono hIw (fun _ h => h) fun _ _ h => h⟩

/-- clear, of a slice of the call's own. -/
def evClear (P : Program) (GT : Ctx) (s : St) (t : TypeId) (x : Operand) : Option Res :=
  match td P t, ev GT s x with
  | some d, .own id k lo n => match d.kind, s.obj id with
    | .slice e, .arr k' xs => match td P e with
      | some d' => match zeroAV d' with
        | some zs => if zs.length = d'.size ∧ k = d'.size ∧ k' = k then
            some ⟨lo + n ≤ xs.length, .tup [], { s with objs := s.objs.set id (.arr k (xs.take lo ++ List.replicate n zs ++ xs.drop (lo + n))) }⟩ else none
        | none => none
      | none => none
    | _, _ => none
  | _, _ => none

theorem evClear_ok {t : TypeId} {x : Operand} {r : Res} (ho : o.op = .call { callee := .builtin .clear, args := #[x], argTypes := #[t] }) (h : evClear P GT s t x = some r) : StepOK P GT o s r := by
  have hexec : ∀ {a : Act} {w w' : World} {v : Value}, (Builtin.clear_ #[t] o.type #[a.eval x]).run P w = .ok v w' → Yields P o a w v w' := by
    intro a w w' v hr
    left
    simp [execOp, ho, resolve, invoke, builtin, hr]
  unfold evClear at h
  split at h
  · rename_i d id k lo n hd hx
    split at h
    · rename_i e k' xs hk hob
      have hu := td_slice hd hk
      split at h
      · rename_i d' hd'
        split at h
        · rename_i zs hzs
          split at h
          · rename_i hcond
            obtain ⟨hzl, hkk, hkk'⟩ := hcond
            subst hkk'
            subst hkk
            injection h with h
            subst h
            intro hn w0 G p I a w hs
            have hc := hs.ev x
            rw [hx] at hc
            generalize hxv : a.eval x = xv at hc
            have hob' := hs.obj id
            rw [hob] at hob'
            cases hc with
            | @own _ _ _ _ _ A c r hnc hcm hr hcc =>
              by_cases hn0 : n = 0
              · subst hn0
                have hsame : xs.take lo ++ List.replicate 0 zs ++ xs.drop (lo + 0) = xs := by simp
                rw [hsame]
                refine ⟨p, .tuple #[], w, hexec ?_, by rw [set_same hob (by simp)]; exact hs, .tup rfl (fun i v a e => by simp at e), fun h => by simp [ho, Op.quiet] at h, fun _ _ => .inl rfl⟩
                rw [hxv]
                cases A <;> simp [Builtin.clear_, run_underlying hu]
              · obtain ⟨hnl, hA, hcap, hcl⟩ := hcc.resolve_left fun h => by omega
                obtain rfl := hA.resolve_left (by omega)
                obtain ⟨r', hr', ⟨hnl', _⟩ | ⟨_, cs, E, hh, hl, hm, hcs, hkx, hv⟩⟩ := hob'
                · obtain rfl : r = r' := Option.some.inj (hr.symm.trans hr')
                  rw [hnl] at hnl'; cases hnl'
                obtain rfl : r = r' := Option.some.inj (hr.symm.trans hr')
                obtain ⟨i, z, hi, hz, hzsz, hzc, himm⟩ := zeroAV_conc hd' hzs I w noPlace
                have hrz : (zeroValue e).run P w = .ok z w := by simp [zeroValue, typeInfo, hi, hz]
                have hown := hs.own id r hr hnl
                have hzd : z.cells.size = d'.size := by rw [hzsz, hzl]
                have hrl : (List.replicate n zs).length = n := by simp
                have hflat : (Builtin.zeroCells z.cells n).toList = flatCells d'.size n fun _ j => (z.cells[j]?).getD undef := by
                  apply List.ext_getElem?
                  intro j
                  by_cases hj : j < n * d'.size
                  · obtain ⟨g1, g2, g3⟩ := div_lt hj
                    conv => rhs; rw [g3]
                    rw [flatCells_get _ _ _ g1 g2]
                    have hlt : j % d'.size < z.cells.size := by rw [hzd]; exact g2
                    simp [Builtin.zeroCells, hzd, hj, Array.getElem?_eq_getElem hlt]
                    rw [getElem!_pos z.cells _ hlt]
                  · rw [List.getElem?_eq_none (by rw [Array.length_toList, zeroCells_size, hzd]; omega), List.getElem?_eq_none (by rw [flatCells_length]; omega)]
                have hz1 : ∀ i j, i < n → j < d'.size → ((z.cells[j]?).getD undef).oneCell' = true := fun i j _ hj => by
                  obtain ⟨u, e1, e2, _⟩ := hzc.2 j _ (List.getElem?_eq_getElem (by omega))
                  simp [e1, e2]
                have hfl : (flatCells d'.size n fun _ j => (z.cells[j]?).getD undef).length = n * d'.size := flatCells_length _ _ _
                have hmul : r.base + lo * d'.size + n * d'.size ≤ r.base + r.cap * d'.size := by
                  have : (lo + n) * d'.size ≤ r.cap * d'.size := Nat.mul_le_mul_right _ (by omega)
                  rw [Nat.add_mul] at this
                  omega
                have hst := run_storeCells_at P r.blk (r.base + lo * d'.size) E (flatCells d'.size n fun _ j => (z.cells[j]?).getD undef) 0 cs w hh (by rw [hfl]; omega) (flatCells_one hz1)
                simp only [Nat.add_zero] at hst
                obtain ⟨q1, q2, q3, q4, q5⟩ := setRow_eq w r.blk (cs.toList.take (r.base + lo * d'.size) ++ (flatCells d'.size n fun _ j => (z.cells[j]?).getD undef) ++ cs.toList.drop (r.base + lo * d'.size + (flatCells d'.size n fun _ j => (z.cells[j]?).getD undef).length)).toArray
                have hspl := arr_splice (ys := List.replicate n zs) (lo := lo) (f := fun _ j => (z.cells[j]?).getD undef) hr hnl hown.2.2 hh hl hm hcs hkx hv (by rw [hrl]; exact hn) (fun y hy => by rw [List.eq_of_mem_replicate hy, hzl]) (by rw [hrl]; exact hz1) (fun i j y q e e' => by
                  have hi : i < n := by have := (List.getElem?_eq_some_iff.1 e).1; simpa using this
                  rw [List.getElem?_replicate, if_pos hi] at e
                  injection e with e
                  subst e
                  obtain ⟨u, q1, q2, q3⟩ := hzc.2 _ _ e'
                  simpa [q1] using q3)
                simp only [hrl] at hspl
                refine ⟨p, .tuple #[], _, hexec ?_, hs.write hr hnl _ q1 q2 q3 q4 q5 hspl, .tup rfl (fun i v a e => by simp at e), fun h => by simp [ho, Op.quiet] at h, fun _ _ => .inl rfl⟩
                rw [hxv]
                obtain ⟨m, rfl⟩ : ∃ m, n = m + 1 := ⟨n - 1, by omega⟩
                simp [Builtin.clear_, run_underlying hu, hrz, hflat, hst]
          · cases h
        · cases h
      · cases h
    · cases h
  · cases h

/-- Numbers in a row of bytes. -/
def numsOf : List (List AV) → Option (List Int)
  | [] => some []
  | x :: xs => match x, numsOf xs with
    | [.raw (.int .u8 n)], some ns => some (n :: ns)
    | _, _ => none

theorem numsOf_get : ∀ {xs : List (List AV)} {ns : List Int}, numsOf xs = some ns → ns.length = xs.length ∧ ∀ i, i < xs.length → xs[i]? = some [.raw (.int .u8 (ns.getD i 0))]
  | [], ns, h => by injection h with h; subst h; exact ⟨rfl, fun i hi => by simp at hi⟩
  | x :: xs, ns, h => by
    simp only [numsOf] at h
    split at h
    · rename_i n ns' he hx
      injection h with h
      subst h
      obtain ⟨h1, h2⟩ := numsOf_get hx
      refine ⟨by simp [h1], fun i hi => ?_⟩
      cases i with
      | zero => rfl
      | succ i => simpa using h2 i (by simpa using hi)
    · cases h

/-- string(b), of bytes. -/
def evConvBytes (P : Program) (GT : Ctx) (s : St) (S D : TypeId) (x : Operand) : Option Res :=
  match td P S, td P D with
  | some d, some d' => match d.kind, d'.kind with
    | .slice e, .str => match td P e with
      | some de => match de.kind with
        | .int .u8 => match srcOf s 1 (ev GT s x) with
          | some xs => match numsOf xs with
            | some ns => some ⟨True, .raw (.string (strOfNums ns)), s⟩
            | none => none
          | none => none
        | _ => none
      | none => none
    | _, _ => none
  | _, _ => none

theorem src_conc_blk {w0 : World} {G : Nat → Prop} {p : Place} {I : Nat → Prop} {a : Act} {w : World} (hs : Sim GT w0 G p I s a w) {k : Nat} {v : Value} {x : AV} {ys : List (List AV)} (hc : Conc I w p v x) (he : srcOf s k x = some ys) :
    ∃ (A : Option Addr) (c : Nat) (f : Nat → Nat → Value), v = .slice A ys.length c ∧
      (ys = [] ∨ ∃ b off, A = some ⟨b, off, none⟩ ∧ b < w.heap.size ∧ ∀ i j, i < ys.length → j < k → w.cell? ⟨b, off + i * k + j, none⟩ = some (f i j)) ∧
      (∀ (i j : Nat) (y : List AV) (z : AV), ys[i]? = some y → y[j]? = some z → Conc I w noPlace (f i j) z) := by
  obtain ⟨A, c, f, h1, _, h3, _, h5⟩ := src_conc hs hc he
  exact ⟨A, c, f, h1, h3, h5⟩

theorem evConvBytes_ok {S D : TypeId} {x : Operand} {r : Res} (ho : o.op = .convert S D x) (h : evConvBytes P GT s S D x = some r) : StepPure P GT o s r := by
  unfold evConvBytes at h
  split at h
  · rename_i d d' hd hd'
    split at h
    · rename_i e hk hk'
      have hu := td_slice hd hk
      split at h
      · rename_i de hde
        split at h
        · rename_i hke
          have hue := td_int hde hke
          split at h
          · rename_i xs hxs
            split at h
            · rename_i ns hns
              injection h with h
              subst h
              refine stepOK_pure fun _ w0 G p I a w hs => ⟨_, fun w' hw' => ?_, .raw⟩
              have hag := hw' (by simp [ho, Op.reads])
              obtain ⟨g1, g2⟩ := numsOf_get hns
              obtain ⟨A, c, f, hv, hcell, hcv⟩ := src_conc_blk hs (hs.ev x) hxs
              have hrun : (convert S D (.slice A xs.length c)).run P w' = .ok (.string (strOfNums ns)) w' := by
                rcases hcell with h0 | ⟨b, off, hA, hb, hcell⟩
                · subst h0
                  have : ns = [] := List.eq_nil_of_length_eq_zero (by rw [g1]; rfl)
                  subst this
                  cases A with
                  | none => exact run_convert_bytes_nil w' S e hu hue _ _ D (td_str hd' hk')
                  | some A =>
                    rw [run_convert_bytes_string w' S D e _ _ c hu hue (td_str hd' hk')]
                    simp [Conv.bytesToString, loadCells, loadCellsFrom, strOfNums]
                    rfl
                · subst hA
                  refine run_convert_bytes_arg w' S e hu hue b off xs.length c ns g1 (fun i hi => ?_) D (td_str hd' hk')
                  have h1 := hcell i 0 hi (by omega)
                  have h2 := hcv i 0 _ _ (g2 i hi) rfl
                  rw [h2.raw_eq] at h1
                  have := hag.cell h1
                  simpa using this
              simp [execOp, ho, hv, hrun]
            · cases h
          · cases h
        · cases h
      · cases h
    · cases h
  · cases h

end
end Go.Proofs.YtangkndckghblaaDoor.Abs
