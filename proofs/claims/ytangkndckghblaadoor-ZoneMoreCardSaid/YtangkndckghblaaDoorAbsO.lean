/- What came in, opened by its type's shape: the reading of an argument gives plain data, and an abstract value that says the same. No program in sight. -/
import Derived.Test.YtangkndckghblaaDoorAbsN
import Derived.ChangeArms
import Derived.OpenShut
namespace Go.Proofs.YtangkndckghblaaDoor.Abs
set_option linter.unusedSimpArgs false
set_option linter.unusedVariables false
open Go Go.RowKit

/-- Shapes of types. -/
inductive Sh where
  | int (k : IntKind)
  | bool
  | str
  | unit
  | pair (a b : Sh)
  | slice (e : Sh)

/-- The data of a shape. -/
def Sh.Den : Sh → Type
  | .int _ => Int
  | .bool => Bool
  | .str => ByteArray
  | .unit => Unit
  | .pair a b => a.Den × b.Den
  | .slice e => List e.Den
/-- How many cells it has. -/
def Sh.size : Sh → Nat
  | .int _ => 1
  | .bool => 1
  | .str => 1
  | .unit => 0
  | .pair a b => a.size + b.size
  | .slice _ => 1
def Sh.enc : (s : Sh) → s.Den → List AV
  | .int k, n => [.raw (.int k n)]
  | .bool, b => [.raw (.bool b)]
  | .str, s => [.raw (.string s)]
  | .unit, _ => []
  | .pair a b, (x, y) => a.enc x ++ b.enc y
  | .slice e, (xs : List e.Den) => [.lst e.size (xs.map e.enc)]
/-- What is known of data that came in. -/
def Sh.Ok : (s : Sh) → s.Den → Prop
  | .int k, n => (Lit.int k n).wf = true
  | .bool, _ => True
  | .str, (s : ByteArray) => s.size ≤ maxLen
  | .unit, _ => True
  | .pair a b, (x, y) => a.Ok x ∧ b.Ok y
  | .slice e, (xs : List e.Den) => xs.length ≤ maxLen ∧ ∀ x, x ∈ xs → e.Ok x
/-- The value of an argument. -/
def Sh.av : (s : Sh) → s.Den → AV
  | .pair a b, d => .agg ((Sh.pair a b).enc d)
  | .unit, d => .agg (Sh.unit.enc d)
  | .int k, n => .raw (.int k n)
  | .bool, b => .raw (.bool b)
  | .str, s => .raw (.string s)
  | .slice e, (xs : List e.Den) => .lst e.size (xs.map e.enc)

theorem Sh.enc_len : (s : Sh) → (d : s.Den) → (s.enc d).length = s.size
  | .int _, _ => rfl
  | .bool, _ => rfl
  | .str, _ => rfl
  | .unit, _ => rfl
  | .pair a b, (x, y) => by simp [Sh.enc, Sh.size, Sh.enc_len a x, Sh.enc_len b y]
  | .slice _, _ => rfl

/-- Whether a type, or the fields of one from a cell on, have a shape. -/
def Sh.fit (P : Program) : Sh → (TypeId → Bool) × (List Field → Nat → Bool)
  | .int k => (fun t => match P.underlying t with | some (.int k') => decide (k' = k) | _ => false, fun _ _ => false)
  | .bool => (fun t => match P.underlying t with | some .bool => true | _ => false, fun _ _ => false)
  | .str => (fun t => match P.underlying t with | some .string => true | _ => false, fun _ _ => false)
  | .slice e => (fun t => match P.underlying t with | some (.slice u) => P.cellsOf u == e.size && decide (0 < e.size) && (e.fit P).1 u | _ => false, fun _ _ => false)
  | .unit => (fun _ => false, fun fs _ => fs.isEmpty)
  | .pair a b => (fun t => match P.underlying t with
      | some (.struct fs) => P.cellsOf t == a.size + b.size && (match fs.toList with
        | f :: rest => f.offset == 0 && P.cellsOf f.type == a.size && (a.fit P).1 f.type && (b.fit P).2 rest a.size
        | [] => false)
      | _ => false,
    fun fs off => match fs with
      | f :: rest => f.offset == off && P.cellsOf f.type == a.size && (a.fit P).1 f.type && (b.fit P).2 rest (off + a.size)
      | [] => false)

section
variable {H : Type} {enc : TypeId × Value → H} {P : Program} {w : World} {spare : Nat → Bool}

/-- Cells, and what is said of them. -/
def Opens (w : World) (cs : List Value) (as : List AV) : Prop :=
  as.length = cs.length ∧ ∀ (i : Nat) (v : Value) (a : AV), cs[i]? = some v → as[i]? = some a → v.oneCell' = true ∧ Conc (fun b => b < w.heap.size) w noPlace v a

theorem Opens.one {v : Value} {a : AV} (h1 : v.oneCell' = true) (h : Conc (fun b => b < w.heap.size) w noPlace v a) : Opens w [v] [a] := by
  refine ⟨rfl, fun i u x e e' => ?_⟩
  rcases i with _ | i
  · simp at e e'; subst e; subst e'; exact ⟨h1, h⟩
  · simp at e
theorem Opens.append {cs cs' : List Value} {as as' : List AV} (h : Opens w cs as) (h' : Opens w cs' as') : Opens w (cs ++ cs') (as ++ as') := by
  refine ⟨by simp [h.1, h'.1], fun i v a e e' => ?_⟩
  rw [List.getElem?_append] at e e'
  rw [h.1] at e'
  split at e
  · rename_i hi
    rw [if_pos hi] at e'
    exact h.2 i v a e e'
  · rename_i hi
    rw [if_neg hi] at e'
    exact h'.2 _ v a e e'

theorem add_cell {b off k j : Nat} : ((⟨b, off, none⟩ : Addr).add k).add j = ⟨b, off + k + j, none⟩ := by
  by_cases hk : k = 0 <;> by_cases hj : j = 0 <;> simp [Addr.add, hk, hj]

theorem collect {α : Type} {p : Nat → α → Prop} : ∀ n : Nat, (∀ i, i < n → ∃ d, p i d) → ∃ xs : List α, xs.length = n ∧ ∀ i (hi : i < xs.length), p i xs[i]
  | 0, _ => ⟨[], rfl, fun i hi => by simp at hi⟩
  | n + 1, h => by
    obtain ⟨xs, h1, h2⟩ := collect n fun i hi => h i (by omega)
    obtain ⟨d, hd⟩ := h n (by omega)
    refine ⟨xs ++ [d], by simp [h1], fun i hi => ?_⟩
    rw [List.getElem_append]
    split
    · exact h2 i (by assumption)
    · have hi' : i = n := by simp at hi; omega
      subst hi'
      simpa using hd

/-- The reading of a value, or of the fields of one, gives data of its shape. -/
theorem open_both : (s : Sh) →
    (∀ (t : TypeId) (n : Nat) (cs : List Value) (x : DataW H × List MemPlace), (s.fit P).1 t = true → DataW.trod enc P w 0 spare true n t cs = some x → ∃ d : s.Den, s.Ok d ∧ Opens w cs (s.enc d)) ∧
    (∀ (fs : List Field) (off n : Nat) (cs : List Value), (s.fit P).2 fs off = true → cs.length = off + s.size →
      (∀ f, f ∈ fs → ∃ y, DataW.trod enc P w 0 spare true n f.type ((cs.drop f.offset).take (P.cellsOf f.type)) = some y) → ∃ d : s.Den, s.Ok d ∧ Opens w (cs.drop off) (s.enc d)) := by
  intro s
  induction s with
  | int k =>
    refine ⟨fun t n cs x hf h => ?_, fun fs off n cs hf => by cases hf⟩
    simp only [Sh.fit] at hf
    split at hf
    · rename_i k' hu
      have hk : k' = k := of_decide_eq_true hf
      subst hk
      obtain ⟨m, rfl, _, hw⟩ := DataW.trod_int hu h
      exact ⟨m, hw, .one rfl .raw⟩
    · cases hf
  | bool =>
    refine ⟨fun t n cs x hf h => ?_, fun fs off n cs hf => by cases hf⟩
    simp only [Sh.fit] at hf
    split at hf
    · rename_i hu
      obtain ⟨m, rfl, _⟩ := DataW.trod_bool hu h
      exact ⟨m, trivial, .one rfl .raw⟩
    · cases hf
  | str =>
    refine ⟨fun t n cs x hf h => ?_, fun fs off n cs hf => by cases hf⟩
    simp only [Sh.fit] at hf
    split at hf
    · rename_i hu
      obtain ⟨m, rfl, _, hw⟩ := DataW.trod_string hu h
      exact ⟨m, hw, .one rfl .raw⟩
    · cases hf
  | unit =>
    refine ⟨fun t n cs x hf h => (by cases hf), fun fs off n cs hf hl _ => ⟨(), trivial, ?_⟩⟩
    have : cs.drop off = [] := List.drop_eq_nil_of_le (by simp [Sh.size] at hl; omega)
    rw [this]
    exact ⟨rfl, fun i v a e => by simp at e⟩
  | slice e ih =>
    refine ⟨fun t n cs x hf h => ?_, fun fs off n cs hf => by cases hf⟩
    simp only [Sh.fit] at hf
    split at hf
    · rename_i u hu
      simp only [Bool.and_eq_true, beq_iff_eq, decide_eq_true_eq] at hf
      obtain ⟨⟨hc, hpos⟩, hfe⟩ := hf
      rcases DataW.trod_slice hu h with ⟨rfl, _⟩ | ⟨a, len, cap, elems, rest, m, _, rfl, _, hb, hl, hm, hlen, hel, _, _⟩
      · refine ⟨([] : List e.Den), ⟨Nat.zero_le _, fun x hx => (by cases hx)⟩, .one rfl ?_⟩
        exact .lst (f := fun _ _ => .bool false) rfl (Nat.le_refl _) (Nat.zero_le _) (by simp) (.inl rfl) (by simp) (by simp)
      · have each : ∀ i, i < len → ∃ cs' d, w.cells? 0 (a.add (i * e.size)) e.size = some cs' ∧ e.Ok d ∧ Opens w cs' (e.enc d) := by
          intro i hi
          have h1 := hel i hi
          rw [List.getElem?_eq_getElem (by omega), Option.bind_eq_some_iff] at h1
          obtain ⟨cs', h2, h3⟩ := h1
          obtain ⟨d, h4, h5⟩ := ih.1 u m cs' _ hfe h3
          rw [hc] at h2
          exact ⟨cs', d, h2, h4, h5⟩
        have hxs : ∃ xs : List e.Den, xs.length = len ∧ ∀ i (hi : i < xs.length), e.Ok xs[i] ∧ ∃ cs', w.cells? 0 (a.add (i * e.size)) e.size = some cs' ∧ Opens w cs' (e.enc xs[i]) := by
          exact collect (p := fun i d => e.Ok d ∧ ∃ cs', w.cells? 0 (a.add (i * e.size)) e.size = some cs' ∧ Opens w cs' (e.enc d)) len fun i hi => by
            obtain ⟨cs', d, h1, h2, h3⟩ := each i hi
            exact ⟨d, h2, cs', h1, h3⟩
        obtain ⟨xs, hxl, hxs⟩ := hxs
        refine ⟨xs, ⟨by omega, fun x hx => ?_⟩, .one rfl ?_⟩
        · obtain ⟨i, hi, rfl⟩ := List.mem_iff_getElem.1 hx
          exact (hxs i hi).1
        · by_cases h0 : len = 0
          · subst h0
            have : xs = [] := List.length_eq_zero_iff.1 hxl
            subst this
            exact .lst (f := fun _ _ => .bool false) rfl hl hm (by simp) (.inl rfl) (by simp) (by simp)
          · obtain ⟨b, off, spot⟩ := a
            have hcell : ∀ i j, i < xs.length → j < e.size → ∃ v y, w.cell? (((⟨b, off, spot⟩ : Addr).add (i * e.size)).add j) = some v ∧ (∀ (hi : i < xs.length), (e.enc xs[i])[j]? = some y) ∧ v.oneCell' = true ∧ Conc (fun b => b < w.heap.size) w noPlace v y := by
              intro i j hi hj
              obtain ⟨_, cs', h1, h2⟩ := hxs i hi
              obtain ⟨_, h3, h4⟩ := World.cells?_some h1
              have hj' : j < cs'.length := by omega
              have hj2 : j < (e.enc xs[i]).length := by rw [e.enc_len]; exact hj
              obtain ⟨h5, h6⟩ := h2.2 j _ _ (List.getElem?_eq_getElem hj') (List.getElem?_eq_getElem hj2)
              exact ⟨_, _, (h4 j hj).trans (List.getElem?_eq_getElem hj'), fun _ => List.getElem?_eq_getElem hj2, h5, h6⟩
            obtain ⟨v0, _, hc0, _⟩ := hcell 0 0 (by omega) hpos
            have hspot : spot = none := by simpa [Addr.add] using World.cell?_spot hc0
            subst hspot
            simp only [add_cell] at hcell hc0
            refine .lst (f := fun i j => (w.cell? ⟨b, off + i * e.size + j, none⟩).getD undef) (by simp [hxl]) hl hm (fun y hy => ?_) (.inr ⟨b, off, rfl, ?_, fun i j hi hj => ?_⟩) (fun i j hi hj => ?_) fun i j x y ex ey => ?_
            · obtain ⟨z, _, rfl⟩ := List.mem_map.1 hy
              exact e.enc_len z
            · rcases Nat.lt_or_ge b w.heap.size with h | h
              · exact h
              · simp [World.cell?, Array.getElem?_eq_none h] at hc0
            · rw [List.length_map] at hi
              obtain ⟨v, y, h1, _⟩ := hcell i j hi hj
              simp [h1]
            · rw [List.length_map] at hi
              obtain ⟨v, y, h1, _, h3, _⟩ := hcell i j hi hj
              simp [h1, h3]
            · rw [List.getElem?_map] at ex
              have hi : i < xs.length := by
                rcases Nat.lt_or_ge i xs.length with h | h
                · exact h
                · rw [List.getElem?_eq_none h] at ex; cases ex
              rw [List.getElem?_eq_getElem hi] at ex
              simp only [Option.map_some, Option.some.injEq] at ex
              subst ex
              have hj : j < e.size := by
                have := (List.getElem?_eq_some_iff.1 ey).1
                rwa [e.enc_len] at this
              obtain ⟨v, z, h1, h2, _, h4⟩ := hcell i j hi hj
              rw [h2 hi] at ey
              injection ey with ey
              subst ey
              simpa [h1] using h4
    · cases hf
  | pair a b iha ihb =>
    have fields : ∀ (fs : List Field) (off n : Nat) (cs : List Value), ((Sh.pair a b).fit P).2 fs off = true → cs.length = off + (a.size + b.size) →
        (∀ f, f ∈ fs → ∃ y, DataW.trod enc P w 0 spare true n f.type ((cs.drop f.offset).take (P.cellsOf f.type)) = some y) → ∃ d : (Sh.pair a b).Den, (Sh.pair a b).Ok d ∧ Opens w (cs.drop off) ((Sh.pair a b).enc d) := by
      intro fs off n cs hf hl h
      simp only [Sh.fit] at hf
      split at hf
      · rename_i f rest
        simp only [Bool.and_eq_true, beq_iff_eq] at hf
        obtain ⟨⟨⟨h1, h2⟩, h3⟩, h4⟩ := hf
        obtain ⟨y, hy⟩ := h f (List.mem_cons_self ..)
        obtain ⟨d, hd, ho⟩ := iha.1 _ _ _ _ h3 hy
        obtain ⟨d', hd', ho'⟩ := ihb.2 rest (off + a.size) n cs h4 (by omega) fun g hg => h g (List.mem_cons_of_mem _ hg)
        refine ⟨(d, d'), ⟨hd, hd'⟩, ?_⟩
        have := ho.append ho'
        rw [h1, h2, ← List.drop_drop, List.take_append_drop] at this
        exact this
      · cases hf
    refine ⟨fun t n cs x hf h => ?_, fields⟩
    simp only [Sh.fit] at hf
    split at hf
    · rename_i fs hu
      obtain ⟨xs, m, _, _, hl, hxl, hxs⟩ := DataW.trod_struct hu h
      simp only [Bool.and_eq_true, beq_iff_eq] at hf
      obtain ⟨hsz, hf⟩ := hf
      have := fields fs.toList 0 m cs (by simpa [Sh.fit] using hf) (by omega) fun f hfm => by
        obtain ⟨i, hi, rfl⟩ := List.mem_iff_getElem.1 hfm
        have hi' : i < fs.size := by simpa using hi
        have := hxs i _ (Array.getElem?_eq_getElem hi')
        rw [List.getElem?_eq_getElem (by omega)] at this
        exact ⟨_, by simpa using this⟩
      simpa using this
    · cases hf

/-- An argument, opened. -/
theorem open_arg {base : Nat} (s : Sh) {t : TypeId} {v : Value} {d : DataW H} {ps : List MemPlace} (hf : (s.fit P).1 t = true) (hv : Value.okWide P w .any base t v) (h : DataW.Trod enc P w 0 spare true t v d ps) :
    ∃ d : s.Den, s.Ok d ∧ Conc (fun b => b < w.heap.size) w noPlace v (s.av d) := by
  obtain ⟨n, h⟩ := h
  obtain ⟨d, hd, ho⟩ := (open_both s).1 t n _ _ hf h
  refine ⟨d, hd, ?_⟩
  have one : ∀ (a : AV), Opens w v.cells.toList [a] → (∀ cs, v ≠ .agg cs) → Conc (fun b => b < w.heap.size) w noPlace v a := by
    intro a h1 h2
    have : v.cells = #[v] := by cases v <;> first | rfl | (exact absurd rfl (h2 _))
    rw [this] at h1
    exact (h1.2 0 v a rfl rfl).2
  have noagg : (∀ fs, P.underlying t ≠ some (.struct fs)) → (∀ n e, P.underlying t ≠ some (.array n e)) → ∀ cs, v ≠ .agg cs := by
    intro h1 h2 cs e
    subst e
    unfold Value.okWide at hv
    split at hv
    · rename_i hu; exact h1 _ hu
    · rename_i hu; exact h2 _ _ hu
    · unfold Cell.okWide at hv
      split at hv <;> simp_all [Cell.ok]
  cases s with
  | int k =>
    refine one _ ho (noagg (fun fs e => ?_) fun n u e => ?_) <;> simp [Sh.fit, e] at hf
  | bool => refine one _ ho (noagg (fun fs e => ?_) fun n u e => ?_) <;> simp [Sh.fit, e] at hf
  | str => refine one _ ho (noagg (fun fs e => ?_) fun n u e => ?_) <;> simp [Sh.fit, e] at hf
  | slice e => refine one _ ho (noagg (fun fs e => ?_) fun n u e => ?_) <;> simp [Sh.fit, e] at hf
  | unit => cases hf
  | pair a b =>
    simp only [Sh.fit] at hf
    split at hf
    · rename_i fs hu
      unfold Value.okWide at hv
      rw [hu] at hv
      obtain ⟨cs, rfl, _⟩ := hv
      refine .agg (by simpa [Value.cells] using ho.1) (fun i u e => ?_) fun i u y e e' => ?_
      · have e2 : (Value.agg cs).cells.toList[i]? = some u := by simpa [Value.cells] using e
        have hi := (List.getElem?_eq_some_iff.1 e2).1
        exact (ho.2 i u _ e2 (List.getElem?_eq_getElem (by rw [ho.1]; exact hi))).1
      · exact (ho.2 i u y (by simpa [Value.cells] using e) e').2
    · cases hf
end
end Go.Proofs.YtangkndckghblaaDoor.Abs
