/- Slices that are built of all their elements at once. -/
import Derived.Test.YtmfgaefefgnhbaaGreatDoorT4
import Derived.Test.YtmfgaefefgnhbaaGreatDoorT3
namespace Go.Proofs.YtmfgaefefgnhbaaGreatDoor.Abs
set_option linter.unusedSimpArgs false
set_option linter.unusedVariables false
open Go Go.RowKit

def gatherB (k : Nat) : Nat → List (Nat × AV) → Option (List (List AV))
  | _, [] => some []
  | i, (j, v) :: r => if j = i then match cellsOf v with
      | some cs => if cs.length = k then match gatherB k (i + 1) r with
          | some xs => some (cs :: xs)
          | none => none
        else none
      | none => none
    else none
theorem gatherB_len {k : Nat} : ∀ {parts : List (Nat × AV)} {i : Nat} {xs : List (List AV)}, gatherB k i parts = some xs → ∀ x, x ∈ xs → x.length = k
  | [], i, xs, h => by simp only [gatherB, Option.some.injEq] at h; subst h; intro x hx; cases hx
  | (j, v) :: r, i, xs, h => by
    simp only [gatherB] at h
    split at h
    · split at h
      · split at h
        · split at h
          · rename_i cs _ hl _ ys hy
            simp only [Option.some.injEq] at h
            subst h
            intro x hx
            rcases List.mem_cons.1 hx with rfl | hx
            · exact hl
            · exact gatherB_len hy x hx
          · cases h
        · cases h
      · cases h
    · cases h
theorem flat_len {k : Nat} : ∀ {xs : List (List AV)}, (∀ x, x ∈ xs → x.length = k) → xs.flatten.length = xs.length * k
  | [], _ => by simp
  | x :: xs, h => by
    rw [List.flatten_cons, List.length_append, h x (by simp), flat_len fun y hy => h y (by simp [hy]), List.length_cons, Nat.add_mul]
    omega
theorem gatherB_fill {k : Nat} {zs : List AV} (hz : zs.length = k) : ∀ {parts : List (Nat × AV)} {pre xs : List (List AV)} {m : Nat}, gatherB k pre.length parts = some xs → (∀ x, x ∈ pre → x.length = k) → xs.length ≤ m →
    fillA (fun i => some (i * k, k)) (pre.flatten ++ (List.replicate m zs).flatten) parts = some ((pre ++ xs).flatten ++ (List.replicate (m - xs.length) zs).flatten)
  | [], pre, xs, m, h, hp, hm => by
    simp only [gatherB, Option.some.injEq] at h
    subst h
    simp [fillA]
  | (j, v) :: r, pre, xs, m, h, hp, hm => by
    simp only [gatherB] at h
    split at h
    · rename_i hj
      split at h
      · rename_i cs hc
        split at h
        · rename_i hl
          split at h
          · rename_i ys hy
            simp only [Option.some.injEq] at h
            subst h
            subst hj
            have hpl := flat_len hp
            obtain ⟨m', rfl⟩ : ∃ m', m = m' + 1 := ⟨m - 1, by simp at hm; omega⟩
            simp only [fillA, hc]
            rw [if_pos ⟨hl, by
              rw [List.length_append, hpl, List.replicate_succ, List.flatten_cons, List.length_append, hz]; omega⟩]
            have e : splice (pre.flatten ++ (List.replicate (m' + 1) zs).flatten) (pre.length * k) cs = (pre ++ [cs]).flatten ++ (List.replicate m' zs).flatten := by
              unfold splice
              rw [← hpl, List.take_left, hl]
              rw [List.drop_append, Nat.add_sub_cancel_left, List.drop_eq_nil_of_le (by omega), List.nil_append, List.replicate_succ, List.flatten_cons, List.drop_left' hz]
              simp
            rw [e]
            have ih := gatherB_fill hz (parts := r) (pre := pre ++ [cs]) (xs := ys) (m := m') (by simpa using hy) (fun x hx => by
              rcases List.mem_append.1 hx with hx | hx
              · exact hp x hx
              · rw [List.mem_singleton.1 hx]; exact hl) (by simp at hm; omega)
            rw [ih]
            simp
          · cases h
        · cases h
      · cases h
    · cases h
theorem chunks_flat {k : Nat} : ∀ {xs : List (List AV)}, (∀ x, x ∈ xs → x.length = k) → chunks k xs.length xs.flatten = xs
  | [], _ => rfl
  | x :: xs, h => by
    have hx := h x (by simp)
    simp only [List.length_cons, chunks, List.flatten_cons]
    rw [List.take_left' hx, List.drop_left' hx, chunks_flat fun y hy => h y (by simp [hy])]
theorem immL_append : ∀ {a b : List AV}, AV.immL (a ++ b) = (AV.immL a && AV.immL b)
  | [], b => by simp [AV.immL]
  | x :: a, b => by simp [AV.immL, immL_append (a := a) (b := b), Bool.and_assoc]
theorem immL_flat : ∀ {xs : List (List AV)}, AV.immL xs.flatten = xs.all fun x => AV.immL x
  | [] => by simp [AV.immL]
  | x :: xs => by rw [List.flatten_cons, immL_append, immL_flat, List.all_cons]
def zeroOk (d : TD) : Bool := match zeroAV d with
  | some zs => decide (zs.length = d.size)
  | none => false
def allImm : List (List AV) → Bool
  | [] => true
  | x :: xs => if AV.immL x = true then allImm xs else false
theorem allImm_eq : ∀ {xs : List (List AV)}, allImm xs = xs.all fun x => AV.immL x
  | [] => rfl
  | x :: xs => by
    rw [List.all_cons, allImm, allImm_eq]
    cases AV.immL x <;> rfl
/-- The slice, if all elements are given in their order. -/
def fastB (P : Program) (GT : Ctx) (s : St) (T : TypeId) (n : Nat) (parts : List (Nat × Operand)) : Option Res :=
  match td P T with
  | some d => match d.kind with
    | .slice e => match td P e with
      | some d' => match gatherB d'.size 0 (parts.map fun x => (x.1, ev GT s x.2)) with
        | some xs => if xs.length = n ∧ n * d'.size ≤ 16777216 ∧ n ≤ 16777216 ∧ zeroOk d' = true ∧ allImm xs = true then some ⟨True, .own s.objs.length d'.size 0 n, { s with objs := s.objs ++ [.arr d'.size xs] }⟩ else none
        | none => none
      | none => none
    | _ => none
  | none => none
theorem fastB_ok {P : Program} {GT : Ctx} {s : St} {T : TypeId} {n : Nat} {parts : List (Nat × Operand)} {r : Res} (h : fastB P GT s T n parts = some r) : evBuildSlice P GT s T n parts.toArray = some r := by
  unfold fastB at h
  split at h
  · rename_i d hd
    split at h
    · rename_i e hk
      split at h
      · rename_i d' hd'
        split at h
        · rename_i xs hx
          split at h
          · rename_i hc
            obtain ⟨h1, h2, h3, h4, h5⟩ := hc
            unfold zeroOk at h4
            split at h4
            · rename_i zs hz
              have hzl := of_decide_eq_true h4
              have hlen := gatherB_len hx
              have hf := gatherB_fill (zs := zs) hzl (pre := []) (m := n) (by simpa using hx) (fun x hx => by cases hx) (by omega)
              unfold evBuildSlice
              simp only [hd, hk, hd', hz]
              rw [if_pos ⟨hzl, h2, h3⟩]
              simp only [List.flatten_nil, List.nil_append] at hf
              rw [hf]
              have e0 : n - xs.length = 0 := by omega
              simp only [e0, List.replicate_zero, List.flatten_nil, List.append_nil]
              rw [if_pos (by rw [immL_flat, ← allImm_eq]; exact h5), ← h, ← h1, chunks_flat hlen]
            · cases h4
          · cases h
        · cases h
      · cases h
    · cases h
  · cases h
/-- The same cells, gathered one by one (no match on what is still to come). -/
def gM (k : Nat) (f : List AV → Option (List (List AV))) : Option (List AV) → Option (List (List AV))
  | some cs => if cs.length = k then f cs else none
  | none => none
def gT (k : Nat) : Nat → List (List AV) → List (Nat × AV) → Option (List (List AV))
  | _, acc, [] => some acc
  | i, acc, (j, v) :: r => if j = i then gM k (fun cs => gT k (i + 1) (acc ++ [cs]) r) (cellsOf v) else none
theorem gT_nil {k i : Nat} {acc : List (List AV)} : gT k i acc [] = some acc := rfl
theorem gT_cons {k i j : Nat} {v : AV} {r : List (Nat × AV)} {acc : List (List AV)} : gT k i acc ((j, v) :: r) = if j = i then gM k (fun cs => gT k (i + 1) (acc ++ [cs]) r) (cellsOf v) else none := rfl
theorem gM_some {k : Nat} {f : List AV → Option (List (List AV))} {cs : List AV} : gM k f (some cs) = if cs.length = k then f cs else none := rfl
theorem gT_eq {k : Nat} : ∀ {parts : List (Nat × AV)} {i : Nat} {acc xs : List (List AV)}, gT k i acc parts = some xs → ∃ ys, xs = acc ++ ys ∧ gatherB k i parts = some ys
  | [], i, acc, xs, h => by
    simp only [gT, Option.some.injEq] at h
    exact ⟨[], by simp [h], rfl⟩
  | (j, v) :: r, i, acc, xs, h => by
    simp only [gT] at h
    split at h
    · rename_i hj
      cases hc : cellsOf v with
      | none => rw [hc] at h; cases h
      | some cs =>
        rw [hc] at h
        simp only [gM] at h
        split at h
        · rename_i hl
          obtain ⟨ys, h1, h2⟩ := gT_eq h
          exact ⟨cs :: ys, by rw [h1]; simp, by simp [gatherB, hj, hc, hl, h2]⟩
        · cases h
    · cases h
/-- The slice once its cells are gathered; the slow way otherwise. -/
def fD (P : Program) (GT : Ctx) (s : St) (T : TypeId) (n : Nat) (parts : List (Nat × Operand)) (d' : TD) : Option (List (List AV)) → Option Res
  | some xs => if xs.length = n ∧ n * d'.size ≤ 16777216 ∧ n ≤ 16777216 ∧ zeroOk d' = true ∧ allImm xs = true then some ⟨True, .own s.objs.length d'.size 0 n, { s with objs := s.objs ++ [.arr d'.size xs] }⟩ else evBuildSlice P GT s T n parts.toArray
  | none => evBuildSlice P GT s T n parts.toArray
def fC (P : Program) (GT : Ctx) (s : St) (T : TypeId) (n : Nat) (parts : List (Nat × Operand)) : Option TD → Option Res
  | some d' => fD P GT s T n parts d' (gT d'.size 0 [] (parts.map fun x => (x.1, ev GT s x.2)))
  | none => evBuildSlice P GT s T n parts.toArray
def fB (P : Program) (GT : Ctx) (s : St) (T : TypeId) (n : Nat) (parts : List (Nat × Operand)) : Option TD → Option Res
  | some ⟨_, _, _, _, .slice e⟩ => fC P GT s T n parts (td P e)
  | _ => evBuildSlice P GT s T n parts.toArray
theorem fB_slow {P : Program} {GT : Ctx} {s : St} {T : TypeId} {n : Nat} {parts : List (Nat × Operand)} : evBuildSlice P GT s T n parts.toArray = fB P GT s T n parts (td P T) := by
  cases hd : td P T with
  | none => simp only [fB, fC, fD]
  | some d =>
    obtain ⟨a, b, c, z, kd⟩ := d
    cases kd with
    | slice e =>
      simp only [fB]
      cases hd' : td P e with
      | none => simp only [fB, fC, fD]
      | some d' =>
        simp only [fC]
        cases hg : gT d'.size 0 [] (parts.map fun x => (x.1, ev GT s x.2)) with
        | none => simp only [fB, fC, fD]
        | some xs =>
          simp only [fD]
          split
          · rename_i hc
            obtain ⟨ys, h1, h2⟩ := gT_eq hg
            rw [List.nil_append] at h1
            subst h1
            refine fastB_ok ?_
            unfold fastB
            simp only [hd, hd', h2]
            rw [if_pos hc]
          · rfl
    | _ => simp only [fB, fC, fD]
@[go_sem ↓ high] theorem evalOp_build {P : Program} {GT : Ctx} {s : St} {T : TypeId} {n : Nat} {parts : List (Nat × Operand)} : evalOp P GT s (.buildSlice T n parts.toArray) = fB P GT s T n parts (td P T) := fB_slow
section
variable {P : Program} {GT : Ctx} {s : St} {T : TypeId} {n : Nat} {parts : List (Nat × Operand)}
@[go_sem] theorem fB_slice {e : TypeId} {a b : Nat} {c : Bool} {z : Option (List Value)} : fB P GT s T n parts (some ⟨a, b, c, z, .slice e⟩) = fC P GT s T n parts (td P e) := rfl
@[go_sem] theorem fC_some {d' : TD} : fC P GT s T n parts (some d') = fD P GT s T n parts d' (gT d'.size 0 [] (parts.map fun x => (x.1, ev GT s x.2))) := rfl
@[go_sem] theorem fD_some {d' : TD} {xs : List (List AV)} : fD P GT s T n parts d' (some xs) = if xs.length = n ∧ n * d'.size ≤ 16777216 ∧ n ≤ 16777216 ∧ zeroOk d' = true ∧ allImm xs = true then some ⟨True, .own s.objs.length d'.size 0 n, { s with objs := s.objs ++ [.arr d'.size xs] }⟩ else evBuildSlice P GT s T n parts.toArray := rfl
@[go_sem] theorem fD_none {d' : TD} : fD P GT s T n parts d' none = evBuildSlice P GT s T n parts.toArray := rfl
end
attribute [go_sem] gT_nil gT_cons gM_some zeroOk allImm
attribute [go_sem ↓] reduceIte
/-- Nothing is reached from nothing. -/
@[go_sem high] theorem reach_nil {s : St} {n : Nat} : s.reach n [] = [] := by cases n <;> rfl
end Go.Proofs.YtmfgaefefgnhbaaGreatDoor.Abs
