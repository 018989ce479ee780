/- Maps that the call has made: asked and written. The abstract step in one; what is handed over at a call; contracts. The abstract machine: calls, control, loops; and that what it says of a function's body is the function's contract. Regions that draw their order: every order, with what a step that is taken first needs of the others. -/
import Derived.Test.YtmfgaefefgnhbaaGreatDoorT1
import Derived.MapKept
import Derived.Orders
import Derived.Laws.Cover3
namespace Go.Proofs.YtmfgaefefgnhbaaGreatDoor.Abs
set_option linter.unusedSimpArgs false
set_option linter.unusedVariables false
open Go Go.RowKit Go.MapKept

/-- The kind of keys of a type. -/
def keyKind (P : Program) (kt : TypeId) : Option MKind := match td P kt with
  | some d => match d.kind with
    | .str => some .str
    | .int k => some (.int k)
    | _ => none
  | none => none
def keyOf : MKind → AV → Option MKey
  | .str, .raw (.string b) => some (.str b)
  | .int k, .raw (.int k' n) => if k' = k then some (.int k n) else none
  | _, _ => none
/-- Where a key stands, and what stands there. -/
def midx : List (MKey × AV) → MKey → Option Nat
  | [], _ => none
  | x :: m, key => if x.1 = key then some 0 else (midx m key).map (· + 1)
def mfind : List (MKey × AV) → MKey → Option AV
  | [], _ => none
  | x :: m, key => if x.1 = key then some x.2 else mfind m key
/-- A key is given a value. -/
def mput (m : List (MKey × AV)) (key : MKey) (a : AV) : List (MKey × AV) := match midx m key with
  | some j => m.set j (key, a)
  | none => m ++ [(key, a)]
/-- A key is there. -/
def mtouch (m : List (MKey × AV)) (key : MKey) (a : AV) : List (MKey × AV) := match midx m key with
  | some _ => m
  | none => m ++ [(key, a)]
def mstamp (m : List (MKey × AV)) (key : MKey) : Int := match midx m key with
  | some j => j
  | none => m.length
def mset (m : List (MKey × AV)) (j : Nat) (a : AV) : List (MKey × AV) := m.modify j fun x => (x.1, a)

theorem MKey.val_inj {a b : MKey} (h : a.val = b.val) : a = b := by
  cases a <;> cases b <;> simp only [MKey.val, Value.string.injEq, Value.int.injEq, Value.agg.injEq, reduceCtorEq] at h
  · rw [h]
  · rw [h.1, h.2]
  · rename_i l l'
    have h : l.map (fun x => Value.int x.1 x.2) = l'.map fun x => Value.int x.1 x.2 := by simpa using h
    have : l = l' := by
      rename_i h0
      clear h0
      induction l generalizing l' with
      | nil => cases l' with
        | nil => rfl
        | cons y l' => cases h
      | cons x l ih => cases l' with
        | nil => cases h
        | cons y l' =>
          simp only [List.map_cons, List.cons.injEq, Value.int.injEq] at h
          obtain ⟨⟨h1, h2⟩, h3⟩ := h
          rw [ih l' h3, Prod.ext h1 h2]
    rw [this]
theorem midx_some : ∀ {m : List (MKey × AV)} {key : MKey} {j : Nat}, midx m key = some j → ∃ a, m[j]? = some (key, a) ∧ mfind m key = some a
  | [], _, _, h => by cases h
  | x :: m, key, j, h => by
    simp only [midx] at h
    split at h
    · rename_i hx
      injection h with h
      subst h
      exact ⟨x.2, by simp [← hx], by simp [mfind, hx]⟩
    · rename_i hx
      obtain ⟨i, hi, rfl⟩ := Option.map_eq_some_iff.1 h
      obtain ⟨a, h1, h2⟩ := midx_some hi
      exact ⟨a, by simpa using h1, by simp [mfind, hx, h2]⟩
theorem midx_none : ∀ {m : List (MKey × AV)} {key : MKey}, midx m key = none → (∀ x, x ∈ m → x.1 ≠ key) ∧ mfind m key = none
  | [], _, _ => ⟨by simp, rfl⟩
  | x :: m, key, h => by
    simp only [midx] at h
    split at h
    · cases h
    · rename_i hx
      have h' : midx m key = none := by simpa using h
      obtain ⟨h1, h2⟩ := midx_none h'
      refine ⟨fun y hy => ?_, by simp [mfind, hx, h2]⟩
      rcases List.mem_cons.1 hy with rfl | hy
      · exact hx
      · exact h1 y hy
theorem keys_nodup {m : List (MKey × AV)} (h : (m.map (·.1)).Nodup) {i j : Nat} {key : MKey} {a b : AV} (hi : m[i]? = some (key, a)) (hj : m[j]? = some (key, b)) : i = j := by
  have h1 : (m.map (·.1))[i]? = some key := by simp [List.getElem?_map, hi]
  have h2 : (m.map (·.1))[j]? = some key := by simp [List.getElem?_map, hj]
  have hl1 := (List.getElem?_eq_some_iff.1 h1).1
  have hl2 := (List.getElem?_eq_some_iff.1 h2).1
  rw [List.getElem?_eq_getElem hl1] at h1
  rw [List.getElem?_eq_getElem hl2] at h2
  exact (List.getElem_inj h).1 ((Option.some.inj h1).trans (Option.some.inj h2).symm)

section
variable {P : Program} {GT : Ctx} {o : Oper} {s : St}

/-- What a kind of keys is. -/
def MKind.desc : MKind → TypeDesc
  | .str => .string
  | .int k => .int k
  | .ints _ => .bool
theorem keyKind_desc {kt : TypeId} {kd : MKind} (h : keyKind P kt = some kd) : P.underlying kt = some kd.desc ∧ ∀ key : MKey, key.kind = kd → IsKey kd.desc key.val := by
  unfold keyKind at h
  split at h
  · rename_i d hd
    split at h
    · rename_i hk
      injection h with h; subst h
      refine ⟨td_str hd hk, fun key hkey => ?_⟩
      cases key <;> first | trivial | (simp [MKey.kind] at hkey)
    · rename_i k hk
      injection h with h; subst h
      refine ⟨td_int hd hk, fun key hkey => ?_⟩
      cases key <;> simp [MKey.kind] at hkey
      exact hkey
    · cases h
  · cases h
theorem keyOf_conc {kd : MKind} {x : AV} {key : MKey} (h : keyOf kd x = some key) : key.kind = kd ∧ x = .raw key.val := by
  unfold keyOf at h
  split at h
  · injection h with h; subst h; exact ⟨rfl, rfl⟩
  · rename_i k k' n
    split at h
    · rename_i hk
      injection h with h; subst h; subst hk
      exact ⟨rfl, rfl⟩
    · cases h
  · cases h
theorem conc_raw {I : Nat → Prop} {w : World} {p : Place} {v u : Value} (h : Conc I w p v (.raw u)) : v = u := by cases h; rfl

/-- What the machine finds. -/
theorem find_run {I : Nat → Prop} {w : World} {es : Array MapEntry} {kd : MKind} {m : List (MKey × AV)} {key : MKey} (hl : m.length = es.size) (hk : ∀ x, x ∈ m → x.1.kind = kd) (hn : (m.map (·.1)).Nodup)
    (hv : ∀ (i : Nat) (e : MapEntry) (key : MKey) (a : AV), es[i]? = some e → m[i]? = some (key, a) → e.key = key.val ∧ e.born = i ∧ Conc I w noPlace e.val a)
    (hd : ∀ key : MKey, key.kind = kd → IsKey kd.desc key.val) (hkey : key.kind = kd) :
    (Instr.findNow kd.desc key.val es.toList 0 = some none ∧ midx m key = none) ∨ ∃ j e, Instr.findNow kd.desc key.val es.toList 0 = some (some (j, e.val)) ∧ es[j]? = some e ∧ e.key = key.val ∧ midx m key = some j := by
  have hks : ∀ x ∈ es.toList, IsKey kd.desc x.key := by
    intro x hx
    obtain ⟨i, hi⟩ := List.getElem?_of_mem hx
    rw [Array.getElem?_toList] at hi
    have hlt := (Array.getElem?_eq_some_iff.1 hi).1
    obtain ⟨h1, _⟩ := hv i x m[i].1 m[i].2 hi (List.getElem?_eq_getElem (by omega))
    rw [h1]
    exact hd _ (hk _ (List.getElem_mem _))
  rcases findNow_spec (hd key hkey) es.toList 0 hks with ⟨h1, h2⟩ | ⟨j, e, h1, h2, h3⟩
  · refine .inl ⟨h1, ?_⟩
    cases hm : midx m key with
    | none => rfl
    | some j =>
      obtain ⟨a, h3, _⟩ := midx_some hm
      have hlt := (List.getElem?_eq_some_iff.1 h3).1
      have hj : es[j]? = some es[j] := Array.getElem?_eq_getElem (by omega)
      obtain ⟨h4, _⟩ := hv j _ key a hj h3
      exact absurd h4 (h2 _ (Array.mem_toList_iff.2 (Array.mem_of_getElem? hj)))
  · have hj : es[j]? = some e := by simpa using h2
    have hlt := (Array.getElem?_eq_some_iff.1 hj).1
    have hmj : m[j]? = some (m[j].1, m[j].2) := List.getElem?_eq_getElem (by omega)
    obtain ⟨h4, _⟩ := hv j e _ _ hj hmj
    have hk' : m[j].1 = key := MKey.val_inj (h4.symm.trans h3)
    refine .inr ⟨j, e, by simpa using h1, hj, h3, ?_⟩
    cases hm : midx m key with
    | none => exact absurd hk' ((midx_none hm).1 _ (List.getElem_mem _))
    | some i =>
      obtain ⟨a, h5, _⟩ := midx_some hm
      rw [hk'] at hmj
      rw [keys_nodup hn h5 hmj]

/-- The zero of a type, as a value. -/
def zeroRaw (P : Program) (t : TypeId) : Option Value := (P.info? t).bind (·.zero)
theorem run_zeroRaw {t : TypeId} {z : Value} (h : zeroRaw P t = some z) (w : World) : (zeroValue t).run P w = .ok z w := by
  simp only [zeroRaw, Option.bind_eq_some_iff] at h
  obtain ⟨i, h1, h2⟩ := h
  simp [zeroValue, typeInfo, h1, h2]
def avOf : Value → Option AV
  | .agg cs => if cs.toList.all Value.oneCell' then some (.agg (cs.toList.map .raw)) else none
  | v => some (.raw v)
theorem avOf_conc {v : Value} {x : AV} (h : avOf v = some x) (I : Nat → Prop) (w : World) (p : Place) : Conc I w p v x ∧ x.imm = true := by
  unfold avOf at h
  split at h
  · rename_i cs
    split at h
    · rename_i hall
      injection h with h; subst h
      refine ⟨.agg (by simp) (fun i u e => List.all_eq_true.1 hall u (by rw [← Array.getElem?_toList] at e; exact List.mem_of_getElem? e)) fun i u y e e' => ?_, ?_⟩
      · rw [List.getElem?_map, Array.getElem?_toList, e] at e'
        injection e' with e'; subst e'; exact .raw
      · simp only [AV.imm]
        generalize cs.toList = l
        induction l with
        | nil => rfl
        | cons a l ih => simp [AV.immL, AV.imm, ih]
    · cases h
  · injection h with h; subst h; exact ⟨.raw, rfl⟩

/-- The parts of a map operation: the kind of keys, the object, its entries, the key. -/
def mapAt (P : Program) (s : St) (kt : TypeId) (x k : AV) : Option (Nat × MKind × List (MKey × AV) × MKey) :=
  match keyKind P kt, x with
  | some kd, .mref id => match s.obj id with
    | .mp kd' m => if kd' = kd then (match keyOf kd k with
      | some key => some (id, kd, m, key)
      | none => none) else none
    | _ => none
  | _, _ => none
theorem mapAt_conc {w0 : World} {G : Nat → Prop} {p : Place} {I : Nat → Prop} {a : Act} {w : World} (hs : Sim GT w0 G p I s a w) {kt : TypeId} {ox ok : Operand} {id : Nat} {kd : MKind} {m : List (MKey × AV)} {key : MKey} (h : mapAt P s kt (ev GT s ox) (ev GT s ok) = some (id, kd, m, key)) :
    ∃ (r : Real) (es : Array MapEntry), a.eval ox = .map (some r.blk) ∧ a.eval ok = key.val ∧ p id = some r ∧ r.nul = false ∧ w.heap[r.blk]? = some (.map es es.size) ∧ m.length = es.size ∧ (∀ x, x ∈ m → x.1.kind = kd) ∧ (m.map (·.1)).Nodup ∧ key.kind = kd ∧
      P.underlying kt = some kd.desc ∧ (∀ key : MKey, key.kind = kd → IsKey kd.desc key.val) ∧ s.obj id = .mp kd m ∧
      ∀ (i : Nat) (e : MapEntry) (key : MKey) (a : AV), es[i]? = some e → m[i]? = some (key, a) → e.key = key.val ∧ e.born = i ∧ Conc I w noPlace e.val a := by
  unfold mapAt at h
  split at h
  · rename_i kd0 id0 hkd hx
    split at h
    · rename_i kd' m' hob
      split at h
      · rename_i hkk
        subst hkk
        split at h
        · rename_i key' hkey
          injection h with h
          injection h with h1 h
          injection h with h2 h
          injection h with h3 h4
          subst h1; subst h2; subst h3; subst h4
          have hcx := hs.ev ox
          have hck := hs.ev ok
          obtain ⟨hk1, hk2⟩ := keyOf_conc hkey
          rw [hk2] at hck
          rw [hx] at hcx
          generalize hvx : a.eval ox = vx at hcx
          cases hcx with
          | @mref _ _ r hr hnl =>
            have ho := hs.obj id0
            rw [hob] at ho
            obtain ⟨r', es, hr', _, hh, hl, hkinds, hnd, hv⟩ := ho
            obtain rfl : r = r' := Option.some.inj (hr.symm.trans hr')
            obtain ⟨hd1, hd2⟩ := keyKind_desc hkd
            exact ⟨r, es, rfl, conc_raw hck, hr, hnl, hh, hl, hkinds, hnd, hk1, hd1, hd2, hob, hv⟩
        · cases h
      · cases h
    · cases h
  · cases h

/-- What a look-up gives. -/
def lookAV (ok : Bool) (r : Option AV) (z : AV) : AV := cond ok (.tup [r.getD z, .raw (.bool r.isSome)]) (r.getD z)
def mapTypes (P : Program) (T : TypeId) : Option (Nat × Nat) := match td P T with
  | some d => match d.kind with
    | .map k e => some (k, e)
    | _ => none
  | none => none
theorem mapTypes_run {T : TypeId} {k e : Nat} (h : mapTypes P T = some (k, e)) : P.underlying T = some (.map k e) := by
  unfold mapTypes at h
  split at h
  · rename_i d hd
    split at h
    · rename_i k' e' hk
      injection h with h
      injection h with h1 h2
      subst h1; subst h2
      exact td_map hd hk
    · cases h
  · cases h

def evLookup (P : Program) (GT : Ctx) (s : St) (T : TypeId) (x ix : Operand) (ok : Bool) : Option Res :=
  match mapTypes P T with
  | some (kt, et) => match mapAt P s kt (ev GT s x) (ev GT s ix), (zeroRaw P et).bind avOf with
    | some (_, _, m, key), some z => some ⟨True, lookAV ok (mfind m key) z, s⟩
    | _, _ => none
  | none => none

theorem evLookup_ok {T : TypeId} {x ix : Operand} {ok : Bool} {r : Res} (ho : o.op = .lookup T x ix ok) (h : evLookup P GT s T x ix ok = some r) : StepPure P GT o s r := by
  unfold evLookup at h
  split at h
  · rename_i kt et hT
    split at h
    · rename_i id kd m key z hm hz
      injection h with h; subst h
      refine stepOK_pure fun _ w0 G p I a w hs => ?_
      obtain ⟨rr, es, hx, hk, hr, hnl, hh, hl, hkinds, hnd, hkey, hd1, hd2, hob, hv⟩ := mapAt_conc hs hm
      have hmt := mapTypes_run hT
      obtain ⟨zv, hz1, hz2⟩ := Option.bind_eq_some_iff.1 hz
      have hlt := (hs.own id rr hr hnl).2.1
      obtain ⟨hzc, _⟩ := avOf_conc hz2 I w p
      rcases find_run hl hkinds hnd hv hd2 hkey with ⟨h1, h2⟩ | ⟨j, e, h1, h2, h3, h4⟩
      · have hf := (midx_none h2).2
        cases ok
        · refine ⟨zv, fun w' hw' => ?_, by simp [lookAV, hf]; exact hzc⟩
          have hh' := ((hw' (by simp [ho, Op.reads])).2 _ hlt).trans hh
          simp [execOp, ho, hx, hk, Instr.lookup, run_underlying hmt, MapKept.run_getObj_map hh', run_checkKey hd1 (hd2 key hkey), run_findKey hd1 h1, run_zeroRaw hz1, Result.andThen]
        · refine ⟨.tuple #[zv, .bool false], fun w' hw' => ?_, ?_⟩
          · have hh' := ((hw' (by simp [ho, Op.reads])).2 _ hlt).trans hh
            simp [execOp, ho, hx, hk, Instr.lookup, run_underlying hmt, MapKept.run_getObj_map hh', run_checkKey hd1 (hd2 key hkey), run_findKey hd1 h1, run_zeroRaw hz1, Result.andThen]
          · simp only [lookAV, hf, cond, Option.getD_none, Option.isSome_none]
            refine .tup rfl fun i u y e e' => ?_
            rcases i with _ | _ | i
            · simp at e e'; subst e; subst e'; exact hzc
            · simp at e e'; subst e; subst e'; exact .raw
            · simp at e
      · obtain ⟨av, h5, hf⟩ := midx_some h4
        have hec := (hv j e key av h2 h5).2.2.anyPlace (p := p)
        cases ok
        · refine ⟨e.val, fun w' hw' => ?_, by simp [lookAV, hf]; exact hec⟩
          have hh' := ((hw' (by simp [ho, Op.reads])).2 _ hlt).trans hh
          simp [execOp, ho, hx, hk, Instr.lookup, run_underlying hmt, MapKept.run_getObj_map hh', run_checkKey hd1 (hd2 key hkey), run_findKey hd1 h1, Result.andThen]
        · refine ⟨.tuple #[e.val, .bool true], fun w' hw' => ?_, ?_⟩
          · have hh' := ((hw' (by simp [ho, Op.reads])).2 _ hlt).trans hh
            simp [execOp, ho, hx, hk, Instr.lookup, run_underlying hmt, MapKept.run_getObj_map hh', run_checkKey hd1 (hd2 key hkey), run_findKey hd1 h1, Result.andThen]
          · simp only [lookAV, hf, cond, Option.getD_some, Option.isSome_some]
            refine .tup rfl fun i u y e e' => ?_
            rcases i with _ | _ | i
            · simp at e e'; subst e; subst e'; exact hec
            · simp at e e'; subst e; subst e'; exact .raw
            · simp at e
    · cases h
  · cases h

/-- A new map. -/
def evMakeMap (P : Program) (GT : Ctx) (s : St) (T : TypeId) (hint : Option Operand) : Option Res :=
  match mapTypes P T with
  | some (kt, _) => match keyKind P kt, hint.map (ev GT s) with
    | some kd, none => some ⟨True, .mref s.objs.length, { s with objs := s.objs ++ [.mp kd []] }⟩
    | some kd, some (.raw (.int _ _)) => some ⟨True, .mref s.objs.length, { s with objs := s.objs ++ [.mp kd []] }⟩
    | _, _ => none
  | none => none
theorem newMap_ok {kd : MKind} (h : ∀ w0 G p I a w, Sim GT w0 G p I s a w → (execOp a.eval o).run P w = .ok (.value (.map (some w.heap.size))) (w.alloc (.map #[] 0))) :
    StepOK P GT o s ⟨True, .mref s.objs.length, { s with objs := s.objs ++ [.mp kd []] }⟩ := by
  intro _ w0 G p I a w hs
  have hrun := h w0 G p I a w hs
  refine ⟨p.with s.objs.length (some ⟨w.heap.size, 0, 0, 0, false⟩), _, _, .inl hrun, hs.new ⟨w.heap.size, 0, 0, 0, false⟩ rfl rfl (.map #[] 0) (.mp kd []) rfl rfl rfl rfl ?_, ?_, fun _ => Agree.alloc w _, hs.fresh_given _⟩
  · exact ⟨⟨w.heap.size, 0, 0, 0, false⟩, #[], Place.with_same _ _ _, rfl, heap_alloc_new w _, rfl, by simp, by simp, fun i e key x he => by simp at he⟩
  · exact Conc.mref (r := ⟨w.heap.size, 0, 0, 0, false⟩) (Place.with_same _ _ _) rfl
theorem evMakeMap_ok {T : TypeId} {hint : Option Operand} {r : Res} (ho : o.op = .makeMap T hint) (h : evMakeMap P GT s T hint = some r) : StepOK P GT o s r := by
  unfold evMakeMap at h
  split at h
  · rename_i kt et hT
    split at h
    · rename_i kd hkd hn
      injection h with h; subst h
      refine newMap_ok fun w0 G p I a w hs => ?_
      have : hint = none := by simpa using hn
      subst this
      simp [execOp, ho, Instr.makeMap, Result.andThen]
    · rename_i kd k n hkd hn
      injection h with h; subst h
      refine newMap_ok fun w0 G p I a w hs => ?_
      obtain ⟨x, rfl, hx⟩ := Option.map_eq_some_iff.1 hn
      have hc := hs.ev x
      rw [hx] at hc
      have hv := conc_raw hc
      simp [execOp, ho, hv, Instr.makeMap, run_underlying (mapTypes_run hT), asInt, asIntOf, Result.andThen]
    · cases h
  · cases h

/-- A map's block is written. -/
theorem Sim.writeMap {w0 : World} {G : Nat → Prop} {p : Place} {I : Nat → Prop} {a : Act} {w : World} (hs : Sim GT w0 G p I s a w) {id : Nat} {r : Real} (hr : p id = some r) (hl : r.nul = false) (hlt : r.blk < w.heap.size) (o : Obj) (es : Array MapEntry)
    (ho : ObjConc I { w with heap := w.heap.setIfInBounds r.blk (.map es es.size) } p id o) : Sim GT w0 G p I { s with objs := s.objs.set id o } a { w with heap := w.heap.setIfInBounds r.blk (.map es es.size) } :=
  hs.write hr hl o (by simp) (fun b hb => by simp [Ne.symm hb]) rfl rfl rfl ho

/-- The entries behind a write. -/
theorem conc_put {I : Nat → Prop} {w w' : World} {p : Place} {id : Nat} {r : Real} {es : Array MapEntry} {kd : MKind} {m : List (MKey × AV)} (hr : p id = some r) (hnl : r.nul = false) (hI : ∀ b, I b → w'.heap[b]? = w.heap[b]?)
    (hl : m.length = es.size) (hk : ∀ x, x ∈ m → x.1.kind = kd) (hn : (m.map (·.1)).Nodup)
    (hv : ∀ (i : Nat) (e : MapEntry) (key : MKey) (a : AV), es[i]? = some e → m[i]? = some (key, a) → e.key = key.val ∧ e.born = i ∧ Conc I w noPlace e.val a)
    {key : MKey} {v : Value} {x : AV} (hkey : key.kind = kd) (hno : midx m key = none) (hx : Conc I w noPlace v x)
    (hh : w'.heap[r.blk]? = some (.map (es.push { key := key.val, val := v, born := es.size }) (es.push { key := key.val, val := v, born := es.size }).size)) :
    ObjConc I w' p id (.mp kd (m ++ [(key, x)])) := by
  refine ⟨r, _, hr, hnl, hh, by simp [hl], fun y hy => ?_, ?_, fun i e key' y he hm => ?_⟩
  · rcases List.mem_append.1 hy with hy | hy
    · exact hk y hy
    · simp at hy; subst hy; exact hkey
  · rw [List.map_append, List.nodup_append]
    refine ⟨hn, by simp, fun y hy z hz => ?_⟩
    simp at hz
    subst hz
    obtain ⟨q, hq, rfl⟩ := List.mem_map.1 hy
    exact (midx_none hno).1 q hq
  · rw [Array.getElem?_push] at he
    rw [List.getElem?_append] at hm
    split at he
    · rename_i hi
      subst hi
      injection he with he; subst he
      rw [if_neg (by omega)] at hm
      simp [hl] at hm
      obtain ⟨rfl, rfl⟩ := hm
      exact ⟨rfl, rfl, hx.mono hI (fun _ h => h) fun _ _ h => h⟩
    · have hi := (Array.getElem?_eq_some_iff.1 he).1
      rw [if_pos (by omega)] at hm
      obtain ⟨h1, h2, h3⟩ := hv i e key' y he hm
      exact ⟨h1, h2, h3.mono hI (fun _ h => h) fun _ _ h => h⟩
theorem conc_mod {I : Nat → Prop} {w w' : World} {p : Place} {id : Nat} {r : Real} {es : Array MapEntry} {kd : MKind} {m : List (MKey × AV)} (hr : p id = some r) (hnl : r.nul = false) (hI : ∀ b, I b → w'.heap[b]? = w.heap[b]?)
    (hl : m.length = es.size) (hk : ∀ x, x ∈ m → x.1.kind = kd) (hn : (m.map (·.1)).Nodup)
    (hv : ∀ (i : Nat) (e : MapEntry) (key : MKey) (a : AV), es[i]? = some e → m[i]? = some (key, a) → e.key = key.val ∧ e.born = i ∧ Conc I w noPlace e.val a)
    {j : Nat} {f : MapEntry → MapEntry} {m' : List (MKey × AV)} (hm' : m'.map (·.1) = m.map (·.1)) (hmo : ∀ i, i ≠ j → m'[i]? = m[i]?)
    (hf : ∀ (e : MapEntry) (key : MKey) (a : AV), es[j]? = some e → m'[j]? = some (key, a) → (f e).key = key.val ∧ (f e).born = j ∧ Conc I w noPlace (f e).val a)
    (hh : w'.heap[r.blk]? = some (.map (es.modify j f) es.size)) : ObjConc I w' p id (.mp kd m') := by
  have hl' : m'.length = m.length := by have := congrArg List.length hm'; simpa using this
  refine ⟨r, es.modify j f, hr, hnl, by rw [hh]; simp, by simp [hl', hl], fun y hy => ?_, by rw [hm']; exact hn, fun i e key y he hm => ?_⟩
  · have : y.1 ∈ m.map (·.1) := hm' ▸ List.mem_map.2 ⟨y, hy, rfl⟩
    obtain ⟨z, hz, e⟩ := List.mem_map.1 this
    rw [← e]; exact hk z hz
  · rw [Array.getElem?_modify] at he
    by_cases hij : j = i
    · subst hij
      rw [if_pos rfl] at he
      obtain ⟨e0, he0, rfl⟩ := Option.map_eq_some_iff.1 he
      obtain ⟨h1, h2, h3⟩ := hf e0 key y he0 hm
      exact ⟨h1, h2, h3.mono hI (fun _ h => h) fun _ _ h => h⟩
    · rw [if_neg hij] at he
      rw [hmo i (Ne.symm hij)] at hm
      obtain ⟨h1, h2, h3⟩ := hv i e key y he hm
      exact ⟨h1, h2, h3.mono hI (fun _ h => h) fun _ _ h => h⟩

def evMapUpdate (P : Program) (GT : Ctx) (s : St) (T : TypeId) (x k v : Operand) : Option Res :=
  match mapTypes P T with
  | some (kt, _) => match mapAt P s kt (ev GT s x) (ev GT s k) with
    | some (id, kd, m, key) => if (ev GT s v).imm = true then some ⟨True, .top, { s with objs := s.objs.set id (.mp kd (mput m key (ev GT s v))) }⟩ else none
    | none => none
  | none => none
theorem set_keys {m : List (MKey × AV)} {j : Nat} {key : MKey} {a x : AV} (h : m[j]? = some (key, a)) : (m.set j (key, x)).map (·.1) = m.map (·.1) := by
  apply List.ext_getElem?
  intro i
  rw [List.getElem?_map, List.getElem?_map, List.getElem?_set]
  split
  · rename_i hji
    subst hji
    obtain ⟨h1, h2⟩ := List.getElem?_eq_some_iff.1 h
    simp [h1, h2]
  · rfl
theorem evMapUpdate_ok {T : TypeId} {x k v : Operand} {r : Res} (ho : o.op = .mapUpdate T x k v ∨ o.op = .insert T x k v) (h : evMapUpdate P GT s T x k v = some r) : StepOK P GT o s r := by
  unfold evMapUpdate at h
  split at h
  · rename_i kt et hT
    split at h
    · rename_i id kd m key hm
      split at h
      · rename_i himm
        injection h with h; subst h
        intro _ w0 G p I a w hs
        obtain ⟨rr, es, hx, hk, hr, hnl, hh, hl, hkinds, hnd, hkey, hd1, hd2, hob, hv⟩ := mapAt_conc hs hm
        have hmt := mapTypes_run hT
        have hlt := (hs.own id rr hr hnl).2.1
        have hcv := (hs.ev v).ofImm (p' := noPlace) himm
        have hI : ∀ (es' : Array MapEntry) (c : Nat) (b : Nat), I b → ({ w with heap := w.heap.setIfInBounds rr.blk (.map es' c) } : World).heap[b]? = w.heap[b]? := fun es' c b hb => by
          have : b ≠ rr.blk := by rintro rfl; exact (hs.own id rr hr hnl).2.2 hb
          simp [Ne.symm this]
        have he : (execOp a.eval o) = (do Instr.mapUpdate T (a.eval x) (a.eval k) (a.eval v); Pure.pure .skip : Sem Next) := by
          rcases ho with ho | ho <;> simp [execOp, ho]
        have hq : Op.quiet o.op = false := by rcases ho with ho | ho <;> simp [ho, Op.quiet]
        rcases find_run hl hkinds hnd hv hd2 hkey with ⟨h1, h2⟩ | ⟨j, e, h1, h2, h3, h4⟩
        · refine ⟨p, undef, { w with heap := w.heap.setIfInBounds rr.blk (.map (es.push { key := key.val, val := a.eval v, born := es.size }) (es.size + 1)) }, .inr ⟨?_, rfl⟩, ?_, .top, (fun h => by rw [hq] at h; cases h), fun _ _ => .inl rfl⟩
          · rw [he]
            simp [hx, hk, Instr.mapUpdate, run_underlying hmt, MapKept.run_getObj_map hh, run_checkKey hd1 (hd2 key hkey), run_findKey hd1 h1, run_setObj_map _ hh, Result.andThen]
          · simp only [mput, h2]
            have := hs.writeMap hr hnl hlt (.mp kd (m ++ [(key, ev GT s v)])) (es.push { key := key.val, val := a.eval v, born := es.size }) (conc_put hr hnl (hI _ _) hl hkinds hnd hv hkey h2 hcv (by simp [hlt]))
            simpa using this
        · obtain ⟨av, h5, hf⟩ := midx_some h4
          refine ⟨p, undef, { w with heap := w.heap.setIfInBounds rr.blk (.map (es.modify j fun e => { e with key := key.val, val := a.eval v }) es.size) }, .inr ⟨?_, rfl⟩, ?_, .top, (fun h => by rw [hq] at h; cases h), fun _ _ => .inl rfl⟩
          · rw [he]
            simp [hx, hk, Instr.mapUpdate, run_underlying hmt, MapKept.run_getObj_map hh, run_checkKey hd1 (hd2 key hkey), run_findKey hd1 h1, h2, h3, run_keyThatStays (hd2 key hkey), run_setObj_map _ hh, Result.andThen]
          · simp only [mput, h4]
            have := hs.writeMap hr hnl hlt (.mp kd (m.set j (key, ev GT s v))) (es.modify j fun e => { e with key := key.val, val := a.eval v }) (conc_mod (f := fun e => { e with key := key.val, val := a.eval v }) hr hnl (hI _ _) hl hkinds hnd hv (set_keys h5) (fun i hi => by rw [List.getElem?_set_ne (Ne.symm hi)]) (fun e0 key' y he0 hm0 => by
              have hjl := (List.getElem?_eq_some_iff.1 h5).1
              rw [List.getElem?_set_self hjl] at hm0
              injection hm0 with hm0
              injection hm0 with g1 g2
              subst g1; subst g2
              exact ⟨rfl, (hv j e0 key av he0 h5).2.1, hcv⟩) (by simp [hlt]))
            simpa using this
      · cases h
    · cases h
  · cases h

/-- An entry that is about to be changed: what stands there, and its stamp. -/
def evMapEntry (P : Program) (GT : Ctx) (s : St) (T : TypeId) (x k : Operand) : Option Res :=
  match mapTypes P T with
  | some (kt, et) => match mapAt P s kt (ev GT s x) (ev GT s k), (zeroRaw P et).bind avOf with
    | some (id, kd, m, key), some z => some ⟨True, .tup [(mfind m key).getD z, .raw (.int .i64 (mstamp m key))], { s with objs := s.objs.set id (.mp kd (mtouch m key z)) }⟩
    | _, _ => none
  | none => none
theorem evMapEntry_ok {T : TypeId} {x k : Operand} {r : Res} (ho : o.op = .mapEntry T x k) (h : evMapEntry P GT s T x k = some r) : StepOK P GT o s r := by
  unfold evMapEntry at h
  split at h
  · rename_i kt et hT
    split at h
    · rename_i id kd m key z hm hz
      injection h with h; subst h
      intro _ w0 G p I a w hs
      obtain ⟨rr, es, hx, hk, hr, hnl, hh, hl, hkinds, hnd, hkey, hd1, hd2, hob, hv⟩ := mapAt_conc hs hm
      have hmt := mapTypes_run hT
      have hlt := (hs.own id rr hr hnl).2.1
      obtain ⟨zv, hz1, hz2⟩ := Option.bind_eq_some_iff.1 hz
      have hI : ∀ (es' : Array MapEntry) (c : Nat) (b : Nat), I b → ({ w with heap := w.heap.setIfInBounds rr.blk (.map es' c) } : World).heap[b]? = w.heap[b]? := fun es' c b hb => by
        have : b ≠ rr.blk := by rintro rfl; exact (hs.own id rr hr hnl).2.2 hb
        simp [Ne.symm this]
      have tup2 : ∀ {w' : World} {u : Value} {y : AV} {n : Int}, Conc I w' p u y → Conc I w' p (.tuple #[u, .int .i64 n]) (.tup [y, .raw (.int .i64 n)]) := fun hc => by
        refine .tup rfl fun i u y e e' => ?_
        rcases i with _ | _ | i
        · simp at e e'; subst e; subst e'; exact hc
        · simp at e e'; subst e; subst e'; exact .raw
        · simp at e
      rcases find_run hl hkinds hnd hv hd2 hkey with ⟨h1, h2⟩ | ⟨j, e, h1, h2, h3, h4⟩
      · have hf := (midx_none h2).2
        have hzc := fun w' => (avOf_conc hz2 I w' noPlace).1
        refine ⟨p, .tuple #[zv, .int .i64 es.size], { w with heap := w.heap.setIfInBounds rr.blk (.map (es.push { key := key.val, val := zv, born := es.size }) (es.size + 1)) }, .inl ?_, ?_, ?_, (fun h => by simp [ho, Op.quiet] at h), fun _ _ => .inl rfl⟩
        · simp [execOp, ho, hx, hk, Instr.mapEntry, run_underlying hmt, MapKept.run_getObj_map hh, run_checkKey hd1 (hd2 key hkey), run_findKey hd1 h1, run_zeroRaw hz1, run_setObj_map _ hh, Result.andThen, goInt]
        · simp only [mtouch, h2]
          have := hs.writeMap hr hnl hlt (.mp kd (m ++ [(key, z)])) (es.push { key := key.val, val := zv, born := es.size }) (conc_put hr hnl (hI _ _) hl hkinds hnd hv hkey h2 (hzc w) (by simp [hlt]))
          simpa using this
        · simp only [hf, Option.getD_none, mstamp, h2, hl]
          exact tup2 (avOf_conc hz2 I _ p).1
      · obtain ⟨av, h5, hf⟩ := midx_some h4
        have hb := (hv j e key av h2 h5).2.1
        have hec := (hv j e key av h2 h5).2.2
        refine ⟨p, .tuple #[e.val, .int .i64 j], { w with heap := w.heap.setIfInBounds rr.blk (.map (es.modify j fun e => { e with key := key.val }) es.size) }, .inl ?_, ?_, ?_, (fun h => by simp [ho, Op.quiet] at h), fun _ _ => .inl rfl⟩
        · simp [execOp, ho, hx, hk, Instr.mapEntry, run_underlying hmt, MapKept.run_getObj_map hh, run_checkKey hd1 (hd2 key hkey), run_findKey hd1 h1, h2, h3, hb, run_keyThatStays (hd2 key hkey), run_setObj_map _ hh, Result.andThen, goInt]
        · simp only [mtouch, h4]
          have := hs.writeMap hr hnl hlt (.mp kd m) (es.modify j fun e => { e with key := key.val }) (conc_mod (f := fun e => { e with key := key.val }) hr hnl (hI _ _) hl hkinds hnd hv rfl (fun i hi => rfl) (fun e0 key' y he0 hm0 => by
              rw [h5] at hm0
              injection hm0 with hm0
              injection hm0 with g1 g2
              subst g1; subst g2
              exact ⟨rfl, (hv j e0 key av he0 h5).2⟩) (by simp [hlt]))
          simpa using this
        · simp only [hf, Option.getD_some, mstamp, h4]
          exact tup2 ((hec.mono (hI _ _) (fun _ h => h) fun _ _ h => h).anyPlace)
    · cases h
  · cases h

def evEntryStore (GT : Ctx) (s : St) (x k v : Operand) : Option Res :=
  match ev GT s x, ev GT s k with
  | .mref id, .raw (.int _ n) => match s.obj id with
    | .mp kd m => if (ev GT s v).imm = true then some ⟨0 ≤ n ∧ n.toNat < m.length, .top, { s with objs := s.objs.set id (.mp kd (mset m n.toNat (ev GT s v))) }⟩ else none
    | _ => none
  | _, _ => none
theorem evEntryStore_ok {T : TypeId} {x k v : Operand} {r : Res} (ho : o.op = .entryStore T x k v) (h : evEntryStore GT s x k v = some r) : StepOK P GT o s r := by
  unfold evEntryStore at h
  split at h
  · rename_i id kk n hx hk
    split at h
    · rename_i kd m hob
      split at h
      · rename_i himm
        injection h with h; subst h
        rintro ⟨hn0, hnl⟩ w0 G p I a w hs
        have hcx := hs.ev x
        have hck := hs.ev k
        rw [hx] at hcx
        rw [hk] at hck
        have hkv := conc_raw hck
        generalize hvx : a.eval x = vx at hcx
        cases hcx with
        | @mref _ _ rr hr hrn =>
          have hoc := hs.obj id
          rw [hob] at hoc
          obtain ⟨r', es, hr', _, hh, hl, hkinds, hnd, hv⟩ := hoc
          obtain rfl : rr = r' := Option.some.inj (hr.symm.trans hr')
          have hlt := (hs.own id rr hr hrn).2.1
          have hcv := (hs.ev v).ofImm (p' := noPlace) himm
          obtain ⟨j, rfl⟩ : ∃ j : Nat, n = j := ⟨n.toNat, by omega⟩
          simp only [Int.toNat_natCast] at hnl ⊢
          have hborn : ∀ (i : Nat) (hi : i < es.size), es[i].born = i := fun i hi => by
            have hmi : m[i]? = some (m[i].1, m[i].2) := List.getElem?_eq_getElem (by omega)
            exact (hv i _ _ _ (Array.getElem?_eq_getElem hi) hmi).2.1
          have hfind : es.findIdx? (fun e => (e.born : Int) == (j : Int)) = some j := by
            rw [Array.findIdx?_eq_some_iff_getElem]
            refine ⟨by omega, by simp [hborn j (by omega)], fun i hi => ?_⟩
            have := hborn i (by omega)
            simp [this]; omega
          have hI : ∀ (es' : Array MapEntry) (c : Nat) (b : Nat), I b → ({ w with heap := w.heap.setIfInBounds rr.blk (.map es' c) } : World).heap[b]? = w.heap[b]? := fun es' c b hb => by
            have : b ≠ rr.blk := by rintro rfl; exact (hs.own id rr hr hrn).2.2 hb
            simp [Ne.symm this]
          refine ⟨p, undef, { w with heap := w.heap.setIfInBounds rr.blk (.map (es.modify j fun e => { e with val := a.eval v }) es.size) }, .inr ⟨?_, rfl⟩, ?_, .top, (fun h => by simp [ho, Op.quiet] at h), fun _ _ => .inl rfl⟩
          · simp [execOp, ho, hvx, hkv, Instr.entryStore, MapKept.run_getObj_map hh, asInt, asIntOf, hfind, run_setObj_map _ hh, Result.andThen]
          · have g1 : (mset m j (ev GT s v)).map (·.1) = m.map (·.1) := by
              apply List.ext_getElem?
              intro i
              simp only [mset, List.getElem?_map, List.getElem?_modify]
              cases m[i]? with
              | none => rfl
              | some y => simp only [Option.map_some]; split <;> rfl
            have g2 : ∀ i, i ≠ j → (mset m j (ev GT s v))[i]? = m[i]? := fun i hi => by simp [mset, List.getElem?_modify, Ne.symm hi]
            have g3 : (mset m j (ev GT s v))[j]? = some (m[j].1, ev GT s v) := by simp [mset, List.getElem?_modify, List.getElem?_eq_getElem hnl]
            have := hs.writeMap hr hrn hlt (.mp kd (mset m j (ev GT s v))) (es.modify j fun e => { e with val := a.eval v }) (conc_mod (f := fun e => { e with val := a.eval v }) hr hrn (hI _ _) hl hkinds hnd hv g1 g2 (fun e0 key' y he0 hm0 => by
                rw [g3] at hm0
                injection hm0 with hm0
                injection hm0 with q1 q2
                subst q1; subst q2
                obtain ⟨q1, q2, _⟩ := hv j e0 m[j].1 m[j].2 he0 (List.getElem?_eq_getElem hnl)
                exact ⟨q1, q2, hcv⟩) (by simp [hlt]))
            simpa using this
      · cases h
    · cases h
  · cases h

/-- A pointer that is not nil. -/
def evNilCheck (GT : Ctx) (s : St) (x : Operand) : Option Res :=
  match ev GT s x with
  | .ref id off => some ⟨True, .ref id off, s⟩
  | .eref id k i off => some ⟨True, .eref id k i off, s⟩
  | .cptr cs => some ⟨True, .cptr cs, s⟩
  | _ => none
theorem evNilCheck_ok {x : Operand} {r : Res} (ho : o.op = .nilCheck x) (h : evNilCheck GT s x = some r) : StepPure P GT o s r := by
  unfold evNilCheck at h
  split at h
  · rename_i id off hx
    injection h with h; subst h
    refine stepOK_pure fun _ w0 G p I a w hs => ?_
    have hc := hs.ev x
    rw [hx] at hc
    refine ⟨a.eval x, fun w' _ => ?_, hc⟩
    generalize hv : a.eval x = v at hc
    cases hc
    simp [execOp, ho, hv]
  · rename_i id k i off hx
    injection h with h; subst h
    refine stepOK_pure fun _ w0 G p I a w hs => ?_
    have hc := hs.ev x
    rw [hx] at hc
    refine ⟨a.eval x, fun w' _ => ?_, hc⟩
    generalize hv : a.eval x = v at hc
    cases hc
    simp [execOp, ho, hv]
  · rename_i cs hx
    injection h with h; subst h
    refine stepOK_pure fun _ w0 G p I a w hs => ?_
    have hc := hs.ev x
    rw [hx] at hc
    refine ⟨a.eval x, fun w' _ => ?_, hc⟩
    generalize hv : a.eval x = v at hc
    cases hc
    simp [execOp, ho, hv]
  · cases h
end
end Go.Proofs.YtmfgaefefgnhbaaGreatDoor.Abs
namespace Go.Proofs.YtmfgaefefgnhbaaGreatDoor.Abs
set_option linter.unusedSimpArgs false
set_option linter.unusedVariables false
open Go Go.RowKit

def evBuiltin (P : Program) (GT : Ctx) (s : St) (b : Builtin) (args : List Operand) (ts : List TypeId) : Option Res :=
  match b, args, ts with
  | .len, [x], [t] => evLen P GT s t x
  | .append, [x, y], [t, t'] => if t = t' then evAppend P GT s t x y else none
  | .clear, [x], [t] => evClear P GT s t x
  | .min, [x, y], _ => evMinMax GT s true x y
  | .max, [x, y], _ => evMinMax GT s false x y
  | _, _, _ => none

theorem evBuiltin_ok {P : Program} {GT : Ctx} {o : Oper} {s : St} {r : Res} {b : Builtin} {args : Array Operand} {ts : Array TypeId} (ho : o.op = .call { callee := .builtin b, args := args, argTypes := ts })
    (h : evBuiltin P GT s b args.toList ts.toList = some r) : (StepPure P GT o s r ∨ ((b = .append ∨ b = .clear) ∧ StepOK P GT o s r)) := by
  obtain ⟨args⟩ := args
  obtain ⟨ts⟩ := ts
  unfold evBuiltin at h
  split at h
  · rename_i x t e1 e2
    simp only at e1 e2; subst e1; subst e2
    exact .inl (evLen_ok ho h)
  · rename_i x y t t' e1 e2
    simp only at e1 e2; subst e1; subst e2
    split at h
    · rename_i ht; subst ht; exact .inr ⟨.inl rfl, evAppend_ok ho h⟩
    · cases h
  · rename_i x t e1 e2
    simp only at e1 e2; subst e1; subst e2
    exact .inr ⟨.inr rfl, evClear_ok ho h⟩
  · rename_i x y _ e1
    simp only at e1; subst e1
    exact .inl (evMin_ok ho h)
  · rename_i x y _ e1
    simp only at e1; subst e1
    exact .inl (evMax_ok ho h)
  · cases h

def evalOp (P : Program) (GT : Ctx) (s : St) (op : Op) : Option Res :=
  match op with
  | .move x => some ⟨True, ev GT s x, s⟩
  | .assign x => some ⟨True, ev GT s x, s⟩
  | .pick c a b => evPick GT s c a b
  | .alloc E => evAlloc P s E
  | .box _ x => evBox GT s x
  | .build T parts => evBuild P GT s T parts
  | .buildSlice T n parts => evBuildSlice P GT s T n parts
  | .load T x => evLoad P GT s T x
  | .store T x v => evStore P GT s T x v
  | .binOp op T x y _ => evBinOp P GT s op T x y
  | .unOp op _ x => evUnOp GT s op x
  | .convert S D x => (evConvert P GT s S D x).or (evConvBytes P GT s S D x)
  | .makeFunc fn first captured => some (evMakeFunc GT s fn first captured)
  | .makeSlice T x y => evMakeSlice P GT s T x y
  | .slice T x lo hi none => evSlice P GT s T x lo hi
  | .slice T x lo (some hi) (some mx) => evSlice3 P GT s T x lo hi mx
  | .fieldAddr S x f => evFieldAddr P GT s S x f
  | .field S x f => evField P GT s S x f
  | .indexAddr T x i => evIndexAddr P GT s T x i
  | .index T x i => evIndex P GT s T x i
  | .extract x i => evExtract GT s x i
  | .lookup T x ix ok => evLookup P GT s T x ix ok
  | .makeMap T h => evMakeMap P GT s T h
  | .mapUpdate T m k v => evMapUpdate P GT s T m k v
  | .insert T m k v => evMapUpdate P GT s T m k v
  | .mapEntry T m k => evMapEntry P GT s T m k
  | .entryStore _ m k v => evEntryStore GT s m k v
  | .nilCheck x => evNilCheck GT s x
  | .call { callee := .builtin b, args := args, argTypes := ts } => evBuiltin P GT s b args.toList ts.toList
  | _ => none

/-- Operations that leave the world alone. -/
def Op.isPure : Op → Bool
  | .alloc .. => false
  | .box .. => false
  | .buildSlice .. => false
  | .store .. => false
  | .makeSlice .. => false
  | .makeMap .. => false
  | .mapUpdate .. => false
  | .insert .. => false
  | .mapEntry .. => false
  | .entryStore .. => false
  | .call { callee := .builtin .append, .. } => false
  | .call { callee := .builtin .clear, .. } => false
  | _ => true

theorem evalOp_cases {P : Program} {GT : Ctx} {o : Oper} {s : St} {r : Res} (h : evalOp P GT s o.op = some r) : StepPure P GT o s r ∨ (Op.isPure o.op = false ∧ StepOK P GT o s r) := by
  unfold evalOp at h
  split at h <;> rename_i ho
  · injection h with h; subst h
    exact .inl (stepOK_pure fun _ w0 G p I a w hs => ⟨_, by simp [execOp, ho], hs.ev _⟩)
  · injection h with h; subst h
    exact .inl (stepOK_pure fun _ w0 G p I a w hs => ⟨_, by simp [execOp, ho], hs.ev _⟩)
  · exact .inl (evPick_ok ho h)
  · exact .inr ⟨by simp [ho, Op.isPure], evAlloc_ok ho h⟩
  · exact .inr ⟨by simp [ho, Op.isPure], evBox_ok ho h⟩
  · exact .inl (evBuild_ok ho h)
  · exact .inr ⟨by simp [ho, Op.isPure], evBuildSlice_ok ho h⟩
  · exact .inl (evLoad_ok ho h)
  · exact .inr ⟨by simp [ho, Op.isPure], evStore_ok ho h⟩
  · exact .inl (evBinOp_ok ho h)
  · exact .inl (evUnOp_ok ho h)
  · rw [Option.or_eq_some_iff] at h
    rcases h with h | ⟨_, h⟩
    · exact .inl (evConvert_ok ho h)
    · exact .inl (evConvBytes_ok ho h)
  · injection h with h; subst h; exact .inl (evMakeFunc_ok ho)
  · exact .inr ⟨by simp [ho, Op.isPure], evMakeSlice_ok ho h⟩
  · exact .inl (evSlice_ok ho h)
  · exact .inl (evSlice3_ok ho h)
  · exact .inl (evFieldAddr_ok ho h)
  · exact .inl (evField_ok ho h)
  · exact .inl (evIndexAddr_ok ho h)
  · exact .inl (evIndex_ok ho h)
  · exact .inl (evExtract_ok ho h)
  · exact .inl (evLookup_ok ho h)
  · exact .inr ⟨by simp [ho, Op.isPure], evMakeMap_ok ho h⟩
  · exact .inr ⟨by simp [ho, Op.isPure], evMapUpdate_ok (.inl ho) h⟩
  · exact .inr ⟨by simp [ho, Op.isPure], evMapUpdate_ok (.inr ho) h⟩
  · exact .inr ⟨by simp [ho, Op.isPure], evMapEntry_ok ho h⟩
  · exact .inr ⟨by simp [ho, Op.isPure], evEntryStore_ok ho h⟩
  · exact .inl (evNilCheck_ok ho h)
  · exact (evBuiltin_ok ho h).imp id fun h => ⟨by rcases h.1 with h1 | h1 <;> simp [ho, h1, Op.isPure], h.2⟩
  · cases h

theorem evalOp_ok {P : Program} {GT : Ctx} {o : Oper} {s : St} {r : Res} (h : evalOp P GT s o.op = some r) : StepOK P GT o s r :=
  (evalOp_cases h).elim StepPure.ok fun h => h.2
theorem evalOp_pure {P : Program} {GT : Ctx} {o : Oper} {s : St} {r : Res} (h : evalOp P GT s o.op = some r) (hp : Op.isPure o.op = true) : StepPure P GT o s r :=
  (evalOp_cases h).elim id fun h => by rw [hp] at h; cases h.1

/- The names in a value. -/
mutual
def AV.names : AV → List Nat
  | .agg cs => AV.namesL cs
  | .tup cs => AV.namesL cs
  | .clo _ as bs => AV.namesL as ++ AV.namesL bs
  | .own i _ _ _ => [i]
  | .ref i _ => [i]
  | .eref i _ _ _ => [i]
  | .mref i => [i]
  | .top => []
  | .raw _ => []
  | .lst _ _ => []
  | .cptr _ => []
def AV.namesL : List AV → List Nat
  | [] => []
  | a :: as => AV.names a ++ AV.namesL as
end
/-- The objects that can be reached by names. -/
def St.reach (s : St) : Nat → List Nat → List Nat
  | 0, l => l
  | n + 1, l => (l.map fun i => i :: (match s.obj i with
    | .box cs => s.reach n (AV.namesL cs)
    | _ => [])).flatten

/- What is handed over (the objects of T), as what cannot be written. -/
def frzLeaf (s : St) (T : List Nat) (rec : AV → AV) : AV → AV
  | .own id k lo n => if T.contains id then (match s.obj id with
    | .arr k' xs => if k' = k then .lst k ((xs.drop lo).take n) else .top
    | _ => .top) else .own id k lo n
  | .eref id k i off => if T.contains id then (match s.obj id with
    | .arr k' xs => if k' = k then .cptr ((xs.getD i []).drop off) else .top
    | _ => .top) else .eref id k i off
  | .ref id off => if T.contains id then (match s.obj id with
    | .box cs => if AV.immL ((cs.drop off).map rec) then .cptr ((cs.drop off).map rec) else .top
    | _ => .top) else .ref id off
  | .mref id => if T.contains id then .top else .mref id
  | x => x
def AV.frz (s : St) (T : List Nat) : Nat → AV → AV
  | 0, x => x.leafs (frzLeaf s T fun _ => .top)
  | n + 1, x => x.leafs (frzLeaf s T (AV.frz s T n))
/-- The same, at a name. -/
def frzF (s : St) (T : List Nat) : AV → AV := frzLeaf s T (AV.frz s T 2)

/-- The blocks of the objects of T. -/
def blksOf (p : Place) (T : List Nat) (b : Nat) : Prop := ∃ i r, T.contains i = true ∧ p i = some r ∧ r.nul = false ∧ r.blk = b
/-- Without the objects of T. -/
def Place.drop (p : Place) (T : List Nat) : Place := fun i => if T.contains i then none else p i

section
variable {GT : Ctx} {w0 : World} {G : Nat → Prop} {p : Place} {I : Nat → Prop} {s : St} {a : Act} {w : World}

theorem Place.drop_not {p : Place} {T : List Nat} {i : Nat} (h : ¬ T.contains i = true) : p.drop T i = p i := by simp only [Place.drop]; rw [if_neg h]
theorem Place.drop_yes {p : Place} {T : List Nat} {i : Nat} (h : T.contains i = true) : p.drop T i = none := by simp only [Place.drop]; rw [if_pos h]

theorem frzLeaf_conc (hs : Sim GT w0 G p I s a w) (T : List Nat) (rec : AV → AV) (hrec : ∀ (v : Value) (x : AV), Conc I w p v x → Conc (fun b => I b ∨ blksOf p T b) w (p.drop T) v (rec x)) :
    ∀ (v : Value) (x : AV), x.isLeaf = true → Conc I w p v x → Conc (fun b => I b ∨ blksOf p T b) w (p.drop T) v (frzLeaf s T rec x) := by
  intro v x hx h
  have hI : ∀ b, I b → I b ∨ blksOf p T b := fun b hb => .inl hb
  cases h with
  | @own _ id k lo m A c r hm hc hr h =>
    simp only [frzLeaf]
    split
    · rename_i hT
      have hob := hs.obj id
      split
      · rename_i k' xs heq
        split
        · rename_i hkk
          subst hkk
          rw [heq] at hob
          by_cases hm0 : m = 0
          · subst hm0
            exact .lst (f := fun _ _ => undef) (by simp) hm hc (by simp) (.inl (by simp)) (by simp) (by simp)
          · obtain ⟨hnl, hA, hcap, hlen⟩ := h.resolve_left fun h => by omega
            replace hA := hA.resolve_left (by omega)
            obtain ⟨r', hr', ⟨hn, _⟩ | ⟨_, cs, E, hh, hl, hm', hsz, hk, hv⟩⟩ := hob
            · obtain rfl : r = r' := Option.some.inj (hr.symm.trans hr')
              rw [hnl] at hn; cases hn
            obtain rfl : r = r' := Option.some.inj (hr.symm.trans hr')
            have hyl : ((xs.drop lo).take m).length = m := by simp; omega
            have hcell : ∀ i j, i < m → j < k' → ∃ u, cs[r.base + (lo + i) * k' + j]? = some u ∧ u.oneCell' = true := by
              intro i j hi hj
              have hlt : lo + i < xs.length := by omega
              have hkl := hk _ (List.getElem_mem hlt)
              obtain ⟨u, e1, e2, _⟩ := hv (lo + i) j _ _ (List.getElem?_eq_getElem hlt) (List.getElem?_eq_getElem (by omega))
              exact ⟨u, e1, e2⟩
            refine .lst (f := fun i j => (cs[r.base + (lo + i) * k' + j]?).getD undef) hyl.symm hm hc (fun y hy => hk y (List.mem_of_mem_drop (List.mem_of_mem_take hy))) (.inr ⟨r.blk, r.base + lo * k', hA, .inr ⟨id, r, hT, hr, hnl, rfl⟩, fun i j hi hj => ?_⟩) (fun i j hi hj => ?_) fun i j y z e e' => ?_
            · rw [hyl] at hi
              obtain ⟨u, e1, _⟩ := hcell i j hi hj
              have : r.base + lo * k' + i * k' + j = r.base + (lo + i) * k' + j := by rw [Nat.add_mul]; omega
              simp [World.cell?, hh, this, e1]
            · rw [hyl] at hi
              obtain ⟨u, e1, e2⟩ := hcell i j hi hj
              simp [e1, e2]
            · rw [List.getElem?_take] at e
              split at e
              · rw [List.getElem?_drop] at e
                obtain ⟨u, e1, _, e3⟩ := hv (lo + i) j y z e e'
                simpa [e1] using e3.mono (fun _ _ => rfl) hI fun _ _ h => h
              · cases e
        · exact .top
      · exact .top
    · rename_i hT
      exact .own hm hc (by rw [Place.drop_not hT]; exact hr) h
  | @ref _ id off r hr hnl =>
    simp only [frzLeaf]
    split
    · rename_i hT
      have hob := hs.obj id
      split
      · rename_i cs heq
        rw [heq] at hob
        obtain ⟨r', c, E, hr', _, hh, hl, hv⟩ := hob
        obtain rfl : r = r' := Option.some.inj (hr.symm.trans hr')
        split
        · rename_i himm
          have hcell : ∀ j, j < (cs.drop off).length → ∃ u, c[r.base + off + j]? = some u ∧ u.oneCell' = true ∧ ∀ y, (cs.drop off)[j]? = some y → Conc I w p u y := by
            intro j hj
            have hj' : off + j < cs.length := by simp at hj; omega
            obtain ⟨u, e1, e2, e3⟩ := hv (off + j) _ (List.getElem?_eq_getElem hj')
            refine ⟨u, by rw [← e1]; congr 1; omega, e2, fun y ey => ?_⟩
            rw [List.getElem?_drop, List.getElem?_eq_getElem hj'] at ey
            injection ey with ey
            rw [← ey]; exact e3
          refine .cptr (f := fun j => (c[r.base + off + j]?).getD undef) (.inr ⟨id, r, hT, hr, hnl, rfl⟩) (fun j hj => ?_) (fun j hj => ?_) fun j y e => ?_
          · rw [List.length_map] at hj
            obtain ⟨u, e1, _⟩ := hcell j hj
            simp [World.cell?, hh, e1]
          · rw [List.length_map] at hj
            obtain ⟨u, e1, e2, _⟩ := hcell j hj
            simp [e1, e2]
          · obtain ⟨z, hz, rfl⟩ := map_get e
            have hj : j < (cs.drop off).length := (List.getElem?_eq_some_iff.1 hz).1
            obtain ⟨u, e1, _, e3⟩ := hcell j hj
            have := hrec _ _ (e3 z hz)
            simpa [e1] using this.ofImm (p' := noPlace) (AV.immL_mem himm _ (List.mem_of_getElem? e))
        · exact .top
      · exact .top
    · rename_i hT
      exact .ref (by rw [Place.drop_not hT]; exact hr) hnl
  | @eref _ id k i off r hr hnl =>
    simp only [frzLeaf]
    split
    · rename_i hT
      have hob := hs.obj id
      split
      · rename_i k' xs heq
        split
        · rename_i hkk
          subst hkk
          rw [heq] at hob
          obtain ⟨r', hr', ⟨hn, _⟩ | ⟨_, cs, E, hh, hl, hm', hsz, hk, hv⟩⟩ := hob
          · obtain rfl : r = r' := Option.some.inj (hr.symm.trans hr')
            rw [hnl] at hn; cases hn
          obtain rfl : r = r' := Option.some.inj (hr.symm.trans hr')
          have hcell : ∀ j y, ((xs.getD i []).drop off)[j]? = some y → ∃ u, cs[r.base + i * k' + off + j]? = some u ∧ u.oneCell' = true ∧ Conc I w noPlace u y := by
            intro j y e
            rw [List.getElem?_drop] at e
            obtain ⟨u, e1, e2, e3⟩ := hv i (off + j) _ _ (getD_some e).1 e
            exact ⟨u, by rw [← e1]; congr 1; omega, e2, e3⟩
          refine .cptr (f := fun j => (cs[r.base + i * k' + off + j]?).getD undef) (.inr ⟨id, r, hT, hr, hnl, rfl⟩) (fun j hj => ?_) (fun j hj => ?_) fun j y e => ?_
          · obtain ⟨u, e1, _⟩ := hcell j _ (List.getElem?_eq_getElem hj)
            simp [World.cell?, hh, e1]
          · obtain ⟨u, e1, e2, _⟩ := hcell j _ (List.getElem?_eq_getElem hj)
            simp [e1, e2]
          · obtain ⟨u, e1, _, e3⟩ := hcell j y e
            simpa [e1] using e3.mono (fun _ _ => rfl) hI fun _ _ h => h
        · exact .top
      · exact .top
    · rename_i hT
      exact .eref (by rw [Place.drop_not hT]; exact hr) hnl
  | @mref _ id r hr hnl =>
    simp only [frzLeaf]
    split
    · exact .top
    · rename_i hT
      exact .mref (by rw [Place.drop_not hT]; exact hr) hnl
  | _ => cases hx

theorem frz_conc (hs : Sim GT w0 G p I s a w) (T : List Nat) : ∀ (n : Nat) (v : Value) (x : AV), Conc I w p v x → Conc (fun b => I b ∨ blksOf p T b) w (p.drop T) v (x.frz s T n)
  | 0, _v, _x, h => h.leafs (fun _ _ => rfl) (fun _ h => .inl h) (frzLeaf_conc hs T _ fun _ _ _ => .top)
  | n + 1, _v, _x, h => h.leafs (fun _ _ => rfl) (fun _ h => .inl h) (frzLeaf_conc hs T _ (frz_conc hs T n))

theorem frzF_conc (hs : Sim GT w0 G p I s a w) (T : List Nat) (v : Value) (x : AV) (hx : x.isLeaf = true) (h : Conc I w p v x) : Conc (fun b => I b ∨ blksOf p T b) w (p.drop T) v (frzF s T x) :=
  frzLeaf_conc hs T _ (frz_conc hs T 2) v x hx h

/-- The state in which the objects of T are written no more. -/
def St.frz (s : St) (T : List Nat) : St :=
  { slots := AV.leafsL (frzF s T) s.slots, objs := s.objs.mapIdx fun i o => if T.contains i then .dead else o.leafs (frzF s T) }

theorem St.frz_obj (s : St) (T : List Nat) (i : Nat) : (s.frz T).obj i = if T.contains i then .dead else (s.obj i).leafs (frzF s T) := by
  simp only [St.frz, St.obj, List.getD_eq_getElem?_getD, List.getElem?_mapIdx]
  cases s.objs[i]? with
  | none => simp [Obj.leafs]
  | some o => rfl

theorem Sim.frz (h : Sim GT w0 G p I s a w) (T : List Nat) : Sim GT w0 G (p.drop T) (fun b => I b ∨ blksOf p T b) (s.frz T) a w := by
  have hp : ∀ i r, p.drop T i = some r → p i = some r ∧ T.contains i = false := by
    intro i r hi
    simp only [Place.drop] at hi
    split at hi
    · cases hi
    · exact ⟨hi, by simpa using ‹¬ T.contains i = true›⟩
  refine ⟨by simp [St.frz, AV.leafsL_eq, h.size], fun i v x e e' => ?_, h.defers, fun i => ?_, fun i j r r' hi hj hl hl' hb => h.inj i j r r' (hp i r hi).1 (hp j r' hj).1 hl hl' hb, fun i r hi hl => ?_, fun b hb => ?_, h.frame, fun g cs hg => (h.glob g cs hg).mono (fun _ _ => rfl) (fun _ h => .inl h) fun _ _ h => h, by simpa [St.frz] using h.given⟩
  · simp only [St.frz, AV.leafsL_eq] at e'
    obtain ⟨y, hy, rfl⟩ := map_get e'
    exact (h.slot i v y e hy).leafs (fun _ _ => rfl) (fun _ h => .inl h) (frzF_conc h T)
  · rw [St.frz_obj]
    split
    · rename_i hT
      exact Place.drop_yes hT
    · rename_i hT
      exact (h.obj i).leafs (fun _ _ => rfl) (fun _ h => .inl h) (fun _ _ _ => rfl) (Place.drop_not hT) (frzF_conc h T)
  · obtain ⟨hi, hT⟩ := hp i r hi
    obtain ⟨h1, h2, h3⟩ := h.own i r hi hl
    refine ⟨h1, h2, ?_⟩
    rintro (hb | ⟨j, r', hj, hr', hl', hb⟩)
    · exact h3 hb
    · have := h.inj j i r' r hr' hi hl' hl hb
      subst this
      rw [hT] at hj
      cases hj
  · rcases hb with hb | ⟨j, r', hj, hr', hl', hb⟩
    · exact h.imm b hb
    · rw [← hb]; exact (h.own j r' hr' hl').2.1

theorem frzF_nil (s : St) (x : AV) (hx : x.isLeaf = true) : frzF s [] x = x := by
  cases x <;> first | cases hx; done | simp [frzF, frzLeaf]
theorem St.frz_nil (s : St) : s.frz [] = s := by
  simp only [St.frz]
  rw [AV.leafsL_self _ (frzF_nil s)]
  congr 1
  apply List.ext_getElem?
  intro i
  rw [List.getElem?_mapIdx]
  cases s.objs[i]? with
  | none => rfl
  | some o => simp [Obj.leafs_self _ (frzF_nil s)]

end

/- What hangs on no memory but the call's own. -/
mutual
def AV.flat : AV → Bool
  | .agg cs => AV.flatL cs
  | .tup cs => AV.flatL cs
  | .clo _ as bs => AV.flatL as && AV.flatL bs
  | .lst _ xs => xs.isEmpty
  | .cptr _ => false
  | .top => true
  | .raw _ => true
  | .own _ _ _ _ => true
  | .ref _ _ => true
  | .eref _ _ _ _ => true
  | .mref _ => true
def AV.flatL : List AV → Bool
  | [] => true
  | a :: as => AV.flat a && AV.flatL as
end
theorem AV.flatL_mem {l : List AV} (h : AV.flatL l = true) : ∀ a, a ∈ l → a.flat = true := by
  induction l with
  | nil => intro a ha; cases ha
  | cons b l ih =>
    simp only [AV.flatL, Bool.and_eq_true] at h
    intro a ha
    rcases List.mem_cons.1 ha with rfl | ha
    · exact h.1
    · exact ih h.2 a ha
theorem Conc.ofFlat {I I' : Nat → Prop} {w w' : World} {p : Place} {v : Value} {x : AV} (h : Conc I w p v x) (hf : x.flat = true) : Conc I' w' p v x := by
  induction h with
  | top => exact .top
  | raw => exact .raw
  | agg hl h1 _ ih => exact .agg hl h1 fun i v a e e' => ih i v a e e' (AV.flatL_mem (by simpa [AV.flat] using hf) a (List.mem_of_getElem? e'))
  | tup hl _ ih => exact .tup hl fun i v a e e' => ih i v a e e' (AV.flatL_mem (by simpa [AV.flat] using hf) a (List.mem_of_getElem? e'))
  | @lst _ _ xs _ _ _ f hn hc hm =>
    have : xs = [] := by simpa [AV.flat] using hf
    subst this
    exact .lst (f := f) hn hc hm (by simp) (.inl rfl) (by simp) (by simp)
  | cptr => cases hf
  | own hn hm hp h => exact .own hn hm hp h
  | ref h hl => exact .ref h hl
  | eref h hl => exact .eref h hl
  | mref h hl => exact .mref h hl
  | clo hl hl' _ _ ih ih' =>
    simp only [AV.flat, Bool.and_eq_true] at hf
    exact .clo hl hl' (fun i v a e e' => ih i v a e e' (AV.flatL_mem hf.1 a (List.mem_of_getElem? e'))) fun i v a e e' => ih' i v a e e' (AV.flatL_mem hf.2 a (List.mem_of_getElem? e'))

def Obj.flat : Obj → Prop
  | .dead => True
  | .box cs => AV.flatL cs = true
  | .arr _ xs => ∀ x, x ∈ xs → AV.flatL x = true
  | .mp _ m => ∀ x, x ∈ m → x.2.flat = true

def flatRes (r : AV) (os : List Obj) : Prop := r.flat = true ∧ ∀ o, o ∈ os → o.flat

/-- Objects that a callee hands back, in a world. -/
structure Handed (I : Nat → Prop) (B : Nat → Prop) (w : World) (p : Place) (os : List Obj) : Prop where
  obj : ∀ id, ObjConc I w p id (os.getD id .dead)
  inj : ∀ i j r r', p i = some r → p j = some r' → r.nul = false → r'.nul = false → r.blk = r'.blk → i = j
  own : ∀ i r, p i = some r → r.nul = false → B r.blk ∧ r.blk < w.heap.size ∧ ¬ I r.blk

/-- A call can be entered. -/
def Enters (P : Program) (f : FuncId) : Prop := ∃ fn, P.funcs[f]? = some fn ∧ fn.body.isSome = true ∧ (fn.name == "runtime.NumGoroutine") = false

/-- Blocks of objects that are given away. -/
def blksAll (q : Place) (b : Nat) : Prop := ∃ i r, q i = some r ∧ r.nul = false ∧ r.blk = b

/-- Objects that a caller gives away. -/
structure Given (I : Nat → Prop) (w : World) (q : Place) (objs : List Obj) : Prop where
  obj : ∀ id, ObjConc I w q id (objs.getD id .dead)
  inj : ∀ i j r r', q i = some r → q j = some r' → r.nul = false → r'.nul = false → r.blk = r'.blk → i = j
  own : ∀ i r, q i = some r → r.nul = false → r.blk < w.heap.size ∧ ¬ I r.blk

/-- THE CONTRACT OF A GO FUNCTION: called with values of which 'args' is said, and with objects 'objs' that it may write, it returns a value of which r is said, and the objects are 'os': the given ones, each where it was or gone, then further ones. R: which r and os. -/
def Holds (P : Program) (GT : Globs) (f : FuncId) (args : List AV) (objs : List Obj) (R : AV → List Obj → Prop) : Prop :=
  Enters P f ∧ ∀ (w : World) (I : Nat → Prop) (vs : Array Value) (q0 : Place), vs.size = args.length → (∀ (i : Nat) (v : Value) (a : AV), vs[i]? = some v → args[i]? = some a → Conc I w q0 v a) →
    Given I w q0 objs → (∀ b, I b → b < w.heap.size) → (∀ g cs, (g, cs) ∈ GT → Conc I w noPlace (.pointer (some ⟨g, 0, none⟩)) (.cptr cs)) →
    Calls P f vs w fun e w' => ∃ v q I' r os, R r os ∧ e = .returned v ∧ Frm w (blksAll q0) w' ∧ (∀ b, I b → I' b) ∧ (∀ b, I' b → I b ∨ w.heap.size ≤ b ∨ blksAll q0 b) ∧ (∀ b, I' b → b < w'.heap.size) ∧
      Conc I' w' q v r ∧ Handed I' (fun b => w.heap.size ≤ b ∨ blksAll q0 b) w' q os ∧ ∀ i, i < objs.length → q i = q0 i ∨ q i = none

theorem Holds.mono {P : Program} {GT : Globs} {f : FuncId} {args : List AV} {objs : List Obj} {R R' : AV → List Obj → Prop} (h : Holds P GT f args objs R) (hr : ∀ r os, R r os → R' r os) : Holds P GT f args objs R' :=
  ⟨h.1, fun w I vs q0 h1 h2 h3 h4 h5 => (h.2 w I vs q0 h1 h2 h3 h4 h5).mono fun _ _ ⟨v, q, I', r, os, h, rest⟩ => ⟨v, q, I', r, os, hr r os h, rest⟩⟩

/-- One result. -/
def Ret (r : AV) (os : List Obj) : AV → List Obj → Prop := fun r' os' => r' = r ∧ os' = os

/-- The contract of a function that writes nothing that it gets: one value, with new objects. -/
abbrev Fn1 (P : Program) (GT : Globs) (f : FuncId) (args : List AV) (r : AV) (os : List Obj) : Prop := Holds P GT f args [] (Ret r os)

theorem callFunc_run {P : Program} {f : FuncId} (h : Enters P f) (vs : Array Value) (w : World) : (callFunc f vs).run P w = .ok (.enter f vs) w := by
  obtain ⟨fn, h1, h2, h3⟩ := h
  have h4 : ¬ fn.body = none := by cases hb : fn.body <;> simp_all
  have h5 : ¬ fn.name = "runtime.NumGoroutine" := by simpa using h3
  simp [callFunc, h1, h4, h5]

end Go.Proofs.YtmfgaefefgnhbaaGreatDoor.Abs
namespace Go.Proofs.YtmfgaefefgnhbaaGreatDoor.Abs
set_option linter.unusedSimpArgs false
set_option linter.unusedVariables false
open Go Go.RowKit

/-- What was when a call began: the world, the blocks that were given to it, the blocks that nobody wrote any more, the places of the given objects. -/
structure Base where
  w0 : World
  G : Nat → Prop
  I0 : Nat → Prop
  q0 : Place

/-- A frame in a world, and an abstract state: whatever the places, and whatever has become unwritable since the call began. -/
def StC (GT : Ctx) (B : Base) (s : St) (a : Act) (w : World) : Prop :=
  ∃ p I, Sim GT B.w0 B.G p I s a w ∧ (∀ b, B.I0 b → I b) ∧ (∀ b, I b → B.I0 b ∨ B.w0.heap.size ≤ b ∨ B.G b) ∧ ∀ i, i < GT.given → p i = B.q0 i ∨ p i = none

def nodupB : List Nat → Bool
  | [] => true
  | a :: l => !l.contains a && nodupB l

theorem nodupB_inj : ∀ {K : List Nat}, nodupB K = true → ∀ (i j x : Nat), K[i]? = some x → K[j]? = some x → i = j
  | [], _, i, j, x, h, _ => by simp at h
  | a :: K, h, i, j, x, hi, hj => by
    simp only [nodupB, Bool.and_eq_true, Bool.not_eq_true', List.contains_eq_mem, decide_eq_false_iff_not] at h
    cases i with
    | zero =>
      cases j with
      | zero => rfl
      | succ j =>
        simp at hi hj
        subst hi
        exact absurd (List.mem_of_getElem? hj) h.1
    | succ i =>
      cases j with
      | zero =>
        simp at hi hj
        subst hj
        exact absurd (List.mem_of_getElem? hi) h.1
      | succ j =>
        simp at hi hj
        rw [nodupB_inj h.2 i j x hi hj]

/-- The place of a name in a list. -/
def idxIn : List Nat → Nat → Option Nat
  | [], _ => none
  | a :: l, i => if a = i then some 0 else (idxIn l i).map (· + 1)
theorem idxIn_get : ∀ {T : List Nat} {i j : Nat}, idxIn T i = some j → T[j]? = some i
  | [], i, j, h => by cases h
  | a :: l, i, j, h => by
    simp only [idxIn] at h
    split at h
    · injection h with h; subst h; simpa
    · cases hl : idxIn l i with
      | none => rw [hl] at h; cases h
      | some j' => rw [hl] at h; injection h with h; subst h; simpa using idxIn_get hl
theorem idxIn_none : ∀ {T : List Nat} {i : Nat}, idxIn T i = none → i ∉ T
  | [], i, h => by simp
  | a :: l, i, h => by
    simp only [idxIn] at h
    split at h
    · cases h
    · rename_i hne
      cases hl : idxIn l i with
      | none => simp [idxIn_none hl, Ne.symm hne]
      | some j' => rw [hl] at h; cases h
theorem idxIn_of {T : List Nat} (hnd : nodupB T = true) {i j : Nat} (h : T[j]? = some i) : idxIn T i = some j := by
  cases hi : idxIn T i with
  | none => exact absurd (List.mem_of_getElem? h) (idxIn_none hi)
  | some j' => rw [nodupB_inj hnd j' j i (idxIn_get hi) h]

/-- The names that the caller uses for the objects of a callee: those that were given to it, then new ones. -/
def backName (T : List Nat) (n : Nat) (j : Nat) : Option Nat := some (match T[j]? with
  | some i => i
  | none => n + (j - T.length))
def Obj.isDead : Obj → Bool
  | .dead => true
  | _ => false
/-- The names that are left to the caller. -/
def leftName (T : List Nat) (os : List Obj) (i : Nat) : Option Nat := match idxIn T i with
  | some j => if (os.getD j .dead).isDead then none else some i
  | none => some i
/-- What the caller has behind a call that handed back 'os', of which the first are those of T. -/
def St.back (s : St) (T : List Nat) (os : List Obj) : St :=
  { slots := AV.leafsL (AV.ren (leftName T os)) s.slots,
    objs := (s.objs.mapIdx fun i o => match idxIn T i with
      | some j => (os.getD j .dead).leafs (AV.ren (backName T s.objs.length))
      | none => o.leafs (AV.ren (leftName T os))) ++ (os.drop T.length).map (Obj.leafs (AV.ren (backName T s.objs.length))) }
def Place.back (p q : Place) (T : List Nat) (n : Nat) : Place := fun i => match idxIn T i with
  | some j => q j
  | none => if i < n then p i else q (T.length + (i - n))

section
variable {P : Program} {GT : Ctx} {B : Base} {w0 : World} {G : Nat → Prop} {p : Place} {I : Nat → Prop} {s : St} {a : Act} {w : World}

theorem St.back_obj (s : St) {T : List Nat} (os : List Obj) (hT : ∀ i, i ∈ T → i < s.objs.length) (i : Nat) : (s.back T os).obj i = match idxIn T i with
    | some j => (os.getD j .dead).leafs (AV.ren (backName T s.objs.length))
    | none => if i < s.objs.length then (s.obj i).leafs (AV.ren (leftName T os)) else (os.getD (T.length + (i - s.objs.length)) .dead).leafs (AV.ren (backName T s.objs.length)) := by
  simp only [St.back, St.obj, List.getD_eq_getElem?_getD, List.getElem?_append]
  have hlen : (s.objs.mapIdx fun i o => match idxIn T i with
      | some j => (os[j]?.getD .dead).leafs (AV.ren (backName T s.objs.length))
      | none => o.leafs (AV.ren (leftName T os))).length = s.objs.length := by simp
  rw [hlen]
  split
  · rename_i hi
    rw [List.getElem?_mapIdx, List.getElem?_eq_getElem hi]
    cases hx : idxIn T i with
    | none => simp []
    | some j => simp []
  · rename_i hi
    cases hx : idxIn T i with
    | some j => exact absurd (hT i (List.mem_of_getElem? (idxIn_get hx))) hi
    | none =>
      simp only [List.getElem?_map, List.getElem?_drop]
      cases os[T.length + (i - s.objs.length)]? with
      | none => rfl
      | some o => rfl

/-- The callee's objects beside the caller's. q: where they are; I': what is unwritable then. -/
theorem Sim.back (h : Sim GT w0 G p I s a w) {T : List Nat} (hnd : nodupB T = true) (hT : ∀ i, i ∈ T → i < s.objs.length) {w' : World} {q : Place} {I' : Nat → Prop} {os : List Obj}
    (hf : Frm w (blksAll fun j => (T[j]?).bind p) w') (hI : ∀ b, I b → I' b) (hI' : ∀ b, I' b → I b ∨ w.heap.size ≤ b ∨ blksAll (fun j => (T[j]?).bind p) b) (hlt : ∀ b, I' b → b < w'.heap.size)
    (hh : Handed I' (fun b => w.heap.size ≤ b ∨ blksAll (fun j => (T[j]?).bind p) b) w' q os) (hq : ∀ j, j < T.length → q j = (T[j]?).bind p ∨ q j = none) :
    Sim GT w0 G (p.back q T s.objs.length) I' (s.back T os) a w' ∧ (∀ (v : Value) (x : AV), Conc I' w' q v x → Conc I' w' (p.back q T s.objs.length) v (x.leafs (AV.ren (backName T s.objs.length)))) ∧
      ∀ i, i < GT.given → p.back q T s.objs.length i = p i ∨ p.back q T s.objs.length i = none := by
  have hTj : ∀ j, j < T.length → ∃ i, T[j]? = some i ∧ idxIn T i = some j ∧ i < s.objs.length := fun j hj => by
    refine ⟨T[j], List.getElem?_eq_getElem hj, idxIn_of hnd (List.getElem?_eq_getElem hj), hT _ (List.getElem_mem hj)⟩
  -- the blocks that were given
  have hG : ∀ b, blksAll (fun j => (T[j]?).bind p) b → ∃ i r, idxIn T i ≠ none ∧ p i = some r ∧ r.nul = false ∧ r.blk = b := fun b ⟨j, r, hj, hl, hb⟩ => by
    simp only [Option.bind_eq_some_iff] at hj
    obtain ⟨i, hi, hpi⟩ := hj
    exact ⟨i, r, by rw [idxIn_of hnd hi]; simp, hpi, hl, hb⟩
  have hGI : ∀ b, I b → ¬ blksAll (fun j => (T[j]?).bind p) b := fun b hb hg => by
    obtain ⟨i, r, _, hr, hl, rfl⟩ := hG b hg
    exact (h.own i r hr hl).2.2 hb
  have hGp : ∀ i r, idxIn T i = none → p i = some r → r.nul = false → ¬ blksAll (fun j => (T[j]?).bind p) r.blk := fun i r hi hr hl hg => by
    obtain ⟨i', r', h1, h2, h3, h4⟩ := hG _ hg
    have := h.inj i' i r' r h2 hr h3 hl h4
    subst this
    exact h1 hi
  have hw : ∀ b, b < w.heap.size → ¬ blksAll (fun j => (T[j]?).bind p) b → w'.heap[b]? = w.heap[b]? := fun b hb hg => hf.block b hb hg
  have hwI : ∀ b, I b → w'.heap[b]? = w.heap[b]? := fun b hb => hw b (h.imm b hb) (hGI b hb)
  -- what a place of the new ones is
  have hinv : ∀ i r, p.back q T s.objs.length i = some r → (∃ j, q j = some r ∧ backName T s.objs.length j = some i) ∨ (idxIn T i = none ∧ p i = some r) := fun i r hi => by
    simp only [Place.back] at hi
    cases hx : idxIn T i with
    | some j =>
      rw [hx] at hi
      exact .inl ⟨j, hi, by simp [backName, idxIn_get hx]⟩
    | none =>
      rw [hx] at hi
      simp only at hi
      split at hi
      · exact .inr ⟨rfl, hi⟩
      · rename_i hge
        refine .inl ⟨_, hi, ?_⟩
        have : T[T.length + (i - s.objs.length)]? = none := List.getElem?_eq_none (by omega)
        simp only [backName, this]
        congr 1
        omega
  have hbk : ∀ j i r, backName T s.objs.length j = some i → q j = some r → p.back q T s.objs.length i = some r := fun j i r hn hr => by
    simp only [backName, Option.some.injEq] at hn
    cases hj : T[j]? with
    | some i' =>
      rw [hj] at hn
      simp only at hn
      subst hn
      simp only [Place.back, idxIn_of hnd hj]
      exact hr
    | none =>
      rw [hj] at hn
      simp only at hn
      have hge : T.length ≤ j := by
        rcases Nat.lt_or_ge j T.length with h | h
        · rw [List.getElem?_eq_getElem h] at hj; cases hj
        · exact h
      have hx : idxIn T i = none := by
        cases hx : idxIn T i with
        | none => rfl
        | some j' => have := hT i (List.mem_of_getElem? (idxIn_get hx)); omega
      simp only [Place.back, hx]
      rw [if_neg (by omega), ← hn]
      rw [show T.length + (s.objs.length + (j - T.length) - s.objs.length) = j by omega]
      exact hr
  have hlf : ∀ i j r, leftName T os i = some j → p i = some r → p.back q T s.objs.length j = some r := fun i j r hn hr => by
    simp only [leftName] at hn
    cases hx : idxIn T i with
    | none =>
      rw [hx] at hn
      injection hn with hn
      subst hn
      simp only [Place.back, hx, if_pos (h.lt hr)]
      exact hr
    | some k =>
      rw [hx] at hn
      simp only at hn
      split at hn
      · cases hn
      · rename_i hd
        injection hn with hn
        subst hn
        simp only [Place.back, hx]
        have hk : k < T.length := by have := (List.getElem?_eq_some_iff.1 (idxIn_get hx)).1; exact this
        rcases hq k hk with h1 | h1
        · rw [h1, idxIn_get hx]; exact hr
        · have ho := hh.obj k
          cases hk' : os.getD k .dead with
          | dead => rw [hk'] at hd; exact absurd rfl hd
          | box cs => rw [hk'] at ho; obtain ⟨r', _, _, h2, _⟩ := ho; rw [h1] at h2; cases h2
          | arr k xs => rw [hk'] at ho; obtain ⟨r', h2, _⟩ := ho; rw [h1] at h2; cases h2
          | mp kd m => rw [hk'] at ho; obtain ⟨r', _, h2, _⟩ := ho; rw [h1] at h2; cases h2
  have hconc : ∀ (v : Value) (x : AV), Conc I' w' q v x → Conc I' w' (p.back q T s.objs.length) v (x.leafs (AV.ren (backName T s.objs.length))) :=
    fun v x hx => hx.ren _ (fun _ _ => rfl) (fun _ h => h) hbk
  refine ⟨⟨by simp [St.back, AV.leafsL_eq, h.size], fun i v x e e' => ?_, h.defers, fun i => ?_, fun i j r r' hi hj hl hl' hb => ?_, fun i r hi hl => ?_, hlt, ?_, fun g cs hg => (h.glob g cs hg).mono hwI hI fun _ _ h => h, by have := h.given; simp [St.back]; omega⟩, hconc, fun i hi => ?_⟩
  · simp only [St.back, AV.leafsL_eq] at e'
    obtain ⟨y, hy, rfl⟩ := map_get e'
    exact (h.slot i v y e hy).ren _ hwI hI hlf
  · rw [St.back_obj s os hT]
    cases hx : idxIn T i with
    | some j => exact (hh.obj j).ren _ (fun _ _ => rfl) (fun _ h => h) (fun _ _ _ => rfl) (by simp only [Place.back, hx]) hbk
    | none =>
      simp only
      split
      · rename_i hi
        exact (h.obj i).ren _ hwI hI (fun r hr hl => hw _ (h.own i r hr hl).2.1 (hGp i r hx hr hl)) (by simp only [Place.back, hx, if_pos hi]) hlf
      · rename_i hi
        exact (hh.obj _).ren _ (fun _ _ => rfl) (fun _ h => h) (fun _ _ _ => rfl) (by simp only [Place.back, hx, if_neg hi]) hbk
  · rcases hinv i r hi with ⟨i', g1, g2⟩ | ⟨g1, g2⟩ <;> rcases hinv j r' hj with ⟨j', g3, g4⟩ | ⟨g3, g4⟩
    · have := hh.inj i' j' r r' g1 g3 hl hl' hb
      subst this
      rw [g2] at g4
      exact Option.some.inj g4
    · rcases (hh.own i' r g1 hl).1 with hs | hs
      · have := (h.own j r' g4 hl').2.1; omega
      · rw [hb] at hs; exact absurd hs (hGp j r' g3 g4 hl')
    · rcases (hh.own j' r' g3 hl').1 with hs | hs
      · have := (h.own i r g2 hl).2.1; omega
      · rw [← hb] at hs; exact absurd hs (hGp i r g1 g2 hl)
    · exact h.inj i j r r' g2 g4 hl hl' hb
  · rcases hinv i r hi with ⟨i', g1, g2⟩ | ⟨g1, g2⟩
    · obtain ⟨h1, h2, h3⟩ := hh.own i' r g1 hl
      refine ⟨?_, h2, h3⟩
      rcases h1 with h1 | h1
      · exact .inl (by have := h.frame.size; omega)
      · obtain ⟨k, r', _, hk, hl', hb⟩ := hG _ h1
        rw [← hb]; exact (h.own k r' hk hl').1
    · obtain ⟨h1, h2, h3⟩ := h.own i r g2 hl
      refine ⟨h1, by have := hf.size; omega, fun hb => ?_⟩
      rcases hI' _ hb with hb | hb | hb
      · exact h3 hb
      · omega
      · exact hGp i r g1 g2 hl hb
  · refine ⟨hf.os.trans h.frame.os, hf.tape.trans h.frame.tape, hf.output.trans h.frame.output, by have := h.frame.size; have := hf.size; omega, fun k hk hg => ?_⟩
    rw [hw k (by have := h.frame.size; omega) fun hc => ?_]
    · exact h.frame.block k hk hg
    · obtain ⟨j, r', _, hj, hl', hb⟩ := hG _ hc
      rcases (h.own j r' hj hl').1 with h1 | h1
      · omega
      · rw [hb] at h1; exact hg h1
  · simp only [Place.back]
    cases hx : idxIn T i with
    | none => left; simp only; rw [if_pos (by have := h.given; omega)]
    | some j =>
      have hj : j < T.length := (List.getElem?_eq_some_iff.1 (idxIn_get hx)).1
      simp only
      rcases hq j hj with h1 | h1
      · left; rw [h1, idxIn_get hx]; rfl
      · exact .inr h1

/-- Objects handed back that hang on no memory but their own need nothing to be unwritable. -/
theorem Handed.ofFlat {I' I2 : Nat → Prop} {B : Nat → Prop} {w' : World} {q : Place} {os : List Obj} (h : Handed I' B w' q os) (hf : ∀ o, o ∈ os → o.flat) (hI : ∀ b, I2 b → ¬ B b) : Handed I2 B w' q os := by
  refine ⟨fun id => ?_, h.inj, fun i r hi hl => ?_⟩
  · have ho := h.obj id
    have hfl : (os.getD id .dead).flat := by
      rw [List.getD_eq_getElem?_getD]
      cases he : os[id]? with
      | none => trivial
      | some o => exact hf o (List.mem_of_getElem? he)
    generalize os.getD id .dead = o at ho hfl
    cases o with
    | dead => exact ho
    | box cs =>
      obtain ⟨r, c, E, hr, hn, hc, hl, hv⟩ := ho
      refine ⟨r, c, E, hr, hn, hc, hl, fun j x e => ?_⟩
      obtain ⟨u, e1, e2, e3⟩ := hv j x e
      exact ⟨u, e1, e2, e3.ofFlat (AV.flatL_mem hfl x (List.mem_of_getElem? e))⟩
    | arr k xs =>
      obtain ⟨r, hr, h1 | ⟨hn, c, E, hh, hl, hm, hs, hk, hv⟩⟩ := ho
      · exact ⟨r, hr, .inl h1⟩
      · refine ⟨r, hr, .inr ⟨hn, c, E, hh, hl, hm, hs, hk, fun i j x y e e' => ?_⟩⟩
        obtain ⟨u, e1, e2, e3⟩ := hv i j x y e e'
        exact ⟨u, e1, e2, e3.ofFlat (AV.flatL_mem (hfl x (List.mem_of_getElem? e)) y (List.mem_of_getElem? e'))⟩
    | mp kd m =>
      obtain ⟨r, es, hr, hn, hh, hl, hkd, hnd, hv⟩ := ho
      refine ⟨r, es, hr, hn, hh, hl, hkd, hnd, fun i e key x he hm => ?_⟩
      obtain ⟨h1, h2, h3⟩ := hv i e key x he hm
      exact ⟨h1, h2, h3.ofFlat (hfl _ (List.mem_of_getElem? hm))⟩
  · obtain ⟨h1, h2, _⟩ := h.own i r hi hl
    exact ⟨h1, h2, fun hb => hI _ hb h1⟩

/-- The arguments of a call: which function, and what it gets. -/
def callOf (GT : Ctx) (s : St) : Op → Option (FuncId × List AV)
  | .call { callee := .value f, args, .. } => match ev GT s f with
    | .clo (.func g) first captured => some (g, first ++ args.toList.map (ev GT s) ++ captured)
    | _ => none
  | _ => none

theorem callOf_run {o : Oper} {f : FuncId} {args : List AV} (h : callOf GT s o.op = some (f, args)) (hs : Sim GT w0 G p I s a w) (he : Enters P f) :
    ∃ vs : Array Value, (execOp a.eval o).run P w = .ok (.enter f vs) w ∧ vs.size = args.length ∧ ∀ (i : Nat) (v : Value) (x : AV), vs[i]? = some v → args[i]? = some x → Conc I w p v x := by
  unfold callOf at h
  split at h
  · rename_i fo argso ty ho
    split at h
    · rename_i g first captured hf
      simp only [Option.some.injEq, Prod.mk.injEq] at h
      obtain ⟨rfl, rfl⟩ := h
      have hc := hs.ev fo
      rw [hf] at hc
      generalize hfv : a.eval fo = fv at hc
      cases hc with
      | @clo _ _ fs cs _ _ hl hl' h1 h2 =>
        refine ⟨fs ++ argso.map a.eval ++ cs, ?_, by simp [hl, hl'], fun i v x e e' => ?_⟩
        · simp [execOp, ho, resolve, Deferred.ofValue, hfv, invoke, callFunc_run he]
        · rw [Array.getElem?_append] at e
          rw [List.getElem?_append] at e'
          simp only [Array.size_append, Array.size_map, List.length_append, List.length_map, Array.length_toList, hl] at e e'
          split at e
          · rename_i hlt
            rw [if_pos hlt] at e'
            rw [Array.getElem?_append] at e
            rw [List.getElem?_append] at e'
            rw [hl] at e'
            split at e
            · rename_i hlt2
              rw [if_pos hlt2] at e'
              exact h1 _ _ _ e e'
            · rename_i hlt2
              rw [if_neg hlt2] at e'
              obtain ⟨y, hy, rfl⟩ : ∃ y, argso[i - fs.size]? = some y ∧ x = ev GT s y := by
                rw [List.getElem?_map, Array.getElem?_toList] at e'
                cases hq : argso[i - fs.size]? with
                | none => rw [hq] at e'; cases e'
                | some y => rw [hq] at e'; injection e' with e'; exact ⟨y, rfl, e'.symm⟩
              rw [Array.getElem?_map, hy] at e
              injection e with e
              subst e
              exact hs.ev y
          · rename_i hlt
            rw [if_neg hlt] at e'
            exact h2 _ _ _ e e'
    · cases h
  · cases h

/-- Less is said of a state. -/
def SemLe (GT : Ctx) (s s' : St) : Prop := ∀ (B : Base) (a : Act) (w : World), StC GT B s a w → StC GT B s' a w
theorem SemLe.refl (GT : Ctx) (s : St) : SemLe GT s s := fun _ _ _ h => h

/-- A call. m: it may write what was there. F0: what is handed over for good, F: what is handed over until it returns (and nothing that comes back hangs on it), T: what it may write. -/
def CallG (P : Program) (GT : Ctx) (m : Bool) (s : St) (f : FuncId) (args : List AV) (d : Option Tmp) (K : St → Prop) : Prop :=
  ∃ (T F : List Nat) (R : AV → List Obj → Prop), (m = true ∨ T = []) ∧ nodupB T = true ∧ (T.all fun i => !(s.obj i).isDead && !F.contains i) = true ∧
    Holds P GT.tab f (args.map fun x => (x.leafs (frzF s F)).leafs (AV.ren (idxIn T))) (T.map fun i => ((s.obj i).leafs (frzF s F)).leafs (AV.ren (idxIn T))) R ∧
    ∀ r os, R r os → (F = [] ∨ flatRes r os) ∧ ∃ s2, SemLe GT ((s.back T os).put d (r.leafs (AV.ren (backName T s.objs.length)))) s2 ∧ K s2
def CallA (P : Program) (GT : Ctx) (m : Bool) (s : St) (f : FuncId) (args : List AV) (d : Option Tmp) (K : St → Prop) : Prop :=
  ∃ F0 : List Nat, CallG P GT m (s.frz F0) f (args.map (AV.leafs (frzF s F0))) d K

theorem StC.callG {o : Oper} {f : FuncId} {args : List AV} {m : Bool} {K : St → Prop} (_hent : Enters P f) {vs : Array Value} {p : Place} {I : Nat → Prop}
    (hrun : (execOp a.eval o).run P w = .ok (.enter f vs) w) (hsz : vs.size = args.length) (hargsC : ∀ (i : Nat) (v : Value) (x : AV), vs[i]? = some v → args[i]? = some x → Conc I w p v x)
    (hsim : Sim GT B.w0 B.G p I s a w) (hI0 : ∀ b, B.I0 b → I b) (hI1 : ∀ b, I b → B.I0 b ∨ B.w0.heap.size ≤ b ∨ B.G b) (hgv : ∀ i, i < GT.given → p i = B.q0 i ∨ p i = none)
    (hk : CallG P GT m s f args o.dst K) {next : Act → World → Prop} {Q : Exit → Act → World → Prop}
    (hnext : ∀ s' a' w', K s' → (m = false → Agree w w') → StC GT B s' a' w' → next a' w') : o.wp P a w next Q := by
  obtain ⟨T, F, R, hmT, hnd, hTa, ⟨_, hcontract⟩, hK⟩ := hk
  have hT1 : ∀ i, i ∈ T → i < s.objs.length ∧ F.contains i = false := fun i hi => by
    have := List.all_eq_true.1 hTa i hi
    simp only [Bool.and_eq_true, Bool.not_eq_true'] at this
    refine ⟨obj_lt fun h => ?_, this.2⟩
    rw [h] at this
    cases this.1
  -- what the callee sees
  have hfz := fun (v : Value) (x : AV) (hx : Conc I w p v x) => hx.leafs (I' := fun b => I b ∨ blksOf p F b) (w' := w) (p' := p.drop F) (fun _ _ => rfl) (fun _ h => .inl h) (frzF_conc hsim F)
  have hrenT : ∀ i j r, idxIn T i = some j → p.drop F i = some r → (fun j => (T[j]?).bind p) j = some r := fun i j r hj hr => by
    simp only [idxIn_get hj, Option.bind_some]
    rw [Place.drop_not (by rw [(hT1 i (List.mem_of_getElem? (idxIn_get hj))).2]; simp)] at hr
    exact hr
  have hq0 : ∀ (j : Nat) (r' : Real), (T[j]?).bind p = some r' → ∃ x, T[j]? = some x ∧ p x = some r' := fun j r' h => by
    simp only [Option.bind_eq_some_iff] at h
    exact h
  have hFT : ∀ b, blksOf p F b → ¬ blksAll (fun j => (T[j]?).bind p) b := fun b ⟨i, r, hi, hr, hl, hb⟩ ⟨j, r', hj, hl', hb'⟩ => by
    obtain ⟨x, hx, hpx⟩ := hq0 j r' hj
    have := hsim.inj i x r r' hr hpx hl hl' (hb.trans hb'.symm)
    subst this
    rw [(hT1 i (List.mem_of_getElem? hx)).2] at hi
    cases hi
  have hgiven : Given (fun b => I b ∨ blksOf p F b) w (fun j => (T[j]?).bind p) (T.map fun i => ((s.obj i).leafs (frzF s F)).leafs (AV.ren (idxIn T))) := by
    refine ⟨fun id => ?_, fun i j r1 r2 hi hj hl hl' hb => ?_, fun i r1 hi hl => ?_⟩
    · rw [List.getD_eq_getElem?_getD, List.getElem?_map]
      cases hx : T[id]? with
      | none => simp [ObjConc, hx]
      | some x =>
        have h1 := (hsim.obj x).leafs (I' := fun b => I b ∨ blksOf p F b) (w' := w) (p' := p.drop F) (id' := x) (fun _ _ => rfl) (fun _ h => .inl h) (fun _ _ _ => rfl) (Place.drop_not (by rw [(hT1 x (List.mem_of_getElem? hx)).2]; simp)) (frzF_conc hsim F)
        exact h1.ren (p' := fun j => (T[j]?).bind p) (id' := id) _ (fun _ _ => rfl) (fun _ h => h) (fun _ _ _ => rfl) (by simp only [hx, Option.bind_some]; rw [Place.drop_not (by rw [(hT1 x (List.mem_of_getElem? hx)).2]; simp)]) hrenT
    · obtain ⟨x, hx, hpx⟩ := hq0 i r1 hi
      obtain ⟨y, hy, hpy⟩ := hq0 j r2 hj
      obtain rfl := hsim.inj x y r1 r2 hpx hpy hl hl' hb
      exact nodupB_inj hnd i j x hx hy
    · obtain ⟨x, hx, hpx⟩ := hq0 i r1 hi
      obtain ⟨_, h2, h3⟩ := hsim.own x r1 hpx hl
      refine ⟨h2, ?_⟩
      rintro (h | h)
      · exact h3 h
      · exact hFT _ h ⟨i, r1, hi, hl, rfl⟩
  have hIb : ∀ b, I b ∨ blksOf p F b → b < w.heap.size := fun b hb => by
    rcases hb with hb | ⟨i, r, _, hr, hl, hb⟩
    · exact hsim.imm b hb
    · rw [← hb]; exact (hsim.own i r hr hl).2.1
  have hcall := hcontract w (fun b => I b ∨ blksOf p F b) vs (fun j => (T[j]?).bind p) (by simp [hsz]) (fun i v x e e' => by
    obtain ⟨y, hy, rfl⟩ := map_get e'
    exact (hfz v y (hargsC i v y e hy)).ren _ (fun _ _ => rfl) (fun _ h => h) hrenT) hgiven hIb fun g cs hg => (hsim.glob g cs hg).mono (fun _ _ => rfl) (fun _ h => .inl h) fun _ _ h => h
  unfold Oper.wp
  rw [hrun, Oper.upon_enter]
  refine hcall.mono ?_
  rintro e w' ⟨v, q, I', r, os, hR, rfl, hf, hI2, hI3, hI4, hv, hh, hq⟩
  obtain ⟨hflat, s2, hle2, hKs⟩ := hK r os hR
  have hlenT : (T.map fun i => ((s.obj i).leafs (frzF s F)).leafs (AV.ren (idxIn T))).length = T.length := by simp
  rw [hlenT] at hq
  have hag : m = false → Agree w w' := fun hm => by
    rcases hmT with h | h
    · rw [hm] at h; cases h
    · subst h
      refine ⟨hf.size, fun b hb => hf.block b hb fun ⟨j, r, hj, _⟩ => ?_⟩
      simp at hj
  -- what is unwritable for the caller
  obtain ⟨I'', k1, k2, k3, k4, k5⟩ : ∃ I'' : Nat → Prop, (∀ b, I b → I'' b) ∧ (∀ b, I'' b → I b ∨ w.heap.size ≤ b ∨ blksAll (fun j => (T[j]?).bind p) b) ∧ (∀ b, I'' b → b < w'.heap.size) ∧ Conc I'' w' q v r ∧ Handed I'' (fun b => w.heap.size ≤ b ∨ blksAll (fun j => (T[j]?).bind p) b) w' q os := by
    rcases hflat with hF | hflat
    · subst hF
      refine ⟨I', fun b hb => hI2 b (.inl hb), fun b hb => ?_, hI4, hv, hh⟩
      rcases hI3 b hb with (h | ⟨i, r, hi, _⟩) | h
      · exact .inl h
      · simp at hi
      · exact .inr h
    · refine ⟨I, fun _ h => h, fun _ h => .inl h, fun b hb => by have := hsim.imm b hb; have := hf.size; omega, hv.ofFlat hflat.1, hh.ofFlat hflat.2 fun b hb hB => ?_⟩
      rcases hB with hB | ⟨j, r', hj, hl', hb'⟩
      · have := hsim.imm b hb; omega
      · obtain ⟨x, hx, hpx⟩ := hq0 j r' hj
        rw [← hb'] at hb
        exact (hsim.own x r' hpx hl').2.2 hb
  obtain ⟨hsim', hconc, hgv'⟩ := hsim.back hnd (fun i hi => (hT1 i hi).1) hf k1 k2 k3 k5 hq
  refine hnext _ _ _ hKs hag (hle2 _ _ _ ⟨_, I'', hsim'.put o.dst (hconc v r k4), fun b hb => k1 b (hI0 b hb), fun b hb => ?_, fun i hi => ?_⟩)
  · rcases k2 b hb with h | h | ⟨j, r', hj, hl', hb'⟩
    · exact hI1 b h
    · exact .inr (.inl (by have := hsim.frame.size; omega))
    · obtain ⟨x, hx, hpx⟩ := hq0 j r' hj
      rw [← hb']
      exact .inr (hsim.own x r' hpx hl').1
  · rcases hgv' i hi with h | h
    · rw [h]; exact hgv i hi
    · exact .inr h

/-- What is handed over for good. -/
theorem StC.frz (hs : StC GT B s a w) (T : List Nat) : StC GT B (s.frz T) a w := by
  obtain ⟨p, I, hsim, h1, h2, h3⟩ := hs
  refine ⟨_, _, hsim.frz T, fun b hb => .inl (h1 b hb), fun b hb => ?_, fun i hi => ?_⟩
  · rcases hb with hb | ⟨i, r, _, hr, hl, hb⟩
    · exact h2 b hb
    · rw [← hb]; exact .inr (hsim.own i r hr hl).1
  · by_cases hT : T.contains i = true
    · exact .inr (Place.drop_yes hT)
    · rw [Place.drop_not hT]; exact h3 i hi

theorem StC.call {o : Oper} {f : FuncId} {args : List AV} {m : Bool} {K : St → Prop} (hc : callOf GT s o.op = some (f, args)) (hk : CallA P GT m s f args o.dst K) (hs : StC GT B s a w) {next : Act → World → Prop} {Q : Exit → Act → World → Prop}
    (hnext : ∀ s' a' w', K s' → (m = false → Agree w w') → StC GT B s' a' w' → next a' w') : o.wp P a w next Q := by
  obtain ⟨F0, hk⟩ := hk
  obtain ⟨p, I, hsim, h1, h2, h3⟩ := hs
  have hent : Enters P f := by obtain ⟨T, F, R, _, _, _, hh, _⟩ := hk; exact hh.1
  obtain ⟨vs, hrun, hsz, hargsC⟩ := callOf_run (P := P) hc hsim hent
  have hs1 : StC GT B (s.frz F0) a w := StC.frz ⟨p, I, hsim, h1, h2, h3⟩ F0
  have hsim1 := hsim.frz F0
  refine StC.callG (B := B) (vs := vs) (p := p.drop F0) (I := fun b => I b ∨ blksOf p F0 b) hent hrun (by simp [hsz]) (fun i v x e e' => ?_) hsim1 (fun b hb => .inl (h1 b hb)) (fun b hb => ?_) (fun i hi => ?_) hk hnext
  · obtain ⟨y, hy, rfl⟩ := map_get e'
    exact (hargsC i v y e hy).leafs (fun _ _ => rfl) (fun _ h => .inl h) (frzF_conc hsim F0)
  · rcases hb with hb | ⟨i, r, _, hr, hl, hb⟩
    · exact h2 b hb
    · rw [← hb]; exact .inr (hsim.own i r hr hl).1
  · by_cases hT : F0.contains i = true
    · exact .inr (Place.drop_yes hT)
    · rw [Place.drop_not hT]; exact h3 i hi

end
/-- What the abstract machine says of a stack of code: from every frame and world of which s is said, the machine comes to an exit at which Q is. -/
def J (P : Program) (GT : Ctx) (k : List Item) (s : St) (Q : Exit → St → Prop) : Prop :=
  ∀ (B : Base) (a : Act) (w : World), StC GT B s a w → ∀ (b : Frame) (k0 : List Item) (cs : List Frame),
    ∃ e a' w' s', Q e s' ∧ StC GT B s' a' w' ∧ Arrives P (lone (b.at a (k ++ k0)) cs w) b k0 cs e a' w'

section
variable {P : Program} {GT : Ctx} {s : St} {k : List Item} {Q : Exit → St → Prop}

theorem J.mono {Q' : Exit → St → Prop} (h : J P GT k s Q) (hq : ∀ e s, Q e s → Q' e s) : J P GT k s Q' := fun B a w hs b k0 cs =>
  let ⟨e, a', w', s', h1, h2, h3⟩ := h B a w hs b k0 cs
  ⟨e, a', w', s', hq _ _ h1, h2, h3⟩

theorem J_nil (h : Q .normal s) : J P GT [] s Q := fun _ a w hs _ _ _ => ⟨.normal, a, w, s, h, hs, Steps.refl _ _⟩

theorem J_step {k' : List Item} (hstep : ∀ (b : Frame) (a : Act) (w : World) (k0 : List Item) (cs : List Frame), step P (lone (b.at a (k ++ k0)) cs w) = .next (lone (b.at a (k' ++ k0)) cs w)) (h : J P GT k' s Q) : J P GT k s Q :=
  fun B a w hs b k0 cs =>
  let ⟨e, a', w', s', h1, h2, h3⟩ := h B a w hs b k0 cs
  ⟨e, a', w', s', h1, h2, .of_steps (.one (hstep b a w k0 cs)) h3⟩

theorem J_skip (h : J P GT k s Q) : J P GT (.code .skip :: k) s Q := J_step (fun _ _ _ _ _ => step_skip) h
theorem J_label {l : Nat} (h : J P GT k s Q) : J P GT (.code (.label l) :: k) s Q := J_step (fun _ _ _ _ _ => step_label) h
theorem J_inBlock {id : Nat} (h : J P GT k s Q) : J P GT (.inBlock id :: k) s Q := J_step (fun _ _ _ _ _ => step_inBlock) h
theorem J_seq {x y : Code} (h : J P GT (.code x :: .code y :: k) s Q) : J P GT (.code (.seq x y) :: k) s Q := J_step (fun _ _ _ _ _ => step_seq) h
theorem J_block {id : Nat} {c : Code} (h : J P GT (.code c :: .inBlock id :: k) s Q) : J P GT (.code (.block id c) :: k) s Q := J_step (fun _ _ _ _ _ => step_block) h

theorem exitTo_append {id : Nat} : ∀ {k k' : List Item} (k0 : List Item), exitTo id k = some k' → exitTo id (k ++ k0) = some (k' ++ k0)
  | [], _, _, h => by cases h
  | x :: k, k', k0, h => by
    have ih := fun h => exitTo_append (id := id) (k := k) (k' := k') k0 h
    cases x with
    | inBlock i =>
      simp only [exitTo, List.cons_append] at h ⊢
      split at h
      · rename_i hi
        injection h with h
        subst h
        rw [if_pos hi]
      · rename_i hi
        rw [if_neg hi]
        exact ih h
    | _ => exact ih h

theorem J_exit {id : Nat} {k' : List Item} (he : exitTo id k = some k') (h : J P GT k' s Q) : J P GT (.code (.exit id) :: k) s Q :=
  J_step (fun _b _a _w k0 _cs => step_exit (exitTo_append k0 he)) h

theorem exitTo_none {id : Nat} : ∀ {k : List Item} (k0 : List Item), exitTo id k = none → exitTo id (k ++ k0) = exitTo id k0
  | [], _, _ => rfl
  | x :: k, k0, h => by
    have ih := fun h => exitTo_none (id := id) (k := k) k0 h
    cases x with
    | inBlock i =>
      simp only [exitTo, List.cons_append] at h ⊢
      split at h
      · cases h
      · rename_i hi
        rw [if_neg hi]
        exact ih h
    | _ => exact ih h

theorem J_exitOut {id : Nat} (he : exitTo id k = none) (h : Q (.exit id) s) : J P GT (.code (.exit id) :: k) s Q :=
  fun _ a w hs _ k0 _ => ⟨.exit id, a, w, s, h, hs, fun _ hk => .one (step_exit ((exitTo_none k0 he).trans hk))⟩

theorem gotoIn_append {l : Nat} : ∀ {k k' : List Item} (k0 : List Item), gotoIn l k = some k' → gotoIn l (k ++ k0) = some (k' ++ k0)
  | [], _, _, h => by cases h
  | x :: k, k', k0, h => by
    have ih := fun h => gotoIn_append (l := l) (k := k) (k' := k') k0 h
    cases x with
    | inScope c =>
      simp only [gotoIn, List.cons_append] at h ⊢
      split at h
      · injection h with h
        subst h
        rfl
      · exact ih h
    | _ => exact ih h

theorem step_scope {b : Frame} {a : Act} {k : List Item} {cs : List Frame} {w : World} {c : Code} : step P (lone (b.at a (.code (.scope c) :: k)) cs w) = .next (lone (b.at a (.code c :: .inScope c :: k)) cs w) :=
  step_lone_go (by simp [stepG, stepG.exec, Frame.at])
theorem step_inScope {b : Frame} {a : Act} {k : List Item} {cs : List Frame} {w : World} {c : Code} : step P (lone (b.at a (.inScope c :: k)) cs w) = .next (lone (b.at a k) cs w) :=
  step_lone_go (by simp [stepG, stepG.exec, Frame.at])

theorem J_goto {l : Nat} {k' : List Item} (he : gotoIn l k = some k') (h : J P GT k' s Q) : J P GT (.code (.goto l) :: k) s Q :=
  J_step (fun _b _a _w k0 _cs => step_goto (gotoIn_append k0 he)) h
theorem J_scope {c : Code} (h : J P GT (.code c :: .inScope c :: k) s Q) : J P GT (.code (.scope c) :: k) s Q := J_step (fun _ _ _ _ _ => step_scope) h
theorem J_inScope {c : Code} (h : J P GT k s Q) : J P GT (.inScope c :: k) s Q := J_step (fun _ _ _ _ _ => step_inScope) h

theorem J_ret (h : Q .ret s) : J P GT (.code .ret :: k) s Q := fun _ a w hs _ _ _ => ⟨.ret, a, w, s, h, hs, _, .one step_ret⟩

/-- A slot that holds a Bool that is known. -/
def St.know (s : St) : Operand → Bool → St
  | .tmp t, b => { s with slots := s.slots.set t (.raw (.bool b)) }
  | _, _ => s

theorem StC.know {B : Base} {a : Act} {w : World} {c : Operand} {b : Bool} (hs : StC GT B s a w) (h : ev GT s c = .raw (.bool b)) : StC GT B (s.know c b) a w := by
  obtain ⟨p, I, hs, h1, h2⟩ := hs
  refine ⟨p, I, ?_, h1, h2⟩
  cases c with
  | tmp t =>
    refine { hs with size := by simp [St.know, hs.size], slot := fun i v x e e' => ?_, obj := hs.obj }
    simp only [St.know, List.getElem?_set] at e'
    split at e'
    · rename_i hti
      subst hti
      split at e'
      · injection e' with e'
        subst e'
        rename_i hlt
        have := hs.ev (.tmp t)
        rw [h] at this
        have := this.raw_eq
        simp only [Act.eval, Array.getD_eq_getD_getElem?, e] at this
        simp at this
        rw [this]
        exact .raw
      · cases e'
    · exact hs.slot i v x e e'
  | _ => exact hs

theorem J_cond {c : Operand} {x y : Code} {t : Bool} (hc : ev GT s c = .raw (.bool t)) (h : J P GT (.code (if t then x else y) :: k) (s.know c t) Q) : J P GT (.code (.cond c x y) :: k) s Q := by
  intro B a w hs b k0 cs
  have he : a.eval c = .bool t := by
    obtain ⟨p, I, hsim, _⟩ := hs
    have := hsim.ev c
    rw [hc] at this
    exact this.raw_eq
  obtain ⟨e, a', w', s', h1, h2, h3⟩ := h B a w (hs.know hc) b k0 cs
  exact ⟨e, a', w', s', h1, h2, .of_steps (.one (step_cond he)) h3⟩

/-- The operations of a region from number i on. -/
def RO (P : Program) (GT : Ctx) (all : Array Oper) (l : List Nat) (k : List Item) (s : St) (Q : Exit → St → Prop) : Prop :=
  ∀ (B : Base) (a : Act) (w : World), StC GT B s a w → wpOps P all (fun e a' w' => e = .normal ∧ ∀ (b : Frame) (k0 : List Item) (cs : List Frame),
    ∃ e a2 w2 s', Q e s' ∧ StC GT B s' a2 w2 ∧ Arrives P (lone (b.at a' (k ++ k0)) cs w') b k0 cs e a2 w2) l a w

theorem J_region {id : Nat} {ops : Array Oper} (h : RO P GT ops (List.range ops.size) k s Q) : J P GT (.code (.region id ops false) :: k) s Q := by
  intro B a w hs b k0 cs
  obtain ⟨e, a', w', ⟨rfl, hq⟩, harr⟩ := wp_ops _ a w (h B a w hs) b (k ++ k0) cs
  obtain ⟨e, a2, w2, s', h1, h2, h3⟩ := hq b k0 cs
  exact ⟨e, a2, w2, s', h1, h2, .of_steps (.head step_region harr) h3⟩

theorem RO_nil {all : Array Oper} (h : J P GT k s Q) : RO P GT all [] k s Q := fun B a w hs => ⟨rfl, h B a w hs⟩

theorem wpOps_cons {all : Array Oper} {i : Nat} {l : List Nat} {o : Oper} {a : Act} {w : World} {Q : Exit → Act → World → Prop} (ho : all[i]? = some o) (h : if Region.wanted o (yielded all a.tmps) = true then o.wp P a w (wpOps P all Q l) Q else wpOps P all Q l (a.put o.dst undef) w) :
    wpOps P all Q (i :: l) a w := by
  simp only [wpOps, ho]
  split
  · rename_i hw; rw [if_pos hw] at h; exact .inl h
  · rename_i hw; rw [if_neg hw] at h; exact h

/-- The Bool that a guard asks for. -/
def guardSlot (all : Array Oper) (j : Nat) : Option Nat := (all[j]?).bind (·.dst)

theorem yielded_of {all : Array Oper} {j t : Nat} {b : Bool} {B : Base} {a : Act} {w : World} (hs : StC GT B s a w) (hj : guardSlot all j = some t) (hb : s.slots[t]? = some (.raw (.bool b))) : yielded all a.tmps j = some b := by
  obtain ⟨p, I, hs, _⟩ := hs
  have hlt : t < a.tmps.size := by rw [hs.size]; exact (List.getElem?_eq_some_iff.1 hb).1
  have := (hs.slot t _ _ (Array.getElem?_eq_getElem hlt) hb).raw_eq
  unfold yielded
  rw [show (all[j]?).bind (·.dst) = some t from hj]
  simp [Array.getElem?_eq_getElem hlt, this]

theorem StC.put {B : Base} {a : Act} {w : World} (hs : StC GT B s a w) (d : Option Tmp) {v : Value} : StC GT B (s.put d (.raw v)) (a.put d v) w := by
  obtain ⟨p, I, hsim, h1, h2⟩ := hs
  exact ⟨p, I, hsim.put d .raw, h1, h2⟩
theorem yielded_undef {all : Array Oper} {j t : Nat} {vs : Array Value} {B : Base} {a : Act} {w : World} (hs : StC GT B s a w) (hj : guardSlot all j = some t) (hb : s.slots.getD t .top = .raw (.tuple vs)) : yielded all a.tmps j = none := by
  obtain ⟨p, I, hs, _⟩ := hs
  have hlt' : t < s.slots.length := by
    rcases Nat.lt_or_ge t s.slots.length with h | h
    · exact h
    · rw [List.getD_eq_getElem?_getD, List.getElem?_eq_none h] at hb; cases hb
  have hb' : s.slots[t]? = some (.raw (.tuple vs)) := by
    rw [List.getD_eq_getElem?_getD, List.getElem?_eq_getElem hlt'] at hb
    rw [List.getElem?_eq_getElem hlt']
    exact congrArg some hb
  have hlt : t < a.tmps.size := by rw [hs.size]; exact hlt'
  have := (hs.slot t _ _ (Array.getElem?_eq_getElem hlt) hb').raw_eq
  unfold yielded
  rw [show (all[j]?).bind (·.dst) = some t from hj]
  simp [Array.getElem?_eq_getElem hlt, this]
/-- An operation whose guard was not asked. -/
theorem RO_undef {all : Array Oper} {i j t : Nat} {l : List Nat} {o : Oper} {vs : Array Value} {want : Bool} (ho : all[i]? = some o) (hg : o.guard = some (j, want)) (hj : guardSlot all j = some t) (hb : s.slots.getD t .top = .raw (.tuple vs)) (h : RO P GT all l k (s.put o.dst (.raw undef)) Q) : RO P GT all (i :: l) k s Q := by
  intro B a w hs
  refine wpOps_cons ho ?_
  have hy := yielded_undef hs hj hb
  rw [if_neg (by simp [Region.wanted, hg, hy])]
  exact h B _ _ (hs.put o.dst)

/-- An operation whose guard says no. -/
theorem RO_pass {all : Array Oper} {i j t : Nat} {l : List Nat} {o : Oper} {b want : Bool} (ho : all[i]? = some o) (hg : o.guard = some (j, want)) (hj : guardSlot all j = some t) (hb : s.slots[t]? = some (.raw (.bool b))) (hne : b = !want) (h : RO P GT all l k (s.put o.dst (.raw undef)) Q) : RO P GT all (i :: l) k s Q := by
  intro B a w hs
  refine wpOps_cons ho ?_
  have hy := yielded_of hs hj hb
  rw [if_neg (by simp only [Region.wanted, hg, hy]; subst hne; cases want <;> simp)]
  exact h B _ _ (hs.put o.dst)

/-- The Bool in a slot is looked at. -/
theorem RO_know {all : Array Oper} {l : List Nat} {t : Nat} {b : Bool} (hb : s.slots[t]? = some (.raw (.bool b))) (h : RO P GT all l k (s.know (.tmp t) b) Q) : RO P GT all l k s Q := by
  intro B a w hs
  refine h B a w (hs.know ?_)
  simp [ev, List.getD_eq_getElem?_getD, hb]

/-- What is handed over for good. -/
theorem J_frz (T : List Nat) (h : J P GT k (s.frz T) Q) : J P GT k s Q := fun B a w hs b k0 cs => h B a w (hs.frz T) b k0 cs

/-- An object gets a new name. -/
theorem J_move (id : Nat) (hid : id < s.objs.length) (h : J P GT k (s.move id) Q) : J P GT k s Q := fun B a w hs b k0 cs => by
  obtain ⟨p, I, hsim, h1, h2, h3⟩ := hs
  refine h B a w ⟨_, I, (hsim.move hid).1, h1, h2, fun i hi => ?_⟩ b k0 cs
  have := hsim.given
  rw [Place.with_other _ _ (by omega)]
  by_cases hi' : i = id
  · subst hi'; exact .inr (Place.with_same _ _ _)
  · rw [Place.with_other _ _ hi']; exact h3 i hi

/-- A slot that holds a nil slice: it gets a name. -/
def St.nilAt (s : St) (t k : Nat) : St := { slots := s.slots.set t (.own s.objs.length k 0 0), objs := s.objs ++ [.arr k []] }
theorem J_nil_own (t el : Nat) (ht : s.slots.getD t .top = .raw (.slice none 0 0)) (h : J P GT k (s.nilAt t el) Q) : J P GT k s Q := fun B a w hs b k0 cs => by
  obtain ⟨p, I, hsim, h1, h2, h3⟩ := hs
  have hn := hsim.newNil el ⟨0, 0, 0, 0, true⟩ rfl
  refine h B a w ⟨_, I, ⟨by simp [St.nilAt, hsim.size], fun i v x e e' => ?_, hn.defers, hn.obj, hn.inj, hn.own, hn.imm, hn.frame, hn.glob, hn.given⟩, h1, h2, fun i hi => ?_⟩ b k0 cs
  · simp only [St.nilAt, List.getElem?_set] at e'
    split at e'
    · rename_i hti
      subst hti
      split at e'
      · rename_i hlt
        injection e' with e'
        subst e'
        have := hsim.slot t v _ e (List.getElem?_eq_getElem hlt)
        rw [List.getD_eq_getElem?_getD, List.getElem?_eq_getElem hlt] at ht
        simp only [Option.getD_some] at ht
        rw [ht] at this
        rw [this.raw_eq]
        exact .own (Nat.le_refl _) (by simp [maxLen]) (Place.with_same _ _ _) (.inl ⟨rfl, rfl⟩)
      · cases e'
    · exact hn.slot i v x e e'
  · have := hsim.given
    rw [Place.with_other _ _ (by omega)]
    exact h3 i hi

/-- A loop. -/
theorem J_loop {c : Code} (R : St → Prop) (μ : St → Nat) (h0 : R s) (hr : ∀ s, R s → J P GT [.code c] s fun e s' => match e with
    | .normal => R s' ∧ μ s' < μ s
    | .exit id => match exitTo id k with
      | some k' => J P GT k' s' Q
      | none => Q (.exit id) s'
    | .ret => Q .ret s'
    | _ => False) : J P GT (.code (.loop c) :: k) s Q := by
  intro B a w hs b k0 cs
  have key : ∀ n s a w, μ s = n → R s → StC GT B s a w → ∃ e a' w' s', Q e s' ∧ StC GT B s' a' w' ∧ Arrives P (lone (b.at a (.code c :: .inLoop c :: (k ++ k0))) cs w) b k0 cs e a' w' := by
    intro n
    induction n using Nat.strongRecOn with
    | _ n ih =>
      intro s a w hn hR hs
      obtain ⟨e, a1, w1, s1, hq, hs1, harr⟩ := hr s hR B a w hs b (.inLoop c :: (k ++ k0)) cs
      cases e with
      | normal =>
        obtain ⟨hR1, hlt⟩ := hq
        obtain ⟨e2, a2, w2, s2, q2, hs2, harr2⟩ := ih _ (hn ▸ hlt) s1 a1 w1 rfl hR1 hs1
        exact ⟨e2, a2, w2, s2, q2, hs2, .of_steps (Steps.trans harr (.one step_inLoop)) harr2⟩
      | exit id =>
        simp only at hq
        split at hq
        · rename_i k' hk'
          obtain ⟨e2, a2, w2, s2, q2, hs2, harr2⟩ := hq B a1 w1 hs1 b k0 cs
          exact ⟨e2, a2, w2, s2, q2, hs2, .of_steps (harr (k' ++ k0) (by simp only [exitTo]; exact exitTo_append k0 hk')) harr2⟩
        · rename_i hk'
          exact ⟨.exit id, a1, w1, s1, hq, hs1, fun k2 hk2 => harr k2 (by simp only [exitTo]; rw [exitTo_none k0 hk']; exact hk2)⟩
      | ret => exact ⟨.ret, a1, w1, s1, hq, hs1, harr⟩
      | goto l => exact hq.elim
      | panic ch => exact hq.elim
      | outgrown => exact hq.elim
  obtain ⟨e, a', w', s', hq, hs', harr⟩ := key _ s a w rfl h0 hs
  exact ⟨e, a', w', s', hq, hs', .of_steps (.one step_loop) harr⟩

/-- Code by itself, then what follows. -/
theorem J_cut {c : Code} (R : St → Prop) (h : J P GT [.code c] s fun e s' => match e with
    | .normal => R s'
    | .exit id => match exitTo id k with
      | some k' => J P GT k' s' Q
      | none => Q (.exit id) s'
    | .ret => Q .ret s'
    | _ => False) (hk : ∀ s, R s → J P GT k s Q) : J P GT (.code c :: k) s Q := by
  intro B a w hs b k0 cs
  obtain ⟨e, a1, w1, s1, hq, hs1, harr⟩ := h B a w hs b (k ++ k0) cs
  cases e with
  | normal =>
    obtain ⟨e2, a2, w2, s2, q2, hs2, harr2⟩ := hk s1 hq B a1 w1 hs1 b k0 cs
    exact ⟨e2, a2, w2, s2, q2, hs2, .of_steps harr harr2⟩
  | exit id =>
    simp only at hq
    split at hq
    · rename_i k' hk'
      obtain ⟨e2, a2, w2, s2, q2, hs2, harr2⟩ := hq B a1 w1 hs1 b k0 cs
      exact ⟨e2, a2, w2, s2, q2, hs2, .of_steps (harr (k' ++ k0) (exitTo_append k0 hk')) harr2⟩
    · rename_i hk'
      exact ⟨.exit id, a1, w1, s1, hq, hs1, fun k2 hk2 => harr k2 (by rw [exitTo_none k0 hk']; exact hk2)⟩
  | ret => exact ⟨.ret, a1, w1, s1, hq, hs1, harr⟩
  | goto l => exact hq.elim
  | panic ch => exact hq.elim
  | outgrown => exact hq.elim

end
end Go.Proofs.YtmfgaefefgnhbaaGreatDoor.Abs
namespace Go.Proofs.YtmfgaefefgnhbaaGreatDoor.Abs
set_option linter.unusedSimpArgs false
set_option linter.unusedVariables false
open Go Go.RowKit

section
variable {P : Program} {ops : Array Oper} {Q : Exit → Act → World → Prop} {md : Region.Mode} {M : List Nat}

/-- M: the calls that take objects over. -/
def quietAt (M : List Nat) (ops : Array Oper) (i : Nat) : Bool :=
  match ops[i]? with
  | some o => Op.quiet o.op && !M.contains i
  | none => true

/-- Every order; each step of a quiet operation writes no block that was there. -/
def wpQ (P : Program) (M : List Nat) (md : Region.Mode) (ops : Array Oper) (Q : Exit → Act → World → Prop) : Nat → Array Bool → Act → World → Prop
  | 0, listed, a, w => Region.ready md ops listed = [] ∧ Q .normal a w
  | n + 1, listed, a, w => (Region.ready md ops listed = [] → Q .normal a w) ∧
    ∀ i ∈ Region.ready md ops listed, wpOp P ops Q i (fun a' w' => (quietAt M ops i = true → Agree w w') ∧ wpQ P M md ops Q n (listed.setIfInBounds i true) a' w') a w

theorem wpQ_any : ∀ (n : Nat) (listed : Array Bool) (a : Act) (w : World), wpQ P M md ops Q n listed a w → wpAny P md ops Q n listed a w
  | 0, _, _, _, h => h
  | n + 1, _, _, _, h => ⟨h.1, fun i hi => wpOp_mono (fun _ _ h' => wpQ_any n _ _ _ h'.2) (h.2 i hi)⟩

/-- What an operation gives, now and later. -/
def Gives (P : Program) (ops : Array Oper) (o : Oper) (v : Value) (a : Act) (w : World) : Prop :=
  (Region.wanted o (yielded ops a.tmps) = true ∧ ∀ w', (Op.reads o.op = true → Agree w w') → (execOp a.eval o).run P w' = .ok (.value v) w') ∨
  (Region.wanted o (yielded ops a.tmps) = false ∧ v = undef)

theorem Gives.later {o : Oper} {v : Value} {a : Act} {w w' : World} (h : Gives P ops o v a w) (hw : Op.reads o.op = true → Agree w w') : Gives P ops o v a w' :=
  h.imp (fun h => ⟨h.1, fun w'' hw'' => h.2 w'' fun hr => (hw hr).trans (hw'' hr)⟩) id

theorem Gives.of_same {o : Oper} {v : Value} {a a' : Act} {w : World} (hy : Gives P ops o v a w) (he : execOp a'.eval o = execOp a.eval o)
    (hw : Region.wanted o (yielded ops a'.tmps) = Region.wanted o (yielded ops a.tmps)) : Gives P ops o v a' w := by
  unfold Gives at *
  rw [he, hw]
  exact hy

theorem Gives.wpOp {i : Nat} {o : Oper} {v : Value} {a : Act} {w : World} (hi : ops[i]? = some o) (hy : Gives P ops o v a w)
    {K : Act → World → Prop} (h : K (a.put o.dst v) w) : wpOp P ops Q i K a w := by
  unfold Go.wpOp
  simp only [hi]
  rcases hy with ⟨hw, hv⟩ | ⟨hw, rfl⟩
  · simp only [hw, if_true, Oper.wp, hv w fun _ => .refl w, Oper.upon]; exact .inl h
  · simp only [hw, Bool.false_eq_true, if_false]; exact h

theorem wpOp_putQ {j : Nat} {oi oj : Oper} {v : Value} (hj : ops[j]? = some oj) (hap : oi.apart ops oj = true)
    (hsi : ∀ cs b, oi.op ≠ .select cs b) (hsj : ∀ cs b, oj.op ≠ .select cs b)
    (hQ : ∀ c a w, ¬ Q (.panic c) a w) {R : World → Prop} {K : Act → World → Prop} {a : Act} {w : World} (hR : ∀ w', R w' → Op.reads oi.op = true → Agree w w')
    (hy : Gives P ops oi v a w) (h : wpOp P ops Q j (fun a' w' => R w' ∧ K a' w') (a.put oi.dst v) w) :
    wpOp P ops Q j (fun a' w' => R w' ∧ Gives P ops oi v a' w' ∧ K (a'.put oi.dst v) w') a w := by
  obtain ⟨h1, h2, h3⟩ := Oper.apart_spec hap
  have keep : ∀ (a : Act) (w' : World), Gives P ops oi v a w → R w' → ∀ u, Gives P ops oi v (a.put oj.dst u) w' := fun a w' hy hr u =>
    (hy.later (hR w' hr)).of_same (execOp_put oi hsi a oj.dst u h3) (wanted_put oi a oj.dst u h3)
  have keepD : ∀ d, Gives P ops oi v { a with defers := d :: a.defers } w := fun d => hy.of_same rfl rfl
  unfold wpOp at *
  simp only [hj] at *
  rw [wanted_put oj a oi.dst v h1] at h
  split
  · rename_i hw
    simp only [hw, if_true] at h
    rcases h with h | ⟨hasks, hlets⟩
    case inr => exact .inr ⟨by unfold Oper.asks at *; rw [execOp_put oj hsj a oi.dst v h1] at hasks; exact hasks, hlets⟩
    refine .inl ?_
    unfold Oper.wp at *
    rw [execOp_put oj hsj a oi.dst v h1] at h
    generalize (execOp a.eval oj).run P w = r at *
    cases r with
    | ok n w' =>
      cases n <;> simp only [Oper.upon] at h ⊢
      case value u => exact ⟨h.1, keep a _ hy h.1 u, by rw [← Act.put_comm a v u h2]; exact h.2⟩
      case skip => exact ⟨h.1, keep a _ hy h.1 _, by rw [← Act.put_comm a v undef h2]; exact h.2⟩
      case defer d =>
        refine ⟨h.1, keep _ _ (keepD d) h.1 _, ?_⟩
        rw [← Act.put_comm _ v undef h2, ← Act.put_defers]
        exact h.2
      case enter f args =>
        refine Calls.mono h fun e w'' he => ?_
        cases e with
        | returned u => exact ⟨he.1, keep a _ hy he.1 u, by rw [← Act.put_comm a v u h2]; exact he.2⟩
        | panicked c => exact absurd he (hQ _ _ _)
        | outgrown => exact he
      case row row args => exact Rows.mono h fun u w'' he => ⟨he.1, keep a _ hy he.1 u, by rw [← Act.put_comm a v u h2]; exact he.2⟩
    | halt x w' =>
      cases x <;> simp only [Oper.upon] at h ⊢
      case panic u => exact absurd h (hQ _ _ _)
  · rename_i hw
    simp only [hw] at h
    exact ⟨h.1, keep a _ hy h.1 _, by rw [← Act.put_comm a v undef h2]; exact h.2⟩

theorem wpQ_first {i : Nat} {oi : Oper} {v : Value} (hi : ops[i]? = some oi) (hsel : ∀ (j : Nat) (o : Oper) cs b, ops[j]? = some o → o.op ≠ .select cs b)
    (hQ : ∀ c a w, ¬ Q (.panic c) a w) {D : List Nat} (hD : ∀ j, j ∈ D → ∃ oj, ops[j]? = some oj ∧ ∃ e ∈ oj.after, Region.binds md e = true ∧ (e.on = i ∨ e.on ∈ D)) :
    ∀ (fuel : Nat) (listed : Array Bool) (a : Act) (w : World), (∀ j, j ∈ D → listed.getD j false = false) →
      (∀ j oj, ops[j]? = some oj → j ≠ i → listed.getD j true = false → j ∉ D → oi.apart ops oj = true ∧ (Op.reads oi.op = true → quietAt M ops j = true)) →
      i ∈ Region.ready md ops listed → Gives P ops oi v a w →
      wpQ P M md ops Q fuel (listed.setIfInBounds i true) (a.put oi.dst v) w → wpQ P M md ops Q (fuel + 1) listed a w := by
  intro fuel
  induction fuel with
  | zero =>
    intro listed a w _ _ hr hy H
    refine ⟨fun h => (by rw [h] at hr; cases hr), fun j hj => ?_⟩
    by_cases hji : j = i
    · subst hji; exact hy.wpOp hi ⟨fun _ => .refl w, H⟩
    · have := ready_mono hj hji
      rw [H.1] at this
      cases this
  | succ fuel ih =>
    intro listed a w hun hfree hr hy H
    refine ⟨fun h => (by rw [h] at hr; cases hr), fun j hj => ?_⟩
    by_cases hji : j = i
    · subst hji; exact hy.wpOp hi ⟨fun _ => .refl w, H⟩
    · have h1 := H.2 j (ready_mono hj hji)
      obtain ⟨hjun, oj, hoj, hall⟩ := mem_ready.1 hj
      have hiu : listed.getD i false = false := by
        have h0 := (mem_ready.1 hr).1
        rcases Nat.lt_or_ge i listed.size with h' | h'
        · simp [h'] at h0 ⊢; exact h0
        · simp [Array.getElem?_eq_none h']
      have hnot : j ∉ D := fun hjD => by
        obtain ⟨oj', hoj', e, he, hb, hon⟩ := hD j hjD
        rw [hoj] at hoj'
        injection hoj' with hoj'
        subst hoj'
        have h1 := hall e he hb
        rcases hon with hon | hon
        · rw [hon, hiu] at h1; cases h1
        · rw [hun _ hon] at h1; cases h1
      obtain ⟨hap, hqj⟩ := hfree j oj hoj hji hjun hnot
      have h2 := wpOp_putQ hoj hap (fun cs b => hsel i oi cs b hi) (fun cs b => hsel j oj cs b hoj) hQ (R := fun w' => quietAt M ops j = true → Agree w w')
        (fun w' hw' hrd => hw' (hqj hrd)) hy h1
      have hfree' : ∀ k ok, ops[k]? = some ok → k ≠ i → (listed.setIfInBounds j true).getD k true = false →
          k ∉ D → oi.apart ops ok = true ∧ (Op.reads oi.op = true → quietAt M ops k = true) := fun k ok hk hki hu2 hno => by
        refine hfree k ok hk hki ?_ hno
        by_cases hjk : j = k
        · subst hjk; exact hjun
        · rw [getD_set_ne true hjk] at hu2; exact hu2
      refine wpOp_mono (fun a' w' h3 => ⟨h3.1, ih (listed.setIfInBounds j true) a' w' (fun k hk => by rw [getD_set_ne false (show j ≠ k from fun h => hnot (by rw [h]; exact hk))]; exact hun k hk) hfree' (ready_mono hr (Ne.symm hji)) h3.2.1 ?_⟩) h2
      rw [Array.setIfInBounds_comm _ _ hji]
      exact h3.2.2

/-- What waits for i. -/
def waits (md : Region.Mode) (ops : Array Oper) (listed : Array Bool) (i : Nat) : List Nat :=
  (List.range ops.size).foldl (fun D j => if listed.getD j false then D else match ops[j]? with
    | some oj => if oj.after.any fun e => Region.binds md e && (e.on == i || D.contains e.on) then j :: D else D
    | none => D) []

/-- Nothing that is still to come and may come before i stands in its way; D: what waits for i. -/
def freeD (M : List Nat) (md : Region.Mode) (ops : Array Oper) (listed : Array Bool) (i : Nat) (D : List Nat) : Bool :=
  match ops[i]? with
  | none => false
  | some oi => D.all (fun j => !listed.getD j false && match ops[j]? with
      | some oj => oj.after.any fun e => Region.binds md e && (e.on == i || D.contains e.on)
      | none => false) &&
    (List.range ops.size).all fun j => j == i || listed.getD j true || D.contains j || match ops[j]? with
      | some oj => oi.apart ops oj && (!Op.reads oi.op || quietAt M ops j)
      | none => true

def freeQ (M : List Nat) (md : Region.Mode) (ops : Array Oper) (listed : Array Bool) (i : Nat) : Bool := freeD M md ops listed i (waits md ops listed i)

theorem freeD_spec {i : Nat} {oi : Oper} {listed : Array Bool} {D : List Nat} (hi : ops[i]? = some oi) (h : freeD M md ops listed i D = true) :
    (∀ j, j ∈ D → ∃ oj, ops[j]? = some oj ∧ ∃ e ∈ oj.after, Region.binds md e = true ∧ (e.on = i ∨ e.on ∈ D)) ∧ (∀ j, j ∈ D → listed.getD j false = false) ∧
    (∀ j oj, ops[j]? = some oj → j ≠ i → listed.getD j true = false → j ∉ D → oi.apart ops oj = true ∧ (Op.reads oi.op = true → quietAt M ops j = true)) := by
  simp only [freeD, hi, Bool.and_eq_true] at h
  obtain ⟨hD, h⟩ := h
  rw [List.all_eq_true] at hD
  refine ⟨fun j hj => ?_, fun j hj => ?_, fun j oj hj hne hun hno => ?_⟩
  · have h1 := hD j hj
    simp only [Bool.and_eq_true] at h1
    obtain ⟨_, h1⟩ := h1
    cases ho : ops[j]? with
    | none => rw [ho] at h1; cases h1
    | some oj =>
      rw [ho] at h1
      obtain ⟨e, he, hb⟩ := Array.any_eq_true'.1 h1
      simp only [Bool.and_eq_true, Bool.or_eq_true, beq_iff_eq, List.contains_eq_mem, decide_eq_true_eq] at hb
      exact ⟨oj, rfl, e, he, hb⟩
  · have h1 := hD j hj
    simp only [Bool.and_eq_true, Bool.not_eq_true'] at h1
    exact h1.1
  · rw [List.all_eq_true] at h
    have h1 := h j (List.mem_range.2 (Array.getElem?_eq_some_iff.1 hj).1)
    have hc : D.contains j = false := by simpa using hno
    simp only [hj, Bool.or_eq_true, beq_iff_eq, hne, false_or, hun, hc, Bool.false_eq_true, Bool.and_eq_true, Bool.not_eq_true'] at h1
    exact ⟨h1.1, fun hr => h1.2.resolve_left (by rw [hr]; simp)⟩

end

/-- An order of the steps: which is taken first, or which may come next. -/
inductive Plan where
  | done
  | take (i : Nat) (p : Plan)
  | fork (i : Nat) (p rest : Plan)
  | none
  deriving Repr

/-- Operations that leave the world alone, and are no call. -/
def Op.takes : Op → Bool
  | .call { callee := .value _, .. } => false
  | .select .. => false
  | op => Op.isPure op

def Plan.heads : Plan → List Nat
  | .fork i _ r => i :: r.heads
  | _ => []

def takesAt (ops : Array Oper) (i : Nat) : Bool :=
  match ops[i]? with
  | some o => Op.takes o.op
  | none => false

/-- The plan is sound. -/
def Plan.ok (M : List Nat) (ops : Array Oper) : Bool → Nat → Array Bool → Plan → Bool
  | top, _, listed, .done => top && (Region.ready .any ops listed).isEmpty
  | top, m + 1, listed, .take i p => top && (Region.ready .any ops listed).contains i && freeQ M .any ops listed i && takesAt ops i && Plan.ok M ops true m (listed.setIfInBounds i true) p
  | top, m + 1, listed, .fork i p r => (!top || (!(Region.ready .any ops listed).isEmpty && (Region.ready .any ops listed).all fun x => (Plan.heads (.fork i p r)).contains x)) && (ops[i]?).isSome && Plan.ok M ops true m (listed.setIfInBounds i true) p && Plan.ok M ops false (m + 1) listed r
  | top, _, _, .none => !top
  | _, 0, _, _ => false

/-- A plan for a region. -/
def planOf (M : List Nat) (ops : Array Oper) : Nat → Array Bool → Plan
  | 0, _ => .done
  | m + 1, listed =>
    let rs := Region.ready .any ops listed
    match rs.find? fun i => freeQ M .any ops listed i && takesAt ops i with
    | some i => .take i (planOf M ops m (listed.setIfInBounds i true))
    | Option.none => if rs.isEmpty then .done else rs.foldr (fun i r => .fork i (planOf M ops m (listed.setIfInBounds i true)) r) .none

section
variable {P : Program} {GT : Ctx} {s : St} {k : List Item} {Q : Exit → St → Prop} {ops : Array Oper} {M : List Nat}

/-- What is to hold behind the region. -/
def after (P : Program) (GT : Ctx) (B : Base) (k : List Item) (Q : Exit → St → Prop) : Exit → Act → World → Prop := fun e a' w' =>
  e = .normal ∧ ∀ (b : Frame) (k0 : List Item) (cs : List Frame), ∃ e a2 w2 s', Q e s' ∧ StC GT B s' a2 w2 ∧ Arrives P (lone (b.at a' (k ++ k0)) cs w') b k0 cs e a2 w2

def DO (P : Program) (GT : Ctx) (M : List Nat) (ops : Array Oper) (m : Nat) (listed : Array Bool) (k : List Item) (s : St) (Q : Exit → St → Prop) : Prop :=
  ∀ (B : Base) (a : Act) (w : World), StC GT B s a w → wpQ P M .any ops (after P GT B k Q) m listed a w

/-- One step. -/
def DS (P : Program) (GT : Ctx) (M : List Nat) (ops : Array Oper) (m : Nat) (listed : Array Bool) (k : List Item) (s : St) (Q : Exit → St → Prop) (i : Nat) : Prop :=
  ∀ (B : Base) (a : Act) (w : World), StC GT B s a w → wpOp P ops (after P GT B k Q) i (fun a' w' => (quietAt M ops i = true → Agree w w') ∧ wpQ P M .any ops (after P GT B k Q) m (listed.setIfInBounds i true) a' w') a w

theorem Sim.drew {w0 : World} {G : Nat → Prop} {p : Place} {I : Nat → Prop} {a : Act} {w : World} (h : Sim GT w0 G p I s a w) : Sim GT w0 G p I s a { w with drawn := w.drawn + 1 } :=
  ⟨h.size, fun i v x e e' => (h.slot i v x e e').mono (fun _ _ => rfl) (fun _ h => h) fun _ _ h => h, h.defers, fun i => (h.obj i).mono (fun _ _ => rfl) (fun _ h => h) fun _ _ _ => rfl, h.inj, h.own, h.imm,
    ⟨h.frame.os, h.frame.tape, h.frame.output, h.frame.size, h.frame.block⟩, fun g cs hg => (h.glob g cs hg).mono (fun _ _ => rfl) (fun _ h => h) fun _ _ h => h, h.given⟩

theorem J_drawn {id : Nat} (hm : P.follows .mixedOrders = true) (h : DO P GT M ops ops.size (Array.replicate ops.size false) k s Q) : J P GT (.code (.region id ops true) :: k) s Q := by
  intro B a w hs b k0 cs
  have hs' : StC GT B s a { w with drawn := w.drawn + 1 } := by
    obtain ⟨p, I, hsim, h1, h2⟩ := hs
    exact ⟨p, I, hsim.drew, h1, h2⟩
  have hwp : (Code.region id ops true).wp P (after P GT B k Q) a w := wp_region_any hm (wpQ_any _ _ _ _ (h B a _ hs'))
  obtain ⟨e, a', w', ⟨rfl, hq⟩, harr⟩ := hwp b (k ++ k0) cs
  obtain ⟨e, a2, w2, s', h1, h2, h3⟩ := hq b k0 cs
  exact ⟨e, a2, w2, s', h1, h2, .of_steps harr h3⟩

theorem DO_done {m : Nat} {listed : Array Bool} (hr : Region.ready .any ops listed = []) (h : J P GT k s Q) : DO P GT M ops m listed k s Q := by
  intro B a w hs
  have hq : after P GT B k Q .normal a w := ⟨rfl, fun b k0 cs => h B a w hs b k0 cs⟩
  cases m with
  | zero => exact ⟨hr, hq⟩
  | succ m => exact ⟨fun _ => hq, by rw [hr]; simp⟩

theorem DO_fork {m : Nat} {listed : Array Bool} (hne : Region.ready .any ops listed ≠ []) (h : ∀ i, i ∈ Region.ready .any ops listed → DS P GT M ops m listed k s Q i) : DO P GT M ops (m + 1) listed k s Q :=
  fun B a w hs => ⟨fun h0 => absurd h0 hne, fun i hi => h i hi B a w hs⟩

/-- Whether a slice is nil: of an empty one it is not known. The first part: what is so if it is; the second: whether the operation asks for the contrary. -/
def nilCmp (op : BinOp) : Option TD → AV → AV → Option (Prop × Bool)
  | some d, .lst _ xs, .raw (.slice none 0 0) => match d.kind with
    | .slice _ => match op with
      | .eql => some (xs = [], false)
      | .neq => some (xs = [], true)
      | _ => none
    | _ => none
  | some d, .own _ _ _ n, .raw (.slice none 0 0) => match d.kind with
    | .slice _ => match op with
      | .eql => some (n = 0, false)
      | .neq => some (n = 0, true)
      | _ => none
    | _ => none
  | _, _, _ => none
def nilOf (P : Program) (GT : Ctx) (s : St) : Op → Option (Prop × Bool)
  | .binOp op T x y _ => nilCmp op (td P T) (ev GT s x) (ev GT s y)
  | _ => none

theorem run_nilCmp {op : BinOp} {T : TypeId} {e : TypeId} {A : Option Addr} {n c : Nat} {ox oy : Operand} {neg : Bool} (hu : P.underlying T = some (.slice e)) (h : (op = .eql ∧ neg = false) ∨ (op = .neq ∧ neg = true)) (w : World) :
    (do eqGuard op T ox oy (.slice A n c) (.slice none 0 0); binOp op T (.slice A n c) (.slice none 0 0) : Sem Value).run P w = .ok (.bool (A.isNone ^^ neg)) w := by
  have he := fun w => run_equal_slice_nil (P := P) w T e A n c hu
  rcases h with ⟨rfl, rfl⟩ | ⟨rfl, rfl⟩ <;> simp [eqGuard, binOp, he]

theorem nilOf_run {o : Oper} {c : Prop} {neg : Bool} (h : nilOf P GT s o.op = some (c, neg)) {w0 : World} {G : Nat → Prop} {p : Place} {I : Nat → Prop} {a : Act} {w : World} (hs : Sim GT w0 G p I s a w) :
    ∃ b : Bool, (b = true → c) ∧ ∀ w', (execOp a.eval o).run P w' = .ok (.value (.bool (b ^^ neg))) w' := by
  unfold nilOf at h
  split at h
  · rename_i op T x y T' ho
    have hexec : execOp a.eval o = (do let v ← (do eqGuard op T x y (a.eval x) (a.eval y); binOp op T (a.eval x) (a.eval y) : Sem Value); pure (.value v)) := by
      simp [execOp, ho]
    have hcx := hs.ev x
    have hcy := hs.ev y
    have main : ∀ (A : Option Addr) (n k : Nat) (d : TD), td P T = some d → (∃ e, d.kind = .slice e) → (op = .eql ∧ neg = false) ∨ (op = .neq ∧ neg = true) → a.eval x = .slice A n k → a.eval y = .slice none 0 0 → (A = none → c) →
        ∃ b : Bool, (b = true → c) ∧ ∀ w', (execOp a.eval o).run P w' = .ok (.value (.bool (b ^^ neg))) w' := by
      intro A n k d hd ⟨e, hk⟩ hop hvx hvy hc
      refine ⟨A.isNone, fun hn => hc (by simpa using hn), fun w' => ?_⟩
      rw [hexec, Sem.run_bind, hvx, hvy, run_nilCmp (td_slice hd hk) hop]
      rfl
    unfold nilCmp at h
    split at h
    · rename_i d k xs hd hx hy
      rw [hx] at hcx
      rw [hy] at hcy
      have hvy := hcy.raw_eq
      generalize hvx : a.eval x = vx at hcx
      split at h
      · rename_i e hk
        cases hcx with
        | @lst _ _ _ A cc m f hn hc hm hkl hxx h1 hcc =>
          have hA : A = none → xs = [] := fun hA => by
            rcases hxx with hxx | ⟨b, off, hA', _⟩
            · exact hxx
            · rw [hA] at hA'; cases hA'
          split at h
          · simp only [Option.some.injEq, Prod.mk.injEq] at h
            obtain ⟨rfl, rfl⟩ := h
            exact main A _ _ d hd ⟨e, hk⟩ (.inl ⟨rfl, rfl⟩) hvx hvy hA
          · simp only [Option.some.injEq, Prod.mk.injEq] at h
            obtain ⟨rfl, rfl⟩ := h
            exact main A _ _ d hd ⟨e, hk⟩ (.inr ⟨rfl, rfl⟩) hvx hvy hA
          · cases h
      · cases h
    · rename_i d id k lo n hd hx hy
      rw [hx] at hcx
      rw [hy] at hcy
      have hvy := hcy.raw_eq
      generalize hvx : a.eval x = vx at hcx
      split at h
      · rename_i e hk
        cases hcx with
        | @own _ _ _ _ _ A cc r hn hm hr hcc =>
          have hA : A = none → n = 0 := fun hA => by
            rcases hcc with ⟨_, hcc⟩ | ⟨_, hA' | hA', _⟩
            · omega
            · omega
            · rw [hA] at hA'; cases hA'
          split at h
          · simp only [Option.some.injEq, Prod.mk.injEq] at h
            obtain ⟨rfl, rfl⟩ := h
            exact main A _ _ d hd ⟨e, hk⟩ (.inl ⟨rfl, rfl⟩) hvx hvy hA
          · simp only [Option.some.injEq, Prod.mk.injEq] at h
            obtain ⟨rfl, rfl⟩ := h
            exact main A _ _ d hd ⟨e, hk⟩ (.inr ⟨rfl, rfl⟩) hvx hvy hA
          · cases h
      · cases h
    · cases h
  · cases h

/-- What has to be handed over for good before an operation: what becomes an element of an array. -/
def needFrz (GT : Ctx) (s : St) : Op → List Nat
  | .buildSlice _ _ parts => (parts.toList.map fun x => s.reach 3 (ev GT s x.2).names).flatten
  | .store _ x v => match ev GT s x with
    | .eref .. => s.reach 3 (ev GT s v).names
    | _ => []
  | _ => []

/-- One operation, its guard let by. -/
def Exec (P : Program) (GT : Ctx) (m : Bool) (s : St) (o : Oper) (K : St → Prop) : Prop :=
  match callOf GT s o.op with
  | some (f, args) => CallA P GT m s f args o.dst K
  | none => match nilOf P GT s o.op with
    | some (c, neg) => ∀ b : Bool, (b = true → c) → K (s.put o.dst (.raw (.bool (b ^^ neg))))
    | none => match evalOp P GT (s.frz (needFrz GT s o.op)) o.op with
      | some r => r.need ∧ K (r.st.put o.dst r.val)
      | none => False

/-- An operation at the place where its turn is. -/
def StepAt (P : Program) (GT : Ctx) (ops : Array Oper) (m : Bool) (s : St) (K : St → Prop) : Option Oper → Prop
  | some o => match o.guard with
    | none => Exec P GT m s o K
    | some (j, want) => match guardSlot ops j with
      | some t => match s.slots.getD t .top with
        | .raw (.bool b) => (b = want → Exec P GT m (s.know (.tmp t) want) o K) ∧ (b = (!want) → K ((s.know (.tmp t) (!want)).put o.dst (.raw undef)))
        | .raw (.tuple _) => K (s.put o.dst (.raw undef))
        | _ => False
      | none => False
  | none => False

/-- What a step comes to. -/
theorem Exec_wp {m : Bool} {o : Oper} {K : St → Prop} (h : Exec P GT m s o K) {B : Base} {a : Act} {w : World} (hs : StC GT B s a w) {next : Act → World → Prop} {Q : Exit → Act → World → Prop}
    (hnext : ∀ s' a' w', K s' → (Op.quiet o.op = true → m = false → Agree w w') → StC GT B s' a' w' → next a' w') : o.wp P a w next Q := by
  unfold Exec at h
  split at h
  · rename_i f args hc
    exact hs.call hc h fun s' a' w' hk ha hs' => hnext s' a' w' hk (fun _ hm => ha hm) hs'
  split at h
  · rename_i c neg hc
    obtain ⟨p, I, hsim, h1, h2, h3⟩ := hs
    obtain ⟨b, hb, hrun⟩ := nilOf_run hc hsim
    unfold Oper.wp
    rw [hrun w, Oper.upon_value]
    exact hnext _ _ _ (h b hb) (fun _ _ => .refl w) ⟨p, I, hsim.put o.dst .raw, h1, h2, h3⟩
  · split at h
    · rename_i r hr
      obtain ⟨p, I, hsim, h1, h2, h3⟩ := hs.frz (needFrz GT s o.op)
      obtain ⟨p', x, w', hy, hs', hv, ha, hg⟩ := evalOp_ok hr h.1 B.w0 B.G p I a w hsim
      have hst : StC GT B (r.st.put o.dst r.val) (a.put o.dst x) w' := ⟨p', I, hs'.put o.dst hv, h1, h2, fun i hi => (hg i hi).elim (fun h => by rw [h]; exact h3 i hi) .inr⟩
      unfold Oper.wp
      rcases hy with hy | ⟨hy, rfl⟩
      · rw [hy, Oper.upon_value]
        exact hnext _ _ _ h.2 (fun hq _ => ha hq) hst
      · rw [hy, Oper.upon_skip]
        exact hnext _ _ _ h.2 (fun hq _ => ha hq) hst
    · exact h.elim

theorem slot_get {t : Nat} {b : Bool} (hb : s.slots.getD t .top = .raw (.bool b)) : s.slots[t]? = some (.raw (.bool b)) ∧ (s.know (.tmp t) b).slots[t]? = some (.raw (.bool b)) ∧ ev GT s (.tmp t) = .raw (.bool b) := by
  have hlt : t < s.slots.length := by
    rcases Nat.lt_or_ge t s.slots.length with h | h
    · exact h
    · rw [List.getD_eq_getElem?_getD, List.getElem?_eq_none h] at hb; cases hb
  refine ⟨?_, by simp [St.know, hlt], hb⟩
  rw [List.getD_eq_getElem?_getD, List.getElem?_eq_getElem hlt] at hb
  rw [List.getElem?_eq_getElem hlt]
  exact congrArg some hb

theorem DS_of {m : Nat} {listed : Array Bool} {i : Nat} {K : St → Prop} (h : StepAt P GT ops (M.contains i) s K ops[i]?) (hk : ∀ s', K s' → DO P GT M ops m (listed.setIfInBounds i true) k s' Q) : DS P GT M ops m listed k s Q i := by
  intro B a w hs
  cases ho : ops[i]? with
  | none => rw [ho] at h; exact h.elim
  | some o =>
    rw [ho] at h
    have hqa : quietAt M ops i = true → Op.quiet o.op = true ∧ M.contains i = false := by simp only [quietAt, ho, Bool.and_eq_true, Bool.not_eq_true']; exact id
    simp only [StepAt] at h
    unfold wpOp
    simp only [ho]
    split at h
    · rename_i hg
      rw [if_pos (by simp [Region.wanted, hg])]
      exact .inl (Exec_wp h hs fun s' a' w' hK ha hs' => ⟨fun hq => ha (hqa hq).1 (hqa hq).2, hk s' hK B a' w' hs'⟩)
    · rename_i j want hg
      split at h
      · rename_i t hj
        split at h
        · rename_i b hb
          obtain ⟨hb1, hb2, hb3⟩ := slot_get (GT := GT) hb
          have hs2 := hs.know hb3
          have hy := yielded_of hs2 hj hb2
          by_cases hbw : b = want
          · subst hbw
            rw [if_pos (by simp [Region.wanted, hg, hy])]
            exact .inl (Exec_wp (h.1 rfl) hs2 fun s' a' w' hK ha hs' => ⟨fun hq => ha (hqa hq).1 (hqa hq).2, hk s' hK B a' w' hs'⟩)
          · have hbn : b = !want := by cases b <;> cases want <;> simp_all
            rw [if_neg (by simp only [Region.wanted, hg, hy]; subst hbn; cases want <;> simp)]
            have := h.2 hbn
            rw [← hbn] at this
            exact ⟨fun _ => .refl w, hk _ this B _ _ (hs2.put o.dst)⟩
        · rename_i vs hb
          have hy := yielded_undef hs hj hb
          rw [if_neg (by simp [Region.wanted, hg, hy])]
          exact ⟨fun _ => .refl w, hk _ h B _ _ (hs.put o.dst)⟩
        · exact h.elim
      · exact h.elim

theorem takes_call {o : Oper} (h : Op.takes o.op = true) : callOf GT s o.op = none := by
  unfold callOf
  split
  · rename_i fo argso ty ho
    rw [ho] at h
    cases h
  · rfl

theorem takes_frz {op : Op} (h : Op.takes op = true) : needFrz GT s op = [] := by
  unfold needFrz
  split
  · cases h
  · cases h
  · rfl

theorem takes_pure {op : Op} (h : Op.takes op = true) : Op.isPure op = true := by
  unfold Op.takes at h
  split at h
  · cases h
  · cases h
  · exact h

theorem DO_take {m : Nat} {listed : Array Bool} {i : Nat} {K : St → Prop} (hs : Region.noSelect ops = true) (hf : freeQ M .any ops listed i = true) (hr : (Region.ready .any ops listed).contains i = true) (ht : takesAt ops i = true)
    (h : StepAt P GT ops (M.contains i) s K ops[i]?) (hk : ∀ s', K s' → DO P GT M ops m (listed.setIfInBounds i true) k s' Q) : DO P GT M ops (m + 1) listed k s Q := by
  intro B a w hst
  cases ho : ops[i]? with
  | none => rw [ho] at h; exact h.elim
  | some o =>
    rw [ho] at h
    have htk : Op.takes o.op = true := by simpa [takesAt, ho] using ht
    -- the step: a value that holds on
    have pure : ∀ (s : St), Exec P GT (M.contains i) s o K → StC GT B s a w → Region.wanted o (yielded ops a.tmps) = true → wpQ P M .any ops (after P GT B k Q) (m + 1) listed a w := by
      intro s hE hst hwant
      unfold Exec at hE
      rw [takes_call htk] at hE
      simp only at hE
      split at hE
      · rename_i c neg hc
        obtain ⟨p, I, hsim, h1, h2, h3⟩ := hst
        obtain ⟨b, hb, hrun⟩ := nilOf_run hc hsim
        refine wpQ_first ho (Region.noSelect_spec hs) (fun _ _ _ hp => by cases hp.1) (freeD_spec ho hf).1 m listed a w (freeD_spec ho hf).2.1 (freeD_spec ho hf).2.2 (by simpa using hr) (.inl ⟨hwant, fun w' _ => hrun w'⟩) ?_
        exact hk _ (hE b hb) B _ _ ⟨p, I, hsim.put o.dst .raw, h1, h2, h3⟩
      split at hE
      · rename_i r hres
        rw [takes_frz htk, St.frz_nil] at hres
        obtain ⟨hst', hpure⟩ := evalOp_pure hres (takes_pure htk)
        obtain ⟨p, I, hsim, h1, h2, h3⟩ := hst
        obtain ⟨x, hx1, hx2⟩ := hpure hE.1 B.w0 B.G p I a w hsim
        refine wpQ_first ho (Region.noSelect_spec hs) (fun _ _ _ hp => by cases hp.1) (freeD_spec ho hf).1 m listed a w (freeD_spec ho hf).2.1 (freeD_spec ho hf).2.2 (by simpa using hr) (.inl ⟨hwant, hx1⟩) ?_
        refine hk _ hE.2 B _ _ ⟨p, I, Sim.put ?_ o.dst hx2, h1, h2, h3⟩
        rw [hst']
        exact hsim
      · exact hE.elim
    simp only [StepAt] at h
    split at h
    · rename_i hg
      exact pure s h hst (by simp [Region.wanted, hg])
    · rename_i j want hg
      split at h
      · rename_i t hj
        split at h
        · rename_i b hb
          obtain ⟨hb1, hb2, hb3⟩ := slot_get (GT := GT) hb
          have hs2 := hst.know hb3
          have hy := yielded_of hs2 hj hb2
          by_cases hbw : b = want
          · subst hbw
            exact pure _ (h.1 rfl) hs2 (by simp [Region.wanted, hg, hy])
          · have hbn : b = !want := by cases b <;> cases want <;> simp_all
            have := h.2 hbn
            rw [← hbn] at this
            refine wpQ_first ho (Region.noSelect_spec hs) (fun _ _ _ hp => by cases hp.1) (freeD_spec ho hf).1 m listed a w (freeD_spec ho hf).2.1 (freeD_spec ho hf).2.2 (by simpa using hr) (.inr ⟨by simp only [Region.wanted, hg, hy]; subst hbn; cases want <;> simp, rfl⟩) ?_
            exact hk _ this B _ _ (hs2.put o.dst)
        · rename_i vs hb
          have hy := yielded_undef hst hj hb
          refine wpQ_first ho (Region.noSelect_spec hs) (fun _ _ _ hp => by cases hp.1) (freeD_spec ho hf).1 m listed a w (freeD_spec ho hf).2.1 (freeD_spec ho hf).2.2 (by simpa using hr) (.inr ⟨by simp [Region.wanted, hg, hy], rfl⟩) ?_
          exact hk _ h B _ _ (hst.put o.dst)
        · exact h.elim
      · exact h.elim

end
end Go.Proofs.YtmfgaefefgnhbaaGreatDoor.Abs
