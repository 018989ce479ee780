/- Maps that the call has made: asked and written. -/
import Derived.Test.YtangkndckghblaaDoorAbsF
import Derived.MapKept
namespace Go.Proofs.YtangkndckghblaaDoor.Abs
set_option linter.unusedSimpArgs false
set_option linter.unusedVariables false
open Go Go.RowKit Go.MapKept

/-- The kind of keys of a type. -/
def keyKind (P : Program) (kt : TypeId) : Option MKind := match td P kt with
  | some d => match d.kind with
    | .str => some .str
    | .int k => some (.int k)
    | _ => none
  | none => none
def keyOf : MKind → AV → Option MKey
  | .str, .raw (.string b) => some (.str b)
  | .int k, .raw (.int k' n) => if k' = k then some (.int k n) else none
  | _, _ => none
/-- Where a key stands, and what stands there. -/
def midx : List (MKey × AV) → MKey → Option Nat
  | [], _ => none
  | x :: m, key => if x.1 = key then some 0 else (midx m key).map (· + 1)
def mfind : List (MKey × AV) → MKey → Option AV
  | [], _ => none
  | x :: m, key => if x.1 = key then some x.2 else mfind m key
/-- A key is given a value. -/
def mput (m : List (MKey × AV)) (key : MKey) (a : AV) : List (MKey × AV) := match midx m key with
  | some j => m.set j (key, a)
  | none => m ++ [(key, a)]
/-- A key is there. -/
def mtouch (m : List (MKey × AV)) (key : MKey) (a : AV) : List (MKey × AV) := match midx m key with
  | some _ => m
  | none => m ++ [(key, a)]
def mstamp (m : List (MKey × AV)) (key : MKey) : Int := match midx m key with
  | some j => j
  | none => m.length
def mset (m : List (MKey × AV)) (j : Nat) (a : AV) : List (MKey × AV) := m.modify j fun x => (x.1, a)

theorem MKey.val_inj {a b : MKey} (h : a.val = b.val) : a = b := by
  cases a <;> cases b <;> simp only [MKey.val, Value.string.injEq, Value.int.injEq, Value.agg.injEq, reduceCtorEq] at h
  · rw [h]
  · rw [h.1, h.2]
  · rename_i l l'
    have h : l.map (fun x => Value.int x.1 x.2) = l'.map fun x => Value.int x.1 x.2 := by simpa using h
    have : l = l' := by
      rename_i h0
      clear h0
      induction l generalizing l' with
      | nil => cases l' with
        | nil => rfl
        | cons y l' => cases h
      | cons x l ih => cases l' with
        | nil => cases h
        | cons y l' =>
          simp only [List.map_cons, List.cons.injEq, Value.int.injEq] at h
          obtain ⟨⟨h1, h2⟩, h3⟩ := h
          rw [ih l' h3, Prod.ext h1 h2]
    rw [this]
theorem midx_some : ∀ {m : List (MKey × AV)} {key : MKey} {j : Nat}, midx m key = some j → ∃ a, m[j]? = some (key, a) ∧ mfind m key = some a
  | [], _, _, h => by cases h
  | x :: m, key, j, h => by
    simp only [midx] at h
    split at h
    · rename_i hx
      injection h with h
      subst h
      exact ⟨x.2, by simp [← hx], by simp [mfind, hx]⟩
    · rename_i hx
      obtain ⟨i, hi, rfl⟩ := Option.map_eq_some_iff.1 h
      obtain ⟨a, h1, h2⟩ := midx_some hi
      exact ⟨a, by simpa using h1, by simp [mfind, hx, h2]⟩
theorem midx_none : ∀ {m : List (MKey × AV)} {key : MKey}, midx m key = none → (∀ x, x ∈ m → x.1 ≠ key) ∧ mfind m key = none
  | [], _, _ => ⟨by simp, rfl⟩
  | x :: m, key, h => by
    simp only [midx] at h
    split at h
    · cases h
    · rename_i hx
      have h' : midx m key = none := by simpa using h
      obtain ⟨h1, h2⟩ := midx_none h'
      refine ⟨fun y hy => ?_, by simp [mfind, hx, h2]⟩
      rcases List.mem_cons.1 hy with rfl | hy
      · exact hx
      · exact h1 y hy
theorem keys_nodup {m : List (MKey × AV)} (h : (m.map (·.1)).Nodup) {i j : Nat} {key : MKey} {a b : AV} (hi : m[i]? = some (key, a)) (hj : m[j]? = some (key, b)) : i = j := by
  have h1 : (m.map (·.1))[i]? = some key := by simp [List.getElem?_map, hi]
  have h2 : (m.map (·.1))[j]? = some key := by simp [List.getElem?_map, hj]
  have hl1 := (List.getElem?_eq_some_iff.1 h1).1
  have hl2 := (List.getElem?_eq_some_iff.1 h2).1
  rw [List.getElem?_eq_getElem hl1] at h1
  rw [List.getElem?_eq_getElem hl2] at h2
  exact (List.getElem_inj h).1 ((Option.some.inj h1).trans (Option.some.inj h2).symm)

section
variable {P : Program} {GT : Ctx} {o : Oper} {s : St}

/-- What a kind of keys is. -/
def MKind.desc : MKind → TypeDesc
  | .str => .string
  | .int k => .int k
  | .ints _ => .bool
theorem keyKind_desc {kt : TypeId} {kd : MKind} (h : keyKind P kt = some kd) : P.underlying kt = some kd.desc ∧ ∀ key : MKey, key.kind = kd → IsKey kd.desc key.val := by
  unfold keyKind at h
  split at h
  · rename_i d hd
    split at h
    · rename_i hk
      injection h with h; subst h
      refine ⟨td_str hd hk, fun key hkey => ?_⟩
      cases key <;> first | trivial | (simp [MKey.kind] at hkey)
    · rename_i k hk
      injection h with h; subst h
      refine ⟨td_int hd hk, fun key hkey => ?_⟩
      cases key <;> simp [MKey.kind] at hkey
      exact hkey
    · cases h
  · cases h
theorem keyOf_conc {kd : MKind} {x : AV} {key : MKey} (h : keyOf kd x = some key) : key.kind = kd ∧ x = .raw key.val := by
  unfold keyOf at h
  split at h
  · injection h with h; subst h; exact ⟨rfl, rfl⟩
  · rename_i k k' n
    split at h
    · rename_i hk
      injection h with h; subst h; subst hk
      exact ⟨rfl, rfl⟩
    · cases h
  · cases h
theorem conc_raw {I : Nat → Prop} {w : World} {p : Place} {v u : Value} (h : Conc I w p v (.raw u)) : v = u := by cases h; rfl

/-- What the machine finds. -/
theorem find_run {I : Nat → Prop} {w : World} {es : Array MapEntry} {kd : MKind} {m : List (MKey × AV)} {key : MKey} (hl : m.length = es.size) (hk : ∀ x, x ∈ m → x.1.kind = kd) (hn : (m.map (·.1)).Nodup)
    (hv : ∀ (i : Nat) (e : MapEntry) (key : MKey) (a : AV), es[i]? = some e → m[i]? = some (key, a) → e.key = key.val ∧ e.born = i ∧ Conc I w noPlace e.val a)
    (hd : ∀ key : MKey, key.kind = kd → IsKey kd.desc key.val) (hkey : key.kind = kd) :
    (Instr.findNow kd.desc key.val es.toList 0 = some none ∧ midx m key = none) ∨ ∃ j e, Instr.findNow kd.desc key.val es.toList 0 = some (some (j, e.val)) ∧ es[j]? = some e ∧ e.key = key.val ∧ midx m key = some j := by
  have hks : ∀ x ∈ es.toList, IsKey kd.desc x.key := by
    intro x hx
    obtain ⟨i, hi⟩ := List.getElem?_of_mem hx
    rw [Array.getElem?_toList] at hi
    have hlt := (Array.getElem?_eq_some_iff.1 hi).1
    obtain ⟨h1, _⟩ := hv i x m[i].1 m[i].2 hi (List.getElem?_eq_getElem (by omega))
    rw [h1]
    exact hd _ (hk _ (List.getElem_mem _))
  rcases findNow_spec (hd key hkey) es.toList 0 hks with ⟨h1, h2⟩ | ⟨j, e, h1, h2, h3⟩
  · refine .inl ⟨h1, ?_⟩
    cases hm : midx m key with
    | none => rfl
    | some j =>
      obtain ⟨a, h3, _⟩ := midx_some hm
      have hlt := (List.getElem?_eq_some_iff.1 h3).1
      have hj : es[j]? = some es[j] := Array.getElem?_eq_getElem (by omega)
      obtain ⟨h4, _⟩ := hv j _ key a hj h3
      exact absurd h4 (h2 _ (Array.mem_toList_iff.2 (Array.mem_of_getElem? hj)))
  · have hj : es[j]? = some e := by simpa using h2
    have hlt := (Array.getElem?_eq_some_iff.1 hj).1
    have hmj : m[j]? = some (m[j].1, m[j].2) := List.getElem?_eq_getElem (by omega)
    obtain ⟨h4, _⟩ := hv j e _ _ hj hmj
    have hk' : m[j].1 = key := MKey.val_inj (h4.symm.trans h3)
    refine .inr ⟨j, e, by simpa using h1, hj, h3, ?_⟩
    cases hm : midx m key with
    | none => exact absurd hk' ((midx_none hm).1 _ (List.getElem_mem _))
    | some i =>
      obtain ⟨a, h5, _⟩ := midx_some hm
      rw [hk'] at hmj
      rw [keys_nodup hn h5 hmj]

/-- The zero of a type, as a value. -/
def zeroRaw (P : Program) (t : TypeId) : Option Value := (P.info? t).bind (·.zero)
theorem run_zeroRaw {t : TypeId} {z : Value} (h : zeroRaw P t = some z) (w : World) : (zeroValue t).run P w = .ok z w := by
  simp only [zeroRaw, Option.bind_eq_some_iff] at h
  obtain ⟨i, h1, h2⟩ := h
  simp [zeroValue, typeInfo, h1, h2]
def avOf : Value → Option AV
  | .agg cs => if cs.toList.all Value.oneCell' then some (.agg (cs.toList.map .raw)) else none
  | v => some (.raw v)
theorem avOf_conc {v : Value} {x : AV} (h : avOf v = some x) (I : Nat → Prop) (w : World) (p : Place) : Conc I w p v x ∧ x.imm = true := by
  unfold avOf at h
  split at h
  · rename_i cs
    split at h
    · rename_i hall
      injection h with h; subst h
      refine ⟨.agg (by simp) (fun i u e => List.all_eq_true.1 hall u (by rw [← Array.getElem?_toList] at e; exact List.mem_of_getElem? e)) fun i u y e e' => ?_, ?_⟩
      · rw [List.getElem?_map, Array.getElem?_toList, e] at e'
        injection e' with e'; subst e'; exact .raw
      · simp only [AV.imm]
        generalize cs.toList = l
        induction l with
        | nil => rfl
        | cons a l ih => simp [AV.immL, AV.imm, ih]
    · cases h
  · injection h with h; subst h; exact ⟨.raw, rfl⟩

/-- The parts of a map operation: the kind of keys, the object, its entries, the key. -/
def mapAt (P : Program) (s : St) (kt : TypeId) (x k : AV) : Option (Nat × MKind × List (MKey × AV) × MKey) :=
  match keyKind P kt, x with
  | some kd, .mref id => match s.obj id with
    | .mp kd' m => if kd' = kd then (match keyOf kd k with
      | some key => some (id, kd, m, key)
      | none => none) else none
    | _ => none
  | _, _ => none
theorem mapAt_conc {w0 : World} {G : Nat → Prop} {p : Place} {I : Nat → Prop} {a : Act} {w : World} (hs : Sim GT w0 G p I s a w) {kt : TypeId} {ox ok : Operand} {id : Nat} {kd : MKind} {m : List (MKey × AV)} {key : MKey} (h : mapAt P s kt (ev GT s ox) (ev GT s ok) = some (id, kd, m, key)) :
    ∃ (r : Real) (es : Array MapEntry), a.eval ox = .map (some r.blk) ∧ a.eval ok = key.val ∧ p id = some r ∧ r.nul = false ∧ w.heap[r.blk]? = some (.map es es.size) ∧ m.length = es.size ∧ (∀ x, x ∈ m → x.1.kind = kd) ∧ (m.map (·.1)).Nodup ∧ key.kind = kd ∧
      P.underlying kt = some kd.desc ∧ (∀ key : MKey, key.kind = kd → IsKey kd.desc key.val) ∧ s.obj id = .mp kd m ∧
      ∀ (i : Nat) (e : MapEntry) (key : MKey) (a : AV), es[i]? = some e → m[i]? = some (key, a) → e.key = key.val ∧ e.born = i ∧ Conc I w noPlace e.val a := by
  unfold mapAt at h
  split at h
  · rename_i kd0 id0 hkd hx
    split at h
    · rename_i kd' m' hob
      split at h
      · rename_i hkk
        subst hkk
        split at h
        · rename_i key' hkey
          injection h with h
          injection h with h1 h
          injection h with h2 h
          injection h with h3 h4
          subst h1; subst h2; subst h3; subst h4
          have hcx := hs.ev ox
          have hck := hs.ev ok
          obtain ⟨hk1, hk2⟩ := keyOf_conc hkey
          rw [hk2] at hck
          rw [hx] at hcx
          generalize hvx : a.eval ox = vx at hcx
          cases hcx with
          | @mref _ _ r hr hnl =>
            have ho := hs.obj id0
            rw [hob] at ho
            obtain ⟨r', es, hr', _, hh, hl, hkinds, hnd, hv⟩ := ho
            obtain rfl : r = r' := Option.some.inj (hr.symm.trans hr')
            obtain ⟨hd1, hd2⟩ := keyKind_desc hkd
            exact ⟨r, es, rfl, conc_raw hck, hr, hnl, hh, hl, hkinds, hnd, hk1, hd1, hd2, hob, hv⟩
        · cases h
      · cases h
    · cases h
  · cases h

/-- What a look-up gives. -/
def lookAV (ok : Bool) (r : Option AV) (z : AV) : AV := cond ok (.tup [r.getD z, .raw (.bool r.isSome)]) (r.getD z)
def mapTypes (P : Program) (T : TypeId) : Option (Nat × Nat) := match td P T with
  | some d => match d.kind with
    | .map k e => some (k, e)
    | _ => none
  | none => none
theorem mapTypes_run {T : TypeId} {k e : Nat} (h : mapTypes P T = some (k, e)) : P.underlying T = some (.map k e) := by
  unfold mapTypes at h
  split at h
  · rename_i d hd
    split at h
    · rename_i k' e' hk
      injection h with h
      injection h with h1 h2
      subst h1; subst h2
      exact td_map hd hk
    · cases h
  · cases h

def evLookup (P : Program) (GT : Ctx) (s : St) (T : TypeId) (x ix : Operand) (ok : Bool) : Option Res :=
  match mapTypes P T with
  | some (kt, et) => match mapAt P s kt (ev GT s x) (ev GT s ix), (zeroRaw P et).bind avOf with
    | some (_, _, m, key), some z => some ⟨True, lookAV ok (mfind m key) z, s⟩
    | _, _ => none
  | none => none

theorem evLookup_ok {T : TypeId} {x ix : Operand} {ok : Bool} {r : Res} (ho : o.op = .lookup T x ix ok) (h : evLookup P GT s T x ix ok = some r) : StepPure P GT o s r := by
  unfold evLookup at h
  split at h
  · rename_i kt et hT
    split at h
    · rename_i id kd m key z hm hz
      injection h with h; subst h
      refine stepOK_pure fun _ w0 G p I a w hs => ?_
      obtain ⟨rr, es, hx, hk, hr, hnl, hh, hl, hkinds, hnd, hkey, hd1, hd2, hob, hv⟩ := mapAt_conc hs hm
      have hmt := mapTypes_run hT
      obtain ⟨zv, hz1, hz2⟩ := Option.bind_eq_some_iff.1 hz
      have hlt := (hs.own id rr hr hnl).2.1
      obtain ⟨hzc, _⟩ := avOf_conc hz2 I w p
      rcases find_run hl hkinds hnd hv hd2 hkey with ⟨h1, h2⟩ | ⟨j, e, h1, h2, h3, h4⟩
      · have hf := (midx_none h2).2
        cases ok
        · refine ⟨zv, fun w' hw' => ?_, by simp [lookAV, hf]; exact hzc⟩
          have hh' := ((hw' (by simp [ho, Op.reads])).2 _ hlt).trans hh
          simp [execOp, ho, hx, hk, Instr.lookup, run_underlying hmt, MapKept.run_getObj_map hh', run_checkKey hd1 (hd2 key hkey), run_findKey hd1 h1, run_zeroRaw hz1, Result.andThen]
        · refine ⟨.tuple #[zv, .bool false], fun w' hw' => ?_, ?_⟩
          · have hh' := ((hw' (by simp [ho, Op.reads])).2 _ hlt).trans hh
            simp [execOp, ho, hx, hk, Instr.lookup, run_underlying hmt, MapKept.run_getObj_map hh', run_checkKey hd1 (hd2 key hkey), run_findKey hd1 h1, run_zeroRaw hz1, Result.andThen]
          · simp only [lookAV, hf, cond, Option.getD_none, Option.isSome_none]
            refine .tup rfl fun i u y e e' => ?_
            rcases i with _ | _ | i
            · simp at e e'; subst e; subst e'; exact hzc
            · simp at e e'; subst e; subst e'; exact .raw
            · simp at e
      · obtain ⟨av, h5, hf⟩ := midx_some h4
        have hec := (hv j e key av h2 h5).2.2.anyPlace (p := p)
        cases ok
        · refine ⟨e.val, fun w' hw' => ?_, by simp [lookAV, hf]; exact hec⟩
          have hh' := ((hw' (by simp [ho, Op.reads])).2 _ hlt).trans hh
          simp [execOp, ho, hx, hk, Instr.lookup, run_underlying hmt, MapKept.run_getObj_map hh', run_checkKey hd1 (hd2 key hkey), run_findKey hd1 h1, Result.andThen]
        · refine ⟨.tuple #[e.val, .bool true], fun w' hw' => ?_, ?_⟩
          · have hh' := ((hw' (by simp [ho, Op.reads])).2 _ hlt).trans hh
            simp [execOp, ho, hx, hk, Instr.lookup, run_underlying hmt, MapKept.run_getObj_map hh', run_checkKey hd1 (hd2 key hkey), run_findKey hd1 h1, Result.andThen]
          · simp only [lookAV, hf, cond, Option.getD_some, Option.isSome_some]
            refine .tup rfl fun i u y e e' => ?_
            rcases i with _ | _ | i
            · simp at e e'; subst e; subst e'; exact hec
            · simp at e e'; subst e; subst e'; exact .raw
            · simp at e
    · cases h
  · cases h

/-- A new map. -/
def evMakeMap (P : Program) (GT : Ctx) (s : St) (T : TypeId) (hint : Option Operand) : Option Res :=
  match mapTypes P T with
  | some (kt, _) => match keyKind P kt, hint.map (ev GT s) with
    | some kd, none => some ⟨True, .mref s.objs.length, { s with objs := s.objs ++ [.mp kd []] }⟩
    | some kd, some (.raw (.int _ _)) => some ⟨True, .mref s.objs.length, { s with objs := s.objs ++ [.mp kd []] }⟩
    | _, _ => none
  | none => none
theorem newMap_ok {kd : MKind} (h : ∀ w0 G p I a w, Sim GT w0 G p I s a w → (execOp a.eval o).run P w = .ok (.value (.map (some w.heap.size))) (w.alloc (.map #[] 0))) :
    StepOK P GT o s ⟨True, .mref s.objs.length, { s with objs := s.objs ++ [.mp kd []] }⟩ := by
  intro _ w0 G p I a w hs
  have hrun := h w0 G p I a w hs
  refine ⟨p.with s.objs.length (some ⟨w.heap.size, 0, 0, 0, false⟩), _, _, .inl hrun, hs.new ⟨w.heap.size, 0, 0, 0, false⟩ rfl rfl (.map #[] 0) (.mp kd []) rfl rfl rfl rfl ?_, ?_, fun _ => Agree.alloc w _, hs.fresh_given _⟩
  · exact ⟨⟨w.heap.size, 0, 0, 0, false⟩, #[], Place.with_same _ _ _, rfl, heap_alloc_new w _, rfl, by simp, by simp, fun i e key x he => by simp at he⟩
  · exact Conc.mref (r := ⟨w.heap.size, 0, 0, 0, false⟩) (Place.with_same _ _ _) rfl
theorem evMakeMap_ok {T : TypeId} {hint : Option Operand} {r : Res} (ho : o.op = .makeMap T hint) (h : evMakeMap P GT s T hint = some r) : StepOK P GT o s r := by
  unfold evMakeMap at h
  split at h
  · rename_i kt et hT
    split at h
    · rename_i kd hkd hn
      injection h with h; subst h
      refine newMap_ok fun w0 G p I a w hs => ?_
      have : hint = none := by simpa using hn
      subst this
      simp [execOp, ho, Instr.makeMap, Result.andThen]
    · rename_i kd k n hkd hn
      injection h with h; subst h
      refine newMap_ok fun w0 G p I a w hs => ?_
      obtain ⟨x, rfl, hx⟩ := Option.map_eq_some_iff.1 hn
      have hc := hs.ev x
      rw [hx] at hc
      have hv := conc_raw hc
      simp [execOp, ho, hv, Instr.makeMap, run_underlying (mapTypes_run hT), asInt, asIntOf, Result.andThen]
    · cases h
  · cases h

/-- A map's block is written. -/
theorem Sim.writeMap {w0 : World} {G : Nat → Prop} {p : Place} {I : Nat → Prop} {a : Act} {w : World} (hs : Sim GT w0 G p I s a w) {id : Nat} {r : Real} (hr : p id = some r) (hl : r.nul = false) (hlt : r.blk < w.heap.size) (o : Obj) (es : Array MapEntry)
    (ho : ObjConc I { w with heap := w.heap.setIfInBounds r.blk (.map es es.size) } p id o) : Sim GT w0 G p I { s with objs := s.objs.set id o } a { w with heap := w.heap.setIfInBounds r.blk (.map es es.size) } :=
  hs.write hr hl o (by simp) (fun b hb => by simp [Ne.symm hb]) rfl rfl rfl ho

/-- The entries behind a write. -/
theorem conc_put {I : Nat → Prop} {w w' : World} {p : Place} {id : Nat} {r : Real} {es : Array MapEntry} {kd : MKind} {m : List (MKey × AV)} (hr : p id = some r) (hnl : r.nul = false) (hI : ∀ b, I b → w'.heap[b]? = w.heap[b]?)
    (hl : m.length = es.size) (hk : ∀ x, x ∈ m → x.1.kind = kd) (hn : (m.map (·.1)).Nodup)
    (hv : ∀ (i : Nat) (e : MapEntry) (key : MKey) (a : AV), es[i]? = some e → m[i]? = some (key, a) → e.key = key.val ∧ e.born = i ∧ Conc I w noPlace e.val a)
    {key : MKey} {v : Value} {x : AV} (hkey : key.kind = kd) (hno : midx m key = none) (hx : Conc I w noPlace v x)
    (hh : w'.heap[r.blk]? = some (.map (es.push { key := key.val, val := v, born := es.size }) (es.push { key := key.val, val := v, born := es.size }).size)) :
    ObjConc I w' p id (.mp kd (m ++ [(key, x)])) := by
  refine ⟨r, _, hr, hnl, hh, by simp [hl], fun y hy => ?_, ?_, fun i e key' y he hm => ?_⟩
  · rcases List.mem_append.1 hy with hy | hy
    · exact hk y hy
    · simp at hy; subst hy; exact hkey
  · rw [List.map_append, List.nodup_append]
    refine ⟨hn, by simp, fun y hy z hz => ?_⟩
    simp at hz
    subst hz
    obtain ⟨q, hq, rfl⟩ := List.mem_map.1 hy
    exact (midx_none hno).1 q hq
  · rw [Array.getElem?_push] at he
    rw [List.getElem?_append] at hm
    split at he
    · rename_i hi
      subst hi
      injection he with he; subst he
      rw [if_neg (by omega)] at hm
      simp [hl] at hm
      obtain ⟨rfl, rfl⟩ := hm
      exact ⟨rfl, rfl, hx.mono hI (fun _ h => h) fun _ _ h => h⟩
    · have hi := (Array.getElem?_eq_some_iff.1 he).1
      rw [if_pos (by omega)] at hm
      obtain ⟨h1, h2, h3⟩ := hv i e key' y he hm
      exact ⟨h1, h2, h3.mono hI (fun _ h => h) fun _ _ h => h⟩
theorem conc_mod {I : Nat → Prop} {w w' : World} {p : Place} {id : Nat} {r : Real} {es : Array MapEntry} {kd : MKind} {m : List (MKey × AV)} (hr : p id = some r) (hnl : r.nul = false) (hI : ∀ b, I b → w'.heap[b]? = w.heap[b]?)
    (hl : m.length = es.size) (hk : ∀ x, x ∈ m → x.1.kind = kd) (hn : (m.map (·.1)).Nodup)
    (hv : ∀ (i : Nat) (e : MapEntry) (key : MKey) (a : AV), es[i]? = some e → m[i]? = some (key, a) → e.key = key.val ∧ e.born = i ∧ Conc I w noPlace e.val a)
    {j : Nat} {f : MapEntry → MapEntry} {m' : List (MKey × AV)} (hm' : m'.map (·.1) = m.map (·.1)) (hmo : ∀ i, i ≠ j → m'[i]? = m[i]?)
    (hf : ∀ (e : MapEntry) (key : MKey) (a : AV), es[j]? = some e → m'[j]? = some (key, a) → (f e).key = key.val ∧ (f e).born = j ∧ Conc I w noPlace (f e).val a)
    (hh : w'.heap[r.blk]? = some (.map (es.modify j f) es.size)) : ObjConc I w' p id (.mp kd m') := by
  have hl' : m'.length = m.length := by have := congrArg List.length hm'; simpa using this
  refine ⟨r, es.modify j f, hr, hnl, by rw [hh]; simp, by simp [hl', hl], fun y hy => ?_, by rw [hm']; exact hn, fun i e key y he hm => ?_⟩
  · have : y.1 ∈ m.map (·.1) := hm' ▸ List.mem_map.2 ⟨y, hy, rfl⟩
    obtain ⟨z, hz, e⟩ := List.mem_map.1 this
    rw [← e]; exact hk z hz
  · rw [Array.getElem?_modify] at he
    by_cases hij : j = i
    · subst hij
      rw [if_pos rfl] at he
      obtain ⟨e0, he0, rfl⟩ := Option.map_eq_some_iff.1 he
      obtain ⟨h1, h2, h3⟩ := hf e0 key y he0 hm
      exact ⟨h1, h2, h3.mono hI (fun _ h => h) fun _ _ h => h⟩
    · rw [if_neg hij] at he
      rw [hmo i (Ne.symm hij)] at hm
      obtain ⟨h1, h2, h3⟩ := hv i e key y he hm
      exact ⟨h1, h2, h3.mono hI (fun _ h => h) fun _ _ h => h⟩

def evMapUpdate (P : Program) (GT : Ctx) (s : St) (T : TypeId) (x k v : Operand) : Option Res :=
  match mapTypes P T with
  | some (kt, _) => match mapAt P s kt (ev GT s x) (ev GT s k) with
    | some (id, kd, m, key) => if (ev GT s v).imm = true then some ⟨True, .top, { s with objs := s.objs.set id (.mp kd (mput m key (ev GT s v))) }⟩ else none
    | none => none
  | none => none
theorem set_keys {m : List (MKey × AV)} {j : Nat} {key : MKey} {a x : AV} (h : m[j]? = some (key, a)) : (m.set j (key, x)).map (·.1) = m.map (·.1) := by
  apply List.ext_getElem?
  intro i
  rw [List.getElem?_map, List.getElem?_map, List.getElem?_set]
  split
  · rename_i hji
    subst hji
    obtain ⟨h1, h2⟩ := List.getElem?_eq_some_iff.1 h
    simp [h1, h2]
  · rfl
theorem evMapUpdate_ok {T : TypeId} {x k v : Operand} {r : Res} (ho : o.op = .mapUpdate T x k v ∨ o.op = .insert T x k v) (h : evMapUpdate P GT s T x k v = some r) : StepOK P GT o s r := by
  unfold evMapUpdate at h
  split at h
  · rename_i kt et hT
    split at h
    · rename_i id kd m key hm
      split at h
      · rename_i himm
        injection h with h; subst h
        intro _ w0 G p I a w hs
        obtain ⟨rr, es, hx, hk, hr, hnl, hh, hl, hkinds, hnd, hkey, hd1, hd2, hob, hv⟩ := mapAt_conc hs hm
        have hmt := mapTypes_run hT
        have hlt := (hs.own id rr hr hnl).2.1
        have hcv := (hs.ev v).ofImm (p' := noPlace) himm
        have hI : ∀ (es' : Array MapEntry) (c : Nat) (b : Nat), I b → ({ w with heap := w.heap.setIfInBounds rr.blk (.map es' c) } : World).heap[b]? = w.heap[b]? := fun es' c b hb => by
          have : b ≠ rr.blk := by rintro rfl; exact (hs.own id rr hr hnl).2.2 hb
          simp [Ne.symm this]
        have he : (execOp a.eval o) = (do Instr.mapUpdate T (a.eval x) (a.eval k) (a.eval v); Pure.pure .skip : Sem Next) := by
          rcases ho with ho | ho <;> simp [execOp, ho]
        have hq : Op.quiet o.op = false := by rcases ho with ho | ho <;> simp [ho, Op.quiet]
        rcases find_run hl hkinds hnd hv hd2 hkey with ⟨h1, h2⟩ | ⟨j, e, h1, h2, h3, h4⟩
        · refine ⟨p, undef, { w with heap := w.heap.setIfInBounds rr.blk (.map (es.push { key := key.val, val := a.eval v, born := es.size }) (es.size + 1)) }, .inr ⟨?_, rfl⟩, ?_, .top, (fun h => by rw [hq] at h; cases h), fun _ _ => .inl rfl⟩
          · rw [he]
            simp [hx, hk, Instr.mapUpdate, run_underlying hmt, MapKept.run_getObj_map hh, run_checkKey hd1 (hd2 key hkey), run_findKey hd1 h1, run_setObj_map _ hh, Result.andThen]
          · simp only [mput, h2]
            have := hs.writeMap hr hnl hlt (.mp kd (m ++ [(key, ev GT s v)])) (es.push { key := key.val, val := a.eval v, born := es.size }) (conc_put hr hnl (hI _ _) hl hkinds hnd hv hkey h2 hcv (by simp [hlt]))
            simpa using this
        · obtain ⟨av, h5, hf⟩ := midx_some h4
          refine ⟨p, undef, { w with heap := w.heap.setIfInBounds rr.blk (.map (es.modify j fun e => { e with key := key.val, val := a.eval v }) es.size) }, .inr ⟨?_, rfl⟩, ?_, .top, (fun h => by rw [hq] at h; cases h), fun _ _ => .inl rfl⟩
          · rw [he]
            simp [hx, hk, Instr.mapUpdate, run_underlying hmt, MapKept.run_getObj_map hh, run_checkKey hd1 (hd2 key hkey), run_findKey hd1 h1, h2, h3, run_keyThatStays (hd2 key hkey), run_setObj_map _ hh, Result.andThen]
          · simp only [mput, h4]
            have := hs.writeMap hr hnl hlt (.mp kd (m.set j (key, ev GT s v))) (es.modify j fun e => { e with key := key.val, val := a.eval v }) (conc_mod (f := fun e => { e with key := key.val, val := a.eval v }) hr hnl (hI _ _) hl hkinds hnd hv (set_keys h5) (fun i hi => by rw [List.getElem?_set_ne (Ne.symm hi)]) (fun e0 key' y he0 hm0 => by
              have hjl := (List.getElem?_eq_some_iff.1 h5).1
              rw [List.getElem?_set_self hjl] at hm0
              injection hm0 with hm0
              injection hm0 with g1 g2
              subst g1; subst g2
              exact ⟨rfl, (hv j e0 key av he0 h5).2.1, hcv⟩) (by simp [hlt]))
            simpa using this
      · cases h
    · cases h
  · cases h

/-- An entry that is about to be changed: what stands there, and its stamp. -/
def evMapEntry (P : Program) (GT : Ctx) (s : St) (T : TypeId) (x k : Operand) : Option Res :=
  match mapTypes P T with
  | some (kt, et) => match mapAt P s kt (ev GT s x) (ev GT s k), (zeroRaw P et).bind avOf with
    | some (id, kd, m, key), some z => some ⟨True, .tup [(mfind m key).getD z, .raw (.int .i64 (mstamp m key))], { s with objs := s.objs.set id (.mp kd (mtouch m key z)) }⟩
    | _, _ => none
  | none => none
theorem evMapEntry_ok {T : TypeId} {x k : Operand} {r : Res} (ho : o.op = .mapEntry T x k) (h : evMapEntry P GT s T x k = some r) : StepOK P GT o s r := by
  unfold evMapEntry at h
  split at h
  · rename_i kt et hT
    split at h
    · rename_i id kd m key z hm hz
      injection h with h; subst h
      intro _ w0 G p I a w hs
      obtain ⟨rr, es, hx, hk, hr, hnl, hh, hl, hkinds, hnd, hkey, hd1, hd2, hob, hv⟩ := mapAt_conc hs hm
      have hmt := mapTypes_run hT
      have hlt := (hs.own id rr hr hnl).2.1
      obtain ⟨zv, hz1, hz2⟩ := Option.bind_eq_some_iff.1 hz
      have hI : ∀ (es' : Array MapEntry) (c : Nat) (b : Nat), I b → ({ w with heap := w.heap.setIfInBounds rr.blk (.map es' c) } : World).heap[b]? = w.heap[b]? := fun es' c b hb => by
        have : b ≠ rr.blk := by rintro rfl; exact (hs.own id rr hr hnl).2.2 hb
        simp [Ne.symm this]
      have tup2 : ∀ {w' : World} {u : Value} {y : AV} {n : Int}, Conc I w' p u y → Conc I w' p (.tuple #[u, .int .i64 n]) (.tup [y, .raw (.int .i64 n)]) := fun hc => by
        refine .tup rfl fun i u y e e' => ?_
        rcases i with _ | _ | i
        · simp at e e'; subst e; subst e'; exact hc
        · simp at e e'; subst e; subst e'; exact .raw
        · simp at e
      rcases find_run hl hkinds hnd hv hd2 hkey with ⟨h1, h2⟩ | ⟨j, e, h1, h2, h3, h4⟩
      · have hf := (midx_none h2).2
        have hzc := fun w' => (avOf_conc hz2 I w' noPlace).1
        refine ⟨p, .tuple #[zv, .int .i64 es.size], { w with heap := w.heap.setIfInBounds rr.blk (.map (es.push { key := key.val, val := zv, born := es.size }) (es.size + 1)) }, .inl ?_, ?_, ?_, (fun h => by simp [ho, Op.quiet] at h), fun _ _ => .inl rfl⟩
        · simp [execOp, ho, hx, hk, Instr.mapEntry, run_underlying hmt, MapKept.run_getObj_map hh, run_checkKey hd1 (hd2 key hkey), run_findKey hd1 h1, run_zeroRaw hz1, run_setObj_map _ hh, Result.andThen, goInt]
        · simp only [mtouch, h2]
          have := hs.writeMap hr hnl hlt (.mp kd (m ++ [(key, z)])) (es.push { key := key.val, val := zv, born := es.size }) (conc_put hr hnl (hI _ _) hl hkinds hnd hv hkey h2 (hzc w) (by simp [hlt]))
          simpa using this
        · simp only [hf, Option.getD_none, mstamp, h2, hl]
          exact tup2 (avOf_conc hz2 I _ p).1
      · obtain ⟨av, h5, hf⟩ := midx_some h4
        have hb := (hv j e key av h2 h5).2.1
        have hec := (hv j e key av h2 h5).2.2
        refine ⟨p, .tuple #[e.val, .int .i64 j], { w with heap := w.heap.setIfInBounds rr.blk (.map (es.modify j fun e => { e with key := key.val }) es.size) }, .inl ?_, ?_, ?_, (fun h => by simp [ho, Op.quiet] at h), fun _ _ => .inl rfl⟩
        · simp [execOp, ho, hx, hk, Instr.mapEntry, run_underlying hmt, MapKept.run_getObj_map hh, run_checkKey hd1 (hd2 key hkey), run_findKey hd1 h1, h2, h3, hb, run_keyThatStays (hd2 key hkey), run_setObj_map _ hh, Result.andThen, goInt]
        · simp only [mtouch, h4]
          have := hs.writeMap hr hnl hlt (.mp kd m) (es.modify j fun e => { e with key := key.val }) (conc_mod (f := fun e => { e with key := key.val }) hr hnl (hI _ _) hl hkinds hnd hv rfl (fun i hi => rfl) (fun e0 key' y he0 hm0 => by
              rw [h5] at hm0
              injection hm0 with hm0
              injection hm0 with g1 g2
              subst g1; subst g2
              exact ⟨rfl, (hv j e0 key av he0 h5).2⟩) (by simp [hlt]))
          simpa using this
        · simp only [hf, Option.getD_some, mstamp, h4]
          exact tup2 ((hec.mono (hI _ _) (fun _ h => h) fun _ _ h => h).anyPlace)
    · cases h
  · cases h

def evEntryStore (GT : Ctx) (s : St) (x k v : Operand) : Option Res :=
  match ev GT s x, ev GT s k with
  | .mref id, .raw (.int _ n) => match s.obj id with
    | .mp kd m => if (ev GT s v).imm = true then some ⟨0 ≤ n ∧ n.toNat < m.length, .top, { s with objs := s.objs.set id (.mp kd (mset m n.toNat (ev GT s v))) }⟩ else none
    | _ => none
  | _, _ => none
theorem evEntryStore_ok {T : TypeId} {x k v : Operand} {r : Res} (ho : o.op = .entryStore T x k v) (h : evEntryStore GT s x k v = some r) : StepOK P GT o s r := by
  unfold evEntryStore at h
  split at h
  · rename_i id kk n hx hk
    split at h
    · rename_i kd m hob
      split at h
      · rename_i himm
        injection h with h; subst h
        rintro ⟨hn0, hnl⟩ w0 G p I a w hs
        have hcx := hs.ev x
        have hck := hs.ev k
        rw [hx] at hcx
        rw [hk] at hck
        have hkv := conc_raw hck
        generalize hvx : a.eval x = vx at hcx
        cases hcx with
        | @mref _ _ rr hr hrn =>
          have hoc := hs.obj id
          rw [hob] at hoc
          obtain ⟨r', es, hr', _, hh, hl, hkinds, hnd, hv⟩ := hoc
          obtain rfl : rr = r' := Option.some.inj (hr.symm.trans hr')
          have hlt := (hs.own id rr hr hrn).2.1
          have hcv := (hs.ev v).ofImm (p' := noPlace) himm
          obtain ⟨j, rfl⟩ : ∃ j : Nat, n = j := ⟨n.toNat, by omega⟩
          simp only [Int.toNat_natCast] at hnl ⊢
          have hborn : ∀ (i : Nat) (hi : i < es.size), es[i].born = i := fun i hi => by
            have hmi : m[i]? = some (m[i].1, m[i].2) := List.getElem?_eq_getElem (by omega)
            exact (hv i _ _ _ (Array.getElem?_eq_getElem hi) hmi).2.1
          have hfind : es.findIdx? (fun e => (e.born : Int) == (j : Int)) = some j := by
            rw [Array.findIdx?_eq_some_iff_getElem]
            refine ⟨by omega, by simp [hborn j (by omega)], fun i hi => ?_⟩
            have := hborn i (by omega)
            simp [this]; omega
          have hI : ∀ (es' : Array MapEntry) (c : Nat) (b : Nat), I b → ({ w with heap := w.heap.setIfInBounds rr.blk (.map es' c) } : World).heap[b]? = w.heap[b]? := fun es' c b hb => by
            have : b ≠ rr.blk := by rintro rfl; exact (hs.own id rr hr hrn).2.2 hb
            simp [Ne.symm this]
          refine ⟨p, undef, { w with heap := w.heap.setIfInBounds rr.blk (.map (es.modify j fun e => { e with val := a.eval v }) es.size) }, .inr ⟨?_, rfl⟩, ?_, .top, (fun h => by simp [ho, Op.quiet] at h), fun _ _ => .inl rfl⟩
          · simp [execOp, ho, hvx, hkv, Instr.entryStore, MapKept.run_getObj_map hh, asInt, asIntOf, hfind, run_setObj_map _ hh, Result.andThen]
          · have g1 : (mset m j (ev GT s v)).map (·.1) = m.map (·.1) := by
              apply List.ext_getElem?
              intro i
              simp only [mset, List.getElem?_map, List.getElem?_modify]
              cases m[i]? with
              | none => rfl
              | some y => simp only [Option.map_some]; split <;> rfl
            have g2 : ∀ i, i ≠ j → (mset m j (ev GT s v))[i]? = m[i]? := fun i hi => by simp [mset, List.getElem?_modify, Ne.symm hi]
            have g3 : (mset m j (ev GT s v))[j]? = some (m[j].1, ev GT s v) := by simp [mset, List.getElem?_modify, List.getElem?_eq_getElem hnl]
            have := hs.writeMap hr hrn hlt (.mp kd (mset m j (ev GT s v))) (es.modify j fun e => { e with val := a.eval v }) (conc_mod (f := fun e => { e with val := a.eval v }) hr hrn (hI _ _) hl hkinds hnd hv g1 g2 (fun e0 key' y he0 hm0 => by
                rw [g3] at hm0
                injection hm0 with hm0
                injection hm0 with q1 q2
                subst q1; subst q2
                obtain ⟨q1, q2, _⟩ := hv j e0 m[j].1 m[j].2 he0 (List.getElem?_eq_getElem hnl)
                exact ⟨q1, q2, hcv⟩) (by simp [hlt]))
            simpa using this
      · cases h
    · cases h
  · cases h

/-- A pointer that is not nil. -/
def evNilCheck (GT : Ctx) (s : St) (x : Operand) : Option Res :=
  match ev GT s x with
  | .ref id off => some ⟨True, .ref id off, s⟩
  | .eref id k i off => some ⟨True, .eref id k i off, s⟩
  | .cptr cs => some ⟨True, .cptr cs, s⟩
  | _ => none
theorem evNilCheck_ok {x : Operand} {r : Res} (ho : o.op = .nilCheck x) (h : evNilCheck GT s x = some r) : StepPure P GT o s r := by
  unfold evNilCheck at h
  split at h
  · rename_i id off hx
    injection h with h; subst h
    refine stepOK_pure fun _ w0 G p I a w hs => ?_
    have hc := hs.ev x
    rw [hx] at hc
    refine ⟨a.eval x, fun w' _ => ?_, hc⟩
    generalize hv : a.eval x = v at hc
    cases hc
    simp [execOp, ho, hv]
  · rename_i id k i off hx
    injection h with h; subst h
    refine stepOK_pure fun _ w0 G p I a w hs => ?_
    have hc := hs.ev x
    rw [hx] at hc
    refine ⟨a.eval x, fun w' _ => ?_, hc⟩
    generalize hv : a.eval x = v at hc
    cases hc
    simp [execOp, ho, hv]
  · rename_i cs hx
    injection h with h; subst h
    refine stepOK_pure fun _ w0 G p I a w hs => ?_
    have hc := hs.ev x
    rw [hx] at hc
    refine ⟨a.eval x, fun w' _ => ?_, hc⟩
    generalize hv : a.eval x = v at hc
    cases hc
    simp [execOp, ho, hv]
  · cases h
end
end Go.Proofs.YtangkndckghblaaDoor.Abs
