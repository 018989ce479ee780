/- Loops over maps: the iterator and the map lie in blocks that the round leaves alone. -/
import Derived.Maps.RangeRun
import Derived.Test.YtfkiomkfoabnhaaDoorT2
import Derived.Test.YtfkiomkfoabnhaaDoorT3
namespace Go.Proofs.YtfkiomkfoabnhaaDoor.Abs
set_option linter.unusedSimpArgs false
set_option linter.unusedVariables false
open Go Go.RowKit Go.MapKept Go.ChangeMaps

section
variable {P : Program} {GT : Ctx} {s : St} {k : List Item} {Q : Exit → St → Prop} {B : Base} {a : Act} {w : World}

theorem Sim.le {w0 : World} {G : Nat → Prop} {p : Place} {I : Nat → Prop} {s' : St} (h : Sim GT w0 G p I s a w) (hle : s.le s') (hgv : GT.given ≤ s'.objs.length) : Sim GT w0 G (p.those s') I s' a w := by
  obtain ⟨hlen, hsl⟩ := leSlots_get hle.1
  have hq : ∀ i r, p.those s' i = some r → p i = some r := fun i r hi => by
    simp only [Place.those] at hi
    split at hi
    · cases hi
    · exact hi
  refine ⟨by rw [h.size, hlen], fun i v x e e' => ?_, h.defers, fun i => ?_, fun i j r r' hi hj hl hl' hb => h.inj i j r r' (hq i r hi) (hq j r' hj) hl hl' hb, fun i r hi hl => h.own i r (hq i r hi) hl, h.imm, h.frame, h.glob, hgv⟩
  · have hi : i < s.slots.length := by rw [hlen]; exact (List.getElem?_eq_some_iff.1 e').1
    rcases hsl i _ x (List.getElem?_eq_getElem hi) e' with rfl | ⟨hx, hk⟩
    · exact .top
    · have := h.slot i v _ e (List.getElem?_eq_getElem hi)
      rw [hx] at this
      exact this.those hk
  · have hol : (s.obj i).le s' (s'.obj i) := leObjs_get i hle.2
    have hob := h.obj i
    have hpi : (s'.obj i).isDead = false → p.those s' i = p i := Place.those_live
    cases ho : s'.obj i with
    | dead => exact Place.those_dead (by rw [ho]; rfl)
    | box cs =>
      rw [ho] at hol hpi
      obtain ⟨hx, hk⟩ := hol
      rw [hx] at hob
      obtain ⟨r, c, E, hr, hn, hh, hl, hv⟩ := hob
      refine ⟨r, c, E, (hpi rfl).trans hr, hn, hh, hl, fun j a e => ?_⟩
      obtain ⟨v, e1, e2, e3⟩ := hv j a e
      exact ⟨v, e1, e2, e3.those (AV.keepsL_mem hk a (List.mem_of_getElem? e))⟩
    | arr k xs =>
      rw [ho] at hol hpi
      rw [show s.obj i = .arr k xs from hol] at hob
      obtain ⟨r, hr, rest⟩ := hob
      exact ⟨r, (hpi rfl).trans hr, rest⟩
    | mp kd m =>
      rw [ho] at hol hpi
      rw [show s.obj i = .mp kd m from hol] at hob
      obtain ⟨r, es, hr, rest⟩ := hob
      exact ⟨r, es, (hpi rfl).trans hr, rest⟩

/-- The world turns at one block that no object and no immutable value lies in. -/
theorem Sim.turn {w0 w' : World} {G : Nat → Prop} {p : Place} {I : Nat → Prop} {r : Nat} (h : Sim GT w0 G p I s a w) (hos : w'.os = w.os) (htape : w'.tape = w.tape) (hout : w'.output = w.output) (hsz : w.heap.size ≤ w'.heap.size)
    (hh : ∀ b, b < w.heap.size → b ≠ r → w'.heap[b]? = w.heap[b]?) (hr1 : ¬ I r) (hr2 : ∀ i x, p i = some x → x.nul = false → x.blk ≠ r) (hr3 : w0.heap.size ≤ r ∨ G r) : Sim GT w0 G p I s a w' := by
  have hI : ∀ b, I b → w'.heap[b]? = w.heap[b]? := fun b hb => hh b (h.imm b hb) fun e => hr1 (e ▸ hb)
  refine ⟨h.size, fun i v x e e' => (h.slot i v x e e').mono hI (fun _ h => h) (fun _ _ h => h), h.defers, fun id => (h.obj id).mono hI (fun _ h => h) fun x hx hn => hh _ (h.own id x hx hn).2.1 (hr2 id x hx hn), h.inj, fun i x hx hn => ⟨(h.own i x hx hn).1, by have := (h.own i x hx hn).2.1; omega, (h.own i x hx hn).2.2⟩, fun b hb => by have := h.imm b hb; omega, ?_, fun g cs hg => (h.glob g cs hg).mono hI (fun _ h => h) (fun _ _ h => h), h.given⟩
  refine ⟨hos.trans h.frame.os, htape.trans h.frame.tape, hout.trans h.frame.output, by have := h.frame.size; omega, fun b hb hG => ?_⟩
  rw [hh b (by have := h.frame.size; omega) (fun e => by subst e; rcases hr3 with h1 | h1; (· omega); (· exact hG h1))]
  exact h.frame.block b hb hG

/-- Of a frame in a world: the state, and blocks that hold what they hold, beside it. -/
def Kept (GT : Ctx) (B : Base) (L : List (Nat × Go.Obj)) (s : St) (a : Act) (w : World) : Prop :=
  ∃ p I, Sim GT B.w0 B.G p I s a w ∧ (∀ b, B.I0 b → I b) ∧ (∀ b, I b → B.I0 b ∨ B.w0.heap.size ≤ b ∨ B.G b) ∧ (∀ i, i < GT.given → p i = B.q0 i ∨ p i = none) ∧
    ∀ x ∈ L, w.heap[x.1]? = some x.2 ∧ (B.w0.heap.size ≤ x.1 ∨ B.G x.1) ∧ (∀ i r, p i = some r → r.nul = false → r.blk ≠ x.1) ∧ ¬ I x.1
variable {L : List (Nat × Go.Obj)}
theorem Kept.at (h : Kept GT B L s a w) {x : Nat × Go.Obj} (hx : x ∈ L) : w.heap[x.1]? = some x.2 := by
  obtain ⟨p, I, _, _, _, _, hL⟩ := h
  exact (hL x hx).1
theorem Kept.out (h : Kept GT B L s a w) : ∃ B', StC GT B' s a w ∧ ∀ s' a' w', StC GT B' s' a' w' → Kept GT B L s' a' w' := by
  obtain ⟨p, I, hsim, h1, h2, h3, hL⟩ := h
  refine ⟨⟨w, fun b => (∀ x ∈ L, b ≠ x.1) ∧ (B.w0.heap.size ≤ b ∨ B.G b), I, p⟩, ⟨p, I, ?_, fun _ h => h, fun _ h => .inl h, fun _ _ => .inl rfl⟩, ?_⟩
  · refine { hsim with own := fun i r hi hn => ⟨.inr ⟨fun x hx => (hL x hx).2.2.1 i r hi hn, (hsim.own i r hi hn).1⟩, (hsim.own i r hi hn).2⟩, frame := Frm.refl _ _, obj := hsim.obj, slot := hsim.slot }
  · rintro s' a' w' ⟨p', I', hs', c1, c2, c3⟩
    have hf := hs'.frame
    have hsz := hsim.frame.size
    have hbk : ∀ x ∈ L, x.1 < w.heap.size := fun x hx => (Array.getElem?_eq_some_iff.1 (hL x hx).1).1
    refine ⟨p', I', ⟨hs'.size, hs'.slot, hs'.defers, hs'.obj, hs'.inj, fun i r hi hn => ⟨?_, (hs'.own i r hi hn).2⟩, hs'.imm, ⟨hf.os.trans hsim.frame.os, hf.tape.trans hsim.frame.tape, hf.output.trans hsim.frame.output, Nat.le_trans hsz hf.size, fun b hb hG => ?_⟩, hs'.glob, hs'.given⟩, fun b hb => c1 b (h1 b hb), fun b hb => ?_, fun i hi => ?_, fun x hx => ⟨?_, (hL x hx).2.1, fun i r hi hn => ?_, fun hI => ?_⟩⟩
    · rcases (hs'.own i r hi hn).1 with h | h
      · exact .inl (Nat.le_trans hsz h)
      · exact h.2
    · rw [hf.block b (Nat.lt_of_lt_of_le hb hsz) (fun h => by rcases h.2 with h | h; (· omega); (· exact hG h))]
      exact hsim.frame.block b hb hG
    · rcases c2 b hb with h | h | h
      · exact h2 b h
      · exact .inr (.inl (Nat.le_trans hsz h))
      · exact .inr h.2
    · rcases c3 i hi with h | h
      · rw [h]; exact h3 i hi
      · exact .inr h
    · rw [hf.block x.1 (hbk x hx) (fun h => h.1 x hx rfl)]
      exact (hL x hx).1
    · rcases (hs'.own i r hi hn).1 with h | h
      · have h4 : w.heap.size ≤ r.blk := h
        have := hbk x hx; omega
      · exact h.1 x hx
    · rcases c2 x.1 hI with h | h | h
      · exact (hL x hx).2.2.2 h
      · have h4 : w.heap.size ≤ x.1 := h
        have := hbk x hx; omega
      · exact h.1 x hx rfl
theorem Kept.sem {s' : St} (hle : SemLe GT s s') (h : Kept GT B L s a w) : Kept GT B L s' a w := by
  obtain ⟨B', h1, h2⟩ := h.out
  exact h2 _ _ _ (hle _ _ _ h1)
theorem Kept.put (h : Kept GT B L s a w) (d : Option Tmp) {v : Value} : Kept GT B L (s.put d (.raw v)) (a.put d v) w := by
  obtain ⟨B', h1, h2⟩ := h.out
  exact h2 _ _ _ (h1.put d)
theorem Kept.run (hj : J P GT k s Q) (h : Kept GT B L s a w) (b : Frame) (k0 : List Item) (cs : List Frame) : ∃ e a' w' s', Q e s' ∧ Kept GT B L s' a' w' ∧ Arrives P (lone (b.at a (k ++ k0)) cs w) b k0 cs e a' w' := by
  obtain ⟨B', h1, h2⟩ := h.out
  obtain ⟨e, a', w', s', q1, q2, q3⟩ := hj B' a w h1 b k0 cs
  exact ⟨e, a', w', s', q1, h2 _ _ _ q2, q3⟩
theorem Kept.drew (h : Kept GT B L s a w) : Kept GT B L s a { w with drawn := w.drawn + 1 } := by
  obtain ⟨p, I, hsim, h1, h2, h3, hL⟩ := h
  exact ⟨p, I, hsim.drew, h1, h2, h3, hL⟩
/-- One of the blocks is written. -/
theorem Kept.turn {r : Nat} {o o' : Go.Obj} (h : Kept GT B ((r, o) :: L) s a w) (hne : ∀ x ∈ L, x.1 ≠ r) : Kept GT B ((r, o') :: L) s a (setBlock w r o') := by
  obtain ⟨p, I, hsim, h1, h2, h3, hL⟩ := h
  obtain ⟨q1, q2, q3, q4⟩ := hL (r, o) (by simp)
  have hlt : r < w.heap.size := (Array.getElem?_eq_some_iff.1 q1).1
  have hget : ∀ b, b ≠ r → (setBlock w r o').heap[b]? = w.heap[b]? := fun b hb => by
    simp only [setBlock, Array.getElem?_setIfInBounds]
    rw [if_neg (Ne.symm hb)]
  refine ⟨p, I, hsim.turn (w' := setBlock w r o') (r := r) rfl rfl rfl (by simp [setBlock]) (fun b _ hb => hget b hb) q4 q3 q2, h1, h2, h3, fun x hx => ?_⟩
  rcases List.mem_cons.1 hx with rfl | hx
  · exact ⟨by simp [setBlock, hlt], q2, q3, q4⟩
  · obtain ⟨g1, g2⟩ := hL x (by simp [hx])
    exact ⟨(hget _ (hne x hx)).trans g1, g2⟩
end
/-- What a map's block holds. -/
structure MapIs (es : Array MapEntry) (m : List (MKey × AV)) : Prop where
  len : m.length = es.size
  ent : ∀ (i : Nat) (e : MapEntry) (key : MKey) (x : AV), es[i]? = some e → m[i]? = some (key, x) → e.key = key.val ∧ e.born = i ∧ x = .raw e.val
theorem MapIs.born {es : Array MapEntry} {m : List (MKey × AV)} (h : MapIs es m) {i : Nat} {e : MapEntry} (he : es[i]? = some e) : e.born = i := by
  have hi := (Array.getElem?_eq_some_iff.1 he).1
  have hm : m[i]? = some (m[i]'(by rw [h.len]; exact hi)) := List.getElem?_eq_getElem _
  exact (h.ent i e _ _ he hm).2.1
theorem MapIs.nodup {es : Array MapEntry} {m : List (MKey × AV)} (h : MapIs es m) : (es.toList.map (·.born)).Nodup := by
  have e : es.toList.map (·.born) = List.range es.size := by
    apply List.ext_getElem
    · simp
    · intro i h1 h2
      simp only [List.getElem_map, List.getElem_range]
      exact h.born (by simp at h1; simp [h1])
  rw [e]
  exact List.nodup_range
section
variable {P : Program} {GT : Ctx} {s : St} {k : List Item} {Q : Exit → St → Prop} {B : Base} {a : Act} {w : World} {L : List (Nat × Go.Obj)}
/-- The map gets its name back. -/
theorem Kept.back {idm t0 bm : Nat} {kd : MKind} {m : List (MKey × AV)} {es : Array MapEntry} (h : Kept GT B L s a w) (hbm : (bm, Go.Obj.map es es.size) ∈ L) (hm : MapIs es m) (hkd : ∀ x, x ∈ m → x.1.kind = kd) (hnd : (m.map (·.1)).Nodup)
    (hdead : s.obj idm = .dead) (hid : idm < s.objs.length) (hg : GT.given ≤ idm) (ht : a.tmps[t0]? = some (.map (some bm))) : StC GT B ⟨sset s.slots t0 (.mref idm), s.objs.set idm (.mp kd m)⟩ a w := by
  obtain ⟨p, I, hs, h1, h2, h3, hL⟩ := h
  obtain ⟨q1, q2, q3, q4⟩ := hL _ hbm
  have hpn : p idm = none := by have := hs.obj idm; rw [hdead] at this; exact this
  have hlt : bm < w.heap.size := (Array.getElem?_eq_some_iff.1 q1).1
  have hpp : ∀ i r, p i = some r → (p.with idm (some ⟨bm, 0, 0, 0, false⟩)) i = some r := fun i r hi => by
    rw [Place.with_other _ _ (by rintro rfl; rw [hpn] at hi; cases hi)]; exact hi
  have hinv : ∀ i r, (p.with idm (some ⟨bm, 0, 0, 0, false⟩)) i = some r → (i = idm ∧ r = ⟨bm, 0, 0, 0, false⟩) ∨ (i ≠ idm ∧ p i = some r) := fun i r hi => by
    by_cases hii : i = idm
    · subst hii
      rw [Place.with_same] at hi
      injection hi with hi
      exact .inl ⟨rfl, hi.symm⟩
    · rw [Place.with_other _ _ hii] at hi
      exact .inr ⟨hii, hi⟩
  refine ⟨p.with idm (some ⟨bm, 0, 0, 0, false⟩), I, ⟨by rw [← sset_eq]; simpa using hs.size, fun i v x e e' => ?_, hs.defers, fun i => ?_, fun i j r r' hi hj hn hn' hb => ?_, fun i r hi hn => ?_, hs.imm, hs.frame, hs.glob, by have := hs.given; simpa using this⟩, h1, h2, fun i hi => ?_⟩
  · rw [← sset_eq, List.getElem?_set] at e'
    split at e'
    · rename_i hti
      subst hti
      split at e'
      · injection e' with e'
        subst e'
        rw [ht] at e
        injection e with e
        subst e
        exact .mref (r := ⟨bm, 0, 0, 0, false⟩) (Place.with_same _ _ _) rfl
      · cases e'
    · exact (hs.slot i v x e e').mono (fun _ _ => rfl) (fun _ h => h) hpp
  · by_cases hii : i = idm
    · subst hii
      have e : (⟨sset s.slots t0 (.mref i), s.objs.set i (.mp kd m)⟩ : St).obj i = .mp kd m := by
        simp only [St.obj, List.getD_eq_getElem?_getD]
        rw [List.getElem?_set_self hid]
        rfl
      rw [e]
      exact ⟨⟨bm, 0, 0, 0, false⟩, es, Place.with_same _ _ _, rfl, q1, hm.len, hkd, hnd, fun j en key x he hx => by
        obtain ⟨g1, g2, g3⟩ := hm.ent j en key x he hx
        rw [g3]; exact ⟨g1, g2, .raw⟩⟩
    · have e : (⟨sset s.slots t0 (.mref idm), s.objs.set idm (.mp kd m)⟩ : St).obj i = s.obj i := by
        simp only [St.obj, List.getD_eq_getElem?_getD]
        rw [List.getElem?_set_ne (Ne.symm hii)]
      rw [e]
      have hob := hs.obj i
      cases ho : s.obj i with
      | dead =>
        rw [ho] at hob
        show (p.with idm _) i = none
        rw [Place.with_other _ _ hii]; exact hob
      | box cs =>
        rw [ho] at hob
        obtain ⟨r, c, E, hr, hn, hh, hl, hv⟩ := hob
        refine ⟨r, c, E, hpp i r hr, hn, hh, hl, fun j x e => ?_⟩
        obtain ⟨v, e1, e2, e3⟩ := hv j x e
        exact ⟨v, e1, e2, e3.mono (fun _ _ => rfl) (fun _ h => h) hpp⟩
      | arr kk xs =>
        rw [ho] at hob
        obtain ⟨r, hr, rest⟩ := hob
        exact ⟨r, hpp i r hr, rest⟩
      | mp kd' m' =>
        rw [ho] at hob
        obtain ⟨r, es', hr, rest⟩ := hob
        exact ⟨r, es', hpp i r hr, rest⟩
  · rcases hinv i r hi with ⟨f1, f2⟩ | ⟨hii, hi2⟩
    · rcases hinv j r' hj with ⟨f3, f4⟩ | ⟨hjj, hj2⟩
      · rw [f1, f3]
      · rw [f2] at hb; exact absurd hb.symm (q3 j r' hj2 hn')
    · rcases hinv j r' hj with ⟨f3, f4⟩ | ⟨hjj, hj2⟩
      · rw [f4] at hb; exact absurd hb (q3 i r hi2 hn)
      · exact hs.inj i j r r' hi2 hj2 hn hn' hb
  · rcases hinv i r hi with ⟨f1, f2⟩ | ⟨hii, hi2⟩
    · rw [f2]; exact ⟨q2, hlt, q4⟩
    · exact hs.own i r hi2 hn
  · rw [Place.with_other _ _ (by omega)]
    exact h3 i hi
/-- The map is taken out of the objects; an iterator is made. -/
theorem Kept.enter {idm t0 : Nat} {kd : MKind} {m : List (MKey × AV)} {s2 : St} (hs : StC GT B s a w) (ht : sget s.slots t0 = .mref idm) (hob : s.obj idm = .mp kd m) (hraw : ∀ x, x ∈ m → ∃ v, x.2 = .raw v) :
    ∃ (bm : Nat) (es : Array MapEntry), a.eval (.tmp t0) = .map (some bm) ∧ w.heap[bm]? = some (.map es es.size) ∧ bm < w.heap.size ∧ MapIs es m ∧ (∀ x, x ∈ m → x.1.kind = kd) ∧ (m.map (·.1)).Nodup ∧
      ∀ s2 : St, (⟨sset s.slots t0 (.raw (.map (some bm))), s.objs⟩ : St).le s2 → GT.given ≤ s2.objs.length → s2.obj idm = .dead → idm < s2.objs.length →
        Kept GT B [(w.heap.size, Go.Obj.mapIter (some bm) es.size #[] es.size), (bm, Go.Obj.map es es.size)] s2 a (w.alloc (.mapIter (some bm) es.size #[] es.size)) := by
  obtain ⟨p, I, hsim, h1, h2, h3⟩ := hs
  have hc := hsim.ev (.tmp t0)
  have hev : ev GT s (.tmp t0) = .mref idm := by
    show s.slots.getD t0 .top = _
    rw [sget_eq]; exact ht
  rw [hev] at hc
  generalize hv : a.eval (.tmp t0) = v at hc
  cases hc with
  | @mref _ _ r hp hn =>
    have ho := hsim.obj idm
    rw [hob] at ho
    obtain ⟨r2, es, hr, hn2, hh, hl, hkd, hnd, hen⟩ := ho
    rw [hp] at hr
    injection hr with hr
    subst hr
    have hlt := (hsim.own idm r hp hn).2.1
    refine ⟨r.blk, es, rfl, hh, hlt, ⟨hl, fun i e key x he hx => ?_⟩, hkd, hnd, fun s2 hle hgv hd hid => ?_⟩
    · obtain ⟨g1, g2, g3⟩ := hen i e key x he hx
      obtain ⟨u, hu⟩ := hraw _ (List.mem_of_getElem? hx)
      simp only at hu
      subst hu
      exact ⟨g1, g2, by rw [conc_raw g3]⟩
    · have hslot : Sim GT B.w0 B.G p I ⟨sset s.slots t0 (.raw (.map (some r.blk))), s.objs⟩ a w := by
        refine { hsim with size := by rw [← sset_eq]; simpa using hsim.size, slot := fun i v x e e' => ?_, obj := hsim.obj, given := hsim.given }
        rw [← sset_eq, List.getElem?_set] at e'
        split at e'
        · rename_i hti
          subst hti
          split at e'
          · injection e' with e'
            subst e'
            have : v = .map (some r.blk) := by
              rw [← hv]
              simp only [Act.eval, Array.getD_eq_getD_getElem?, e]
              rfl
            rw [this]; exact .raw
          · cases e'
        · exact hsim.slot i v x e e'
      have hs2 := Sim.le hslot hle hgv
      have hth : ∀ i x, p.those s2 i = some x → p i = some x ∧ i ≠ idm := fun i x hi => by
        simp only [Place.those] at hi
        split at hi
        · cases hi
        · rename_i hne
          exact ⟨hi, by rintro rfl; rw [hd] at hne; exact hne rfl⟩
      have hsz := hsim.frame.size
      have hnI : ¬ I r.blk := (hsim.own idm r hp hn).2.2
      have hfresh : ¬ I w.heap.size := fun h => by have := hsim.imm _ h; omega
      have hpl : ∀ i x, p.those s2 i = some x → x.nul = false → x.blk ≠ w.heap.size := fun i x hi hx => by
        have := (hsim.own i x (hth i x hi).1 hx).2.1; omega
      have hal : ∀ b, b < w.heap.size → (w.alloc (.mapIter (some r.blk) es.size #[] es.size)).heap[b]? = w.heap[b]? := fun b hb => by
        show (w.heap.push _)[b]? = _
        rw [Array.getElem?_push, if_neg (by omega)]
      refine ⟨_, I, hs2.turn (w' := w.alloc (.mapIter (some r.blk) es.size #[] es.size)) (r := w.heap.size) rfl rfl rfl (by show _ ≤ (w.heap.push _).size; simp) (fun b hb _ => hal b hb) hfresh hpl (.inl hsz), h1, h2, fun i hi => ?_, fun x hx => ?_⟩
      · simp only [Place.those]
        split
        · exact .inr rfl
        · exact h3 i hi
      · simp only [List.mem_cons, List.not_mem_nil, or_false] at hx
        rcases hx with rfl | rfl
        · exact ⟨by show (w.heap.push _)[w.heap.size]? = _; simp, .inl hsz, hpl, hfresh⟩
        · refine ⟨(hal _ hlt).trans hh, (hsim.own idm r hp hn).1, fun i x hi hx e => ?_, hnI⟩
          obtain ⟨g1, g2⟩ := hth i x hi
          exact g2 (hsim.inj i idm x r g1 hp hx hn e)
end
/-- Two operations, then three, one after the other. -/
theorem steps_two {P : Program} {b : Frame} {a : Act} {k : List Item} {cs : List Frame} {w w1 w2 : World} {id : Nat} {o1 o2 : Oper} {v1 v2 : Value} (g1 : o1.guard = none) (g2 : o2.guard = none) (h1 : (execOp a.eval o1).run P w = .ok (.value v1) w1)
    (h2 : (execOp (a.put o1.dst v1).eval o2).run P w1 = .ok (.value v2) w2) : Steps P (lone (b.at a (.code (.region id #[o1, o2] false) :: k)) cs w) (lone (b.at ((a.put o1.dst v1).put o2.dst v2) k) cs w2) := by
  have hw : wpOps P #[o1, o2] (fun e a' w' => e = .normal ∧ a' = (a.put o1.dst v1).put o2.dst v2 ∧ w' = w2) (List.range 2) a w := by
    refine wpOps_cons (o := o1) rfl ?_
    rw [if_pos (by simp [Region.wanted, g1])]
    unfold Oper.wp
    rw [h1, Oper.upon_value]
    refine wpOps_cons (o := o2) rfl ?_
    rw [if_pos (by simp [Region.wanted, g2])]
    unfold Oper.wp
    rw [h2, Oper.upon_value]
    exact ⟨rfl, rfl, rfl⟩
  obtain ⟨e, a', w', ⟨rfl, rfl, rfl⟩, harr⟩ := wp_ops _ a w hw b k cs
  exact .head step_region harr
theorem steps_three {P : Program} {b : Frame} {a : Act} {k : List Item} {cs : List Frame} {w w1 : World} {id : Nat} {o1 o2 o3 : Oper} {v1 v2 v3 : Value} (g1 : o1.guard = none) (g2 : o2.guard = none) (g3 : o3.guard = none) (h1 : (execOp a.eval o1).run P w = .ok (.value v1) w1)
    (h2 : (execOp (a.put o1.dst v1).eval o2).run P w1 = .ok (.value v2) w1) (h3 : (execOp ((a.put o1.dst v1).put o2.dst v2).eval o3).run P w1 = .ok (.value v3) w1) :
    Steps P (lone (b.at a (.code (.region id #[o1, o2, o3] false) :: k)) cs w) (lone (b.at (((a.put o1.dst v1).put o2.dst v2).put o3.dst v3) k) cs w1) := by
  have hw : wpOps P #[o1, o2, o3] (fun e a' w' => e = .normal ∧ a' = ((a.put o1.dst v1).put o2.dst v2).put o3.dst v3 ∧ w' = w1) (List.range 3) a w := by
    refine wpOps_cons (o := o1) rfl ?_
    rw [if_pos (by simp [Region.wanted, g1])]
    unfold Oper.wp
    rw [h1, Oper.upon_value]
    refine wpOps_cons (o := o2) rfl ?_
    rw [if_pos (by simp [Region.wanted, g2])]
    unfold Oper.wp
    rw [h2, Oper.upon_value]
    refine wpOps_cons (o := o3) rfl ?_
    rw [if_pos (by simp [Region.wanted, g3])]
    unfold Oper.wp
    rw [h3, Oper.upon_value]
    exact ⟨rfl, rfl, rfl⟩
  obtain ⟨e, a', w', ⟨rfl, rfl, rfl⟩, harr⟩ := wp_ops _ a w hw b k cs
  exact .head step_region harr
theorem eval_put_same {a : Act} {d : Nat} {v : Value} (h : d < a.tmps.size) : (a.put (some d) v).eval (.tmp d) = v := by
  simp [Act.put, Act.eval, Array.getD_eq_getD_getElem?, h]
theorem eval_put_ne {a : Act} {d t : Nat} {v : Value} (h : d ≠ t) : (a.put (some d) v).eval (.tmp t) = a.eval (.tmp t) := by
  simp [Act.put, Act.eval, Array.getD_eq_getD_getElem?, Array.getElem?_setIfInBounds, h]
theorem put_size {a : Act} {d : Option Tmp} {v : Value} : (a.put d v).tmps.size = a.tmps.size := by
  cases d <;> simp [Act.put]
section
variable {P : Program} {GT : Ctx} {k : List Item} {Q : Exit → St → Prop}
theorem Kept.size {B : Base} {L : List (Nat × Go.Obj)} {s : St} {a : Act} {w : World} (h : Kept GT B L s a w) : a.tmps.size = s.slots.length := by
  obtain ⟨p, I, hs, _⟩ := h; exact hs.size
theorem Kept.raw {B : Base} {L : List (Nat × Go.Obj)} {s : St} {a : Act} {w : World} (h : Kept GT B L s a w) {t : Nat} {v : Value} (ht : sget s.slots t = .raw v) : a.eval (.tmp t) = v ∧ a.tmps[t]? = some v := by
  obtain ⟨p, I, hs, _⟩ := h
  have hc := hs.ev (.tmp t)
  have hev : ev GT s (.tmp t) = .raw v := by
    show s.slots.getD t .top = _
    rw [sget_eq]; exact ht
  rw [hev] at hc
  have h1 := hc.raw_eq
  refine ⟨h1, ?_⟩
  have hlt : t < s.slots.length := by
    rcases Nat.lt_or_ge t s.slots.length with h | h
    · exact h
    · rw [← sget_eq, List.getD_eq_getElem?_getD, List.getElem?_eq_none h] at ht; cases ht
  rw [← hs.size] at hlt
  simp only [Act.eval, Array.getD_eq_getD_getElem?, Array.getElem?_eq_getElem hlt, Option.getD_some] at h1
  rw [Array.getElem?_eq_getElem hlt, h1]
theorem sset_sset {l : List AV} {i : Nat} {x y : AV} : sset (sset l i x) i y = sset l i y := by
  rw [← sset_eq, ← sset_eq, ← sset_eq, List.set_set]
theorem Kept.putRaw {B : Base} {L : List (Nat × Go.Obj)} {sl : List AV} {os : List Obj} {a : Act} {w : World} (h : Kept GT B L ⟨sl, os⟩ a w) (d : Nat) (v : Value) : Kept GT B L ⟨sset sl d (.raw v), os⟩ (a.put (some d) v) w := by
  have := h.put (some d) (v := v)
  simp only [St.put, sset_eq] at this
  exact this
theorem Kept.putTop {B : Base} {L : List (Nat × Go.Obj)} {sl : List AV} {os : List Obj} {a : Act} {w : World} (h : Kept GT B L ⟨sl, os⟩ a w) (d : Nat) (v : Value) : Kept GT B L ⟨sset sl d .top, os⟩ (a.put (some d) v) w := by
  have := (h.putRaw d v).sem (SemLe.slot d (VLe.top _))
  rw [sset_sset] at this
  exact this
/-- A loop over a map whose values are known: whichever entry comes next. -/
theorem J_mapLoop {t0 t1 t2 tn tb te tk tv idm : Nat} {idR idN idE B0 B1 : Nat} {T kt et y1 y2 y3 y4 y5 y6 y7 : TypeId} {q1 q2 q3 q4 q5 q6 q7 : String} {e1 e2 e3 e4 e5 e6 e7 : Array Edge} {body : Code} {sl : List AV} {os : List Obj} {kd : MKind} {m : List (MKey × AV)}
    (hT : P.underlying T = some (.map kt et)) (ht0 : sget sl t0 = .mref idm) (hob : oget os idm = .mp kd m) (hraw : ∀ x, x ∈ m → ∃ v, x.2 = .raw v) (hgid : GT.given ≤ idm) (hd : nodupB [t0, t1, t2, tn, tb, te, tk, tv] = true) (l1 : t1 < sl.length) (l2 : t2 < sl.length)
    (S : Nat → Nat → List Nat → St)
    (hle : ∀ r bm, (⟨sset (sset (sset sl t1 (.raw (.map (some bm)))) t2 (.raw (.pointer (some ⟨r, 0, none⟩)))) t0 (.raw (.map (some bm))), os⟩ : St).le (S r bm []))
    (hS : ∀ r bm D, sget (S r bm D).slots t2 = .raw (.pointer (some ⟨r, 0, none⟩)) ∧ sget (S r bm D).slots t0 = .raw (.map (some bm)) ∧ (S r bm D).obj idm = .dead ∧ GT.given ≤ (S r bm D).objs.length ∧ idm < (S r bm D).objs.length ∧
      tn < (S r bm D).slots.length ∧ tb < (S r bm D).slots.length ∧ te < (S r bm D).slots.length ∧ tk < (S r bm D).slots.length ∧ tv < (S r bm D).slots.length)
    (hbody : ∀ r bm D i key x, m[i]? = some (key, x) → i ∉ D → J P GT [.code body] ⟨sset (sset (sset (sset (sset (S r bm D).slots tn .top) tb (.raw (.bool true))) te .top) tk (.raw key.val)) tv (.raw key.val), (S r bm D).objs⟩ (fun e s' => e = .normal ∧ SemLe GT s' (S r bm (D ++ [i]))))
    (hend : ∀ r bm D, (∀ i, i < m.length → i ∈ D) → J P GT k ⟨sset (sset (sset (S r bm D).slots tn .top) tb (.raw (.bool false))) t0 (.mref idm), (S r bm D).objs.set idm (.mp kd m)⟩ Q) :
    J P GT (.code (.seq (.region idR #[⟨some t1, .move (.tmp t0), y1, q1, e1, none⟩, ⟨some t2, .range T (.tmp t1), y2, q2, e2, none⟩] false)
      (.block B0 (.loop (.seq (.region idN #[⟨some tn, .next (.tmp t2) false, y3, q3, e3, none⟩, ⟨some tb, .extract (.tmp tn) 0, y4, q4, e4, none⟩] false)
        (.seq (.cond (.tmp tb) .skip (.exit B0)) (.block B1 (.seq (.region idE #[⟨some te, .entry (.tmp t2), y5, q5, e5, none⟩, ⟨some tk, .extract (.tmp te) 0, y6, q6, e6, none⟩, ⟨some tv, .assign (.tmp tk), y7, q7, e7, none⟩] false) body))))))) :: k) ⟨sl, os⟩ Q := by
  simp only [nodupB, Bool.and_eq_true, Bool.not_eq_true', List.contains_eq_mem, List.mem_cons, List.not_mem_nil, or_false, decide_eq_false_iff_not, not_or, and_true] at hd
  obtain ⟨⟨d01, d02, d0n, d0b, d0e, d0k, d0v⟩, ⟨d12, d1n, d1b, d1e, d1k, d1v⟩, ⟨d2n, d2b, d2e, d2k, d2v⟩, ⟨dnb, dne, dnk, dnv⟩, ⟨dbe, dbk, dbv⟩, ⟨dek, dev⟩, dkv, _⟩ := hd
  intro B a w hs b k0 cs
  obtain ⟨bm, es, hev, hh, hlt, hmi, hkd, hnd, _⟩ := Kept.enter hs ht0 (by rw [obj_eq]; exact hob) hraw (s2 := ⟨[], []⟩)
  have hsz : a.tmps.size = sl.length := by obtain ⟨p, I, h, _⟩ := hs; exact h.size
  -- the frame behind the first region
  have hs2 := (hs.put (some t1) (v := .map (some bm))).put (some t2) (v := .pointer (some ⟨w.heap.size, 0, none⟩))
  have esl : ((⟨sl, os⟩ : St).put (some t1) (.raw (.map (some bm)))).put (some t2) (.raw (.pointer (some ⟨w.heap.size, 0, none⟩))) = ⟨sset (sset sl t1 (.raw (.map (some bm)))) t2 (.raw (.pointer (some ⟨w.heap.size, 0, none⟩))), os⟩ := by
    simp only [St.put, sset_eq]
  rw [esl] at hs2
  have gs : ∀ (l : List AV) (i j : Nat) (v : AV), i ≠ j → sget (sset l i v) j = sget l j := fun l i j v hij => by
    rw [← sget_eq, ← sget_eq, ← sset_eq, List.getD_eq_getElem?_getD, List.getD_eq_getElem?_getD, List.getElem?_set_ne hij]
  obtain ⟨bm2, es2, hev2, hh2, _, hmi2, _, _, hnext⟩ := Kept.enter hs2 (by rw [gs _ _ _ _ (Ne.symm d02), gs _ _ _ _ (Ne.symm d01)]; exact ht0) (by rw [obj_eq]; exact hob) hraw (s2 := ⟨[], []⟩)
  rw [eval_put_ne (Ne.symm d02), eval_put_ne (Ne.symm d01), hev] at hev2
  injection hev2 with hev2
  injection hev2 with hev2
  subst hev2
  rw [hh] at hh2
  injection hh2 with hh2
  injection hh2 with hh2 _
  subst hh2
  have hS0 := hS w.heap.size bm []
  have hK0 := hnext (S w.heap.size bm []) (hle _ _) hS0.2.2.2.1 hS0.2.2.1 hS0.2.2.2.2.1
  have hst0 := fun (kk : List Item) => steps_two (P := P) (b := b) (a := a) (k := kk) (cs := cs) (w := w) (w1 := w) (w2 := w.alloc (.mapIter (some bm) es.size #[] es.size)) (id := idR)
    (o1 := ⟨some t1, .move (.tmp t0), y1, q1, e1, none⟩) (o2 := ⟨some t2, .range T (.tmp t1), y2, q2, e2, none⟩) (v1 := .map (some bm)) (v2 := .pointer (some ⟨w.heap.size, 0, none⟩)) rfl rfl (by simp [execOp, hev])
    (by
      have h1 : (a.put (some t1) (.map (some bm))).eval (.tmp t1) = .map (some bm) := eval_put_same (by omega)
      simp [execOp, h1, run_range_map w T kt et bm es es.size hT hh, Result.andThen])
  generalize hr : w.heap.size = r at *
  have hrb : bm ≠ r := by omega
  have hold : ∀ x ∈ es.toList, x.born < es.size := fun x hx => by
    obtain ⟨i, hi⟩ := List.getElem?_of_mem hx
    rw [Array.getElem?_toList] at hi
    rw [hmi.born hi]
    exact (Array.getElem?_eq_some_iff.1 hi).1
  have key : ∀ n (seen : Array Nat) (a : Act) (w : World), (leftOf es seen).size = n → Kept GT B [(r, Go.Obj.mapIter (some bm) es.size seen es.size), (bm, Go.Obj.map es es.size)] (S r bm seen.toList) a w →
      ∃ e a' w' s', Q e s' ∧ StC GT B s' a' w' ∧ Arrives P (lone (b.at a (.code (.seq (.region idN #[⟨some tn, .next (.tmp t2) false, y3, q3, e3, none⟩, ⟨some tb, .extract (.tmp tn) 0, y4, q4, e4, none⟩] false)
        (.seq (.cond (.tmp tb) .skip (.exit B0)) (.block B1 (.seq (.region idE #[⟨some te, .entry (.tmp t2), y5, q5, e5, none⟩, ⟨some tk, .extract (.tmp te) 0, y6, q6, e6, none⟩, ⟨some tv, .assign (.tmp tk), y7, q7, e7, none⟩] false) body)))) :: .inLoop (.seq (.region idN #[⟨some tn, .next (.tmp t2) false, y3, q3, e3, none⟩, ⟨some tb, .extract (.tmp tn) 0, y4, q4, e4, none⟩] false)
        (.seq (.cond (.tmp tb) .skip (.exit B0)) (.block B1 (.seq (.region idE #[⟨some te, .entry (.tmp t2), y5, q5, e5, none⟩, ⟨some tk, .extract (.tmp te) 0, y6, q6, e6, none⟩, ⟨some tv, .assign (.tmp tk), y7, q7, e7, none⟩] false) body)))) :: .inBlock B0 :: (k ++ k0))) cs w) b k0 cs e a' w' := by
    generalize hc : (Code.seq (.region idN #[⟨some tn, .next (.tmp t2) false, y3, q3, e3, none⟩, ⟨some tb, .extract (.tmp tn) 0, y4, q4, e4, none⟩] false)
        (.seq (.cond (.tmp tb) .skip (.exit B0)) (.block B1 (.seq (.region idE #[⟨some te, .entry (.tmp t2), y5, q5, e5, none⟩, ⟨some tk, .extract (.tmp te) 0, y6, q6, e6, none⟩, ⟨some tv, .assign (.tmp tk), y7, q7, e7, none⟩] false) body)))) = c
    intro n
    induction n using Nat.strongRecOn with
    | _ n ih =>
      intro seen a w hn hK
      obtain ⟨s1, s2, s3, s4, s5, ln, lb, lle, lk, lv⟩ := hS r bm seen.toList
      have hsz := hK.size
      have hit := (hK.raw s1).1
      have hr1 : w.heap[r]? = some (Go.Obj.mapIter (some bm) es.size seen es.size) := hK.at List.mem_cons_self
      have hb1 : w.heap[bm]? = some (Go.Obj.map es es.size) := hK.at (List.mem_cons_of_mem _ List.mem_cons_self)
      rcases run_next_at (P := P) w y3 r bm es.size es.size seen es es.size hr1 hb1 hold (Nat.le_refl _) with ⟨h0, hrun⟩ | ⟨en, hen, w1, hal, hrun⟩
      · have hK3 := (hK.putTop tn (.tuple #[.bool false])).putRaw tb (.bool false)
        have heb : ((a.put (some tn) (.tuple #[.bool false])).put (some tb) (.bool false)).eval (.tmp tb) = .bool false := eval_put_same (by rw [put_size]; omega)
        have hst := hK3.back (idm := idm) (t0 := t0) (kd := kd) (m := m) (es := es) (bm := bm) (by simp) hmi hkd hnd s3 s5 hgid (hK3.raw (by rw [gs _ _ _ _ (Ne.symm d0b), gs _ _ _ _ (Ne.symm d0n)]; exact s2)).2
        have hall : ∀ i, i < m.length → i ∈ seen.toList := fun i hi => by
          have hi' : i < es.size := by rw [← hmi.len]; exact hi
          have h1 := all_seen es seen h0 es[i] (by simp)
          rw [hmi.born (Array.getElem?_eq_getElem hi')] at h1
          simpa using h1
        obtain ⟨e, a', w', s', q, hs', harr⟩ := hend r bm seen.toList hall B _ _ hst b k0 cs
        have st1 := steps_two (P := P) (b := b) (a := a) (cs := cs) (w := w) (w1 := w) (w2 := w) (id := idN) (k := .code (.seq (.cond (.tmp tb) .skip (.exit B0)) (.block B1 (.seq (.region idE #[⟨some te, .entry (.tmp t2), y5, q5, e5, none⟩, ⟨some tk, .extract (.tmp te) 0, y6, q6, e6, none⟩, ⟨some tv, .assign (.tmp tk), y7, q7, e7, none⟩] false) body))) :: .inLoop c :: .inBlock B0 :: (k ++ k0))
          (o1 := ⟨some tn, .next (.tmp t2) false, y3, q3, e3, none⟩) (o2 := ⟨some tb, .extract (.tmp tn) 0, y4, q4, e4, none⟩) (v1 := .tuple #[.bool false]) (v2 := .bool false) rfl rfl (by simp [execOp, hit, hrun, Result.andThen])
          (by
            have h1 : (a.put (some tn) (.tuple #[.bool false])).eval (.tmp tn) = .tuple #[.bool false] := eval_put_same (by omega)
            simp [execOp, h1, Instr.extract])
        refine ⟨e, a', w', s', q, hs', .of_steps (.trans (.head ?_ st1) (.head step_seq (.head (step_cond (t := false) heb) (.one (step_exit ?_))))) harr⟩
        · rw [← hc]; exact step_seq
        · simp [exitTo]
      · obtain ⟨hem, hes⟩ := mem_left hen
        obtain ⟨i, hi⟩ := List.getElem?_of_mem hem
        rw [Array.getElem?_toList] at hi
        have hbi := hmi.born hi
        have hil : i < m.length := by rw [hmi.len]; exact (Array.getElem?_eq_some_iff.1 hi).1
        have hm : m[i]? = some (m[i].1, m[i].2) := List.getElem?_eq_getElem hil
        have hkv := (hmi.ent i en _ _ hi hm).1
        have hni : i ∉ seen.toList := fun h => by
          rw [hbi] at hes
          have : seen.contains i = true := by simpa using h
          rw [this] at hes; cases hes
        have hK1 : Kept GT B [(r, Go.Obj.mapIter (some bm) es.size seen es.size), (bm, Go.Obj.map es es.size)] (S r bm seen.toList) a w1 := by
          rcases hal with rfl | rfl
          · exact hK
          · exact hK.drew
        have hKt := hK1.turn (o' := Go.Obj.mapIter (some bm) es.size (seen.push en.born) es.size) (fun x hx => by simp only [List.mem_cons, List.not_mem_nil, or_false] at hx; rw [hx]; exact hrb)
        generalize hw2 : setBlock w1 r (Go.Obj.mapIter (some bm) es.size (seen.push en.born) es.size) = w2 at *
        have hr2 : w2.heap[r]? = some (Go.Obj.mapIter (some bm) es.size (seen.push en.born) es.size) := hKt.at List.mem_cons_self
        have hb2 : w2.heap[bm]? = some (Go.Obj.map es es.size) := hKt.at (List.mem_cons_of_mem _ List.mem_cons_self)
        have hK4 := ((((hKt.putTop tn (.tuple #[.bool true, en.key, en.val])).putRaw tb (.bool true)).putTop te (.tuple #[en.key, en.val])).putRaw tk en.key).putRaw tv en.key
        rw [hkv] at hK4
        obtain ⟨e', a', w', s', ⟨he, hle'⟩, hK5, harr⟩ := hK4.run (hbody r bm seen.toList i _ _ hm hni) b (.inBlock B1 :: .inLoop c :: .inBlock B0 :: (k ++ k0)) cs
        subst he
        have hK6 := hK5.sem hle'
        have hpush : seen.toList ++ [i] = (seen.push en.born).toList := by simp [hbi]
        rw [hpush] at hK6
        obtain ⟨e2, a3, w3, s3', q, hs', harr2⟩ := ih _ (by rw [← hn]; exact left_shrinks es seen en hen) (seen.push en.born) a' w' rfl hK6
        have hit2 : ((a.put (some tn) (.tuple #[.bool true, en.key, en.val])).put (some tb) (.bool true)).eval (.tmp t2) = .pointer (some ⟨r, 0, none⟩) := by
          rw [eval_put_ne (Ne.symm d2b), eval_put_ne (Ne.symm d2n)]; exact hit
        have heb : ((a.put (some tn) (.tuple #[.bool true, en.key, en.val])).put (some tb) (.bool true)).eval (.tmp tb) = .bool true := eval_put_same (by rw [put_size]; omega)
        have st1 := steps_two (P := P) (b := b) (a := a) (cs := cs) (w := w) (w1 := w2) (w2 := w2) (id := idN) (k := .code (.seq (.cond (.tmp tb) .skip (.exit B0)) (.block B1 (.seq (.region idE #[⟨some te, .entry (.tmp t2), y5, q5, e5, none⟩, ⟨some tk, .extract (.tmp te) 0, y6, q6, e6, none⟩, ⟨some tv, .assign (.tmp tk), y7, q7, e7, none⟩] false) body))) :: .inLoop c :: .inBlock B0 :: (k ++ k0))
          (o1 := ⟨some tn, .next (.tmp t2) false, y3, q3, e3, none⟩) (o2 := ⟨some tb, .extract (.tmp tn) 0, y4, q4, e4, none⟩) (v1 := .tuple #[.bool true, en.key, en.val]) (v2 := .bool true) rfl rfl (by simp [execOp, hit, hrun, Result.andThen])
          (by
            have h1 : (a.put (some tn) (.tuple #[.bool true, en.key, en.val])).eval (.tmp tn) = .tuple #[.bool true, en.key, en.val] := eval_put_same (by omega)
            simp [execOp, h1, Instr.extract])
        have st2 := steps_three (P := P) (b := b) (a := (a.put (some tn) (.tuple #[.bool true, en.key, en.val])).put (some tb) (.bool true)) (cs := cs) (w := w2) (w1 := w2) (id := idE) (k := .code body :: .inBlock B1 :: .inLoop c :: .inBlock B0 :: (k ++ k0))
          (o1 := ⟨some te, .entry (.tmp t2), y5, q5, e5, none⟩) (o2 := ⟨some tk, .extract (.tmp te) 0, y6, q6, e6, none⟩) (o3 := ⟨some tv, .assign (.tmp tk), y7, q7, e7, none⟩) (v1 := .tuple #[en.key, en.val]) (v2 := en.key) (v3 := en.key) rfl rfl rfl
          (by simp [execOp, hit2, run_entry_at w2 r bm es.size seen es es.size en hr2 hb2 hem hmi.nodup, Result.andThen])
          (by
            have h1 := eval_put_same (a := (a.put (some tn) (.tuple #[.bool true, en.key, en.val])).put (some tb) (.bool true)) (d := te) (v := .tuple #[en.key, en.val]) (by rw [put_size, put_size]; omega)
            simp [execOp, h1, Instr.extract])
          (by
            have h1 := eval_put_same (a := ((a.put (some tn) (.tuple #[.bool true, en.key, en.val])).put (some tb) (.bool true)).put (some te) (.tuple #[en.key, en.val])) (d := tk) (v := en.key) (by rw [put_size, put_size, put_size]; omega)
            simp [execOp, h1])
        rw [← hkv] at harr
        have stA : Steps P (lone (b.at a (.code c :: .inLoop c :: .inBlock B0 :: (k ++ k0))) cs w) (lone (b.at a' (.code c :: .inLoop c :: .inBlock B0 :: (k ++ k0))) cs w') := by
          refine .trans (.head ?_ st1) (.trans (.head step_seq (.head (step_cond (t := true) heb) (.head step_skip (.head step_block (.head step_seq st2))))) (.trans harr (.head step_inBlock (.one step_inLoop))))
          rw [← hc]; exact step_seq
        exact ⟨e2, a3, w3, s3', q, hs', .of_steps stA harr2⟩
  obtain ⟨e, a', w', s', q, hs', harr⟩ := key _ #[] _ _ rfl hK0
  exact ⟨e, a', w', s', q, hs', .of_steps (.head step_seq (.trans (hst0 _) (.head step_block (.one step_loop)))) harr⟩
/-- The same, with what is forgotten of the slots, what is known of some, and the objects. -/
theorem J_mapFor {t0 t1 t2 tn tb te tk tv : Nat} (idm : Nat) {idR idN idE B0 B1 : Nat} {T kt et y1 y2 y3 y4 y5 y6 y7 : TypeId} {q1 q2 q3 q4 q5 q6 q7 : String} {e1 e2 e3 e4 e5 e6 e7 : Array Edge} {body : Code} {sl : List AV} {os : List Obj} {kd : MKind} {m : List (MKey × AV)}
    (hT : P.underlying T = some (.map kt et)) (ht0 : sget sl t0 = .mref idm) (hob : oget os idm = .mp kd m) (hraw : ∀ x, x ∈ m → ∃ v, x.2 = .raw v) (hgid : GT.given ≤ idm) (hd : nodupB [t0, t1, t2, tn, tb, te, tk, tv] = true) (l1 : t1 < sl.length) (l2 : t2 < sl.length)
    (forget : List Nat) (vars : Nat → Nat → List Nat → List (Nat × AV)) (objs : List Nat → List Obj)
    (hle : ∀ r bm, (⟨sset (sset (sset sl t1 (.raw (.map (some bm)))) t2 (.raw (.pointer (some ⟨r, 0, none⟩)))) t0 (.raw (.map (some bm))), os⟩ : St).le ⟨headS forget (vars r bm []) sl, objs []⟩)
    (hS : ∀ r bm D, sget (headS forget (vars r bm D) sl) t2 = .raw (.pointer (some ⟨r, 0, none⟩)) ∧ sget (headS forget (vars r bm D) sl) t0 = .raw (.map (some bm)) ∧ oget (objs D) idm = .dead ∧ GT.given ≤ (objs D).length ∧ idm < (objs D).length ∧
      tn < (headS forget (vars r bm D) sl).length ∧ tb < (headS forget (vars r bm D) sl).length ∧ te < (headS forget (vars r bm D) sl).length ∧ tk < (headS forget (vars r bm D) sl).length ∧ tv < (headS forget (vars r bm D) sl).length)
    (hbody : ∀ r bm D i key x, m[i]? = some (key, x) → i ∉ D → J P GT [.code body] ⟨sset (sset (sset (sset (sset (headS forget (vars r bm D) sl) tn .top) tb (.raw (.bool true))) te .top) tk (.raw key.val)) tv (.raw key.val), objs D⟩ (fun e s' => e = .normal ∧ SemLe GT s' ⟨headS forget (vars r bm (D ++ [i])) sl, objs (D ++ [i])⟩))
    (hend : ∀ r bm D, (∀ i, i < m.length → i ∈ D) → J P GT k ⟨sset (sset (sset (headS forget (vars r bm D) sl) tn .top) tb (.raw (.bool false))) t0 (.mref idm), (objs D).set idm (.mp kd m)⟩ Q) :
    J P GT (.code (.seq (.region idR #[⟨some t1, .move (.tmp t0), y1, q1, e1, none⟩, ⟨some t2, .range T (.tmp t1), y2, q2, e2, none⟩] false)
      (.block B0 (.loop (.seq (.region idN #[⟨some tn, .next (.tmp t2) false, y3, q3, e3, none⟩, ⟨some tb, .extract (.tmp tn) 0, y4, q4, e4, none⟩] false)
        (.seq (.cond (.tmp tb) .skip (.exit B0)) (.block B1 (.seq (.region idE #[⟨some te, .entry (.tmp t2), y5, q5, e5, none⟩, ⟨some tk, .extract (.tmp te) 0, y6, q6, e6, none⟩, ⟨some tv, .assign (.tmp tk), y7, q7, e7, none⟩] false) body))))))) :: k) ⟨sl, os⟩ Q :=
  J_mapLoop hT ht0 hob hraw hgid hd l1 l2 (fun r bm D => ⟨headS forget (vars r bm D) sl, objs D⟩) hle (fun r bm D => by
    obtain ⟨g1, g2, g3, g4, g5, g6⟩ := hS r bm D
    exact ⟨g1, g2, by rw [obj_eq]; exact g3, g4, g5, g6⟩) hbody hend
end
end Go.Proofs.YtfkiomkfoabnhaaDoor.Abs
