/- OverlapReach, walked: it returns true. -/
import Derived.Test.YtfkiomkfoabnhaaDoorGB
import Derived.Test.YtfkiomkfoabnhaaDoorFE
import Derived.Test.YtfkiomkfoabnhaaDoorGX
import Derived.Test.YtfkiomkfoabnhaaDoorGRC
import Derived.Test.YtfkiomkfoabnhaaDoorAbsZ
import Derived.Test.YtfkiomkfoabnhaaDoorZNear
namespace Go.Proofs.YtfkiomkfoabnhaaDoor.Abs
set_option linter.unusedSimpArgs false
set_option linter.unusedVariables false
set_option maxRecDepth 100000
open Go Go.RowKit

theorem smallR {n : Net} {x : Doc} (h : x.small n) : x.sized :=
  ⟨by have := h.zl; omega, by have := h.lk.len; omega, by have := h.cl; omega, by have := h.il; omega, by have := h.hl; omega⟩
theorem regD_rising {n : Net} {x : Doc} : rising (regD n x) n.nodes.length = true := by
  unfold regD regL trues
  have := rising_map (u := (regB n x.zone (gapsOf n x.locks)).length) (p := fun i => (regB n x.zone (gapsOf n x.locks)).getD i false)
  rw [regB_len] at this ⊢
  exact this
theorem regD_nodup {n : Net} {x : Doc} : (regD n x).Nodup := by
  have := (rising_pair.1 (regD_rising (n := n) (x := x))).1
  exact this.imp fun h => by omega
theorem regD_chk {n : Net} {x : Doc} (h : docChk n x = 0) : zoneChk n (regD n x) = 0 := by
  obtain ⟨hn, _, hz, _, hl, _, _⟩ := docChk_zero h
  obtain ⟨_, hz0, hr⟩ := zoneChk_zero hz
  refine zoneChk_ok hn (fun e => ?_) regD_rising
  obtain ⟨v, hv⟩ := List.exists_mem_of_ne_nil _ hz0
  have hv2 := rising_mem hr hv
  have ev : ((v.toNat : Nat) : Int) = v := by omega
  have hb : ((v.toNat : Nat) : Int) ∈ x.zone := by rw [ev]; exact hv
  have hin : v ∈ regD n x := (regL_mem hn hr).2 ⟨hv2.1, .base hb⟩
  rw [e] at hin
  cases hin
theorem setMap_len {l : List Int} : (setMap l).length = l.length := by simp [setMap]
def hitB (ka kb : List Int) (i : Nat) : Bool := decide (i < ka.length ∧ ka.getD i 0 ∈ kb)
theorem hit_all {n : Net} {a b : Doc} {ka kb : List Int} (ha : ∀ v, v ∈ ka ↔ v ∈ regD n a) (hb : ∀ v, v ∈ kb ↔ v ∈ regD n b) {D : List Nat} (hD : ∀ i, i < (setMap ka).length → i ∈ D) : D.any (hitB ka kb) = meetB n a b := by
  unfold meetB
  rw [Bool.eq_iff_iff, List.any_eq_true, List.any_eq_true]
  constructor
  · rintro ⟨i, hi, h⟩
    obtain ⟨h1, h2⟩ := of_decide_eq_true h
    rw [getD_get h1] at h2
    exact ⟨ka[i], (ha _).1 (List.getElem_mem h1), decide_eq_true ((hb _).1 h2)⟩
  · rintro ⟨v, hv, h⟩
    have h := of_decide_eq_true h
    obtain ⟨i, hi, rfl⟩ := List.getElem_of_mem ((ha _).2 hv)
    exact ⟨i, hD i (by rw [setMap_len]; exact hi), decide_eq_true ⟨hi, by rw [getD_get hi]; exact (hb _).2 h⟩⟩
theorem beqB {b : Bool} : decide (b = b) = true := by simp
structure IRea where
  d : Dk
  a : Doc
  b : Doc
structure IRea.Ok (n : Net) (x : IRea) : Prop where
  hd : x.d.ok
  ha : x.a.small n
  hb : x.b.small n
structure IRem where
  ka : List Int
  kb : List Int
structure IRem.Ok (n : Net) (p q : Doc) (x : IRem) : Prop where
  a1 : x.ka.Nodup
  a2 : ∀ v, v ∈ x.ka ↔ v ∈ regD n p
  b1 : x.kb.Nodup
  b2 : ∀ v, v ∈ x.kb ↔ v ∈ regD n q
def sRea (n : Net) (L : Nat → Bool) (x : IRea) : St := ⟨[.top, .top, .top, .ref 0 0, .ref 1 0, .top, opt (L 6) (.ref 2 0), opt (L 7) (.ref 3 0), .top, .top, .top, .top, .top, .top, .top, .top, .top, .top, .top, .top, .top, .top, .top, .top, .top, .top, .top, .top, .top, .top, .top, .top, opt (L 0) (.ref 0 0), opt (L 1) (.agg [.lst 3 (n.nodes.map encNd), .lst 5 (n.devs.map encDv)]), opt (L 2) (.agg [.raw (.int .i64 x.a.num), .raw (.int .i64 x.a.kind), .raw (.int .i64 x.a.state), .raw (.int .i64 x.a.round), .lst 1 (x.a.zone.map encN), .raw (.int .i64 x.a.safe), .lst 3 (x.a.locks.map encLk), .raw (.string x.a.iss), .raw (.string x.a.hol), .raw (.int .i64 x.a.frm), .raw (.int .i64 x.a.til), .lst 1 (x.a.certs.map encN)]), opt (L 3) (.ref 0 0), opt (L 4) (.agg [.lst 3 (n.nodes.map encNd), .lst 5 (n.devs.map encDv)]), opt (L 5) (.agg [.raw (.int .i64 x.b.num), .raw (.int .i64 x.b.kind), .raw (.int .i64 x.b.state), .raw (.int .i64 x.b.round), .lst 1 (x.b.zone.map encN), .raw (.int .i64 x.b.safe), .lst 3 (x.b.locks.map encLk), .raw (.string x.b.iss), .raw (.string x.b.hol), .raw (.int .i64 x.b.frm), .raw (.int .i64 x.b.til), .lst 1 (x.b.certs.map encN)]), .top, .top, .top, .top, .top, .top, .top, .top, .top, .top, .top, .top, .top, .top, .top, .top, .top, .top, .top, .top, .top, .top, .top, .top, .top, .top, .top, .top, .top, .top, .top, .top, .top, .top, .top, .top, .top, .top, .top, .top, .top, .top, .top, .top, .top, .top, .top, .top, .top, .top, .top, .top, .top, .top, .top, .top, .top, .top, .top, .top, .top, .top, .top, .top, .top, .top], [.box (encDk x.d), .box [.lst 3 (n.nodes.map encNd), .lst 5 (n.devs.map encDv)], optO (L 6) (.box (cond (L 8) [.raw (.int .i64 x.a.num), .raw (.int .i64 x.a.kind), .raw (.int .i64 x.a.state), .raw (.int .i64 x.a.round), .lst 1 (x.a.zone.map encN), .raw (.int .i64 x.a.safe), .lst 3 (x.a.locks.map encLk), .raw (.string x.a.iss), .raw (.string x.a.hol), .raw (.int .i64 x.a.frm), .raw (.int .i64 x.a.til), .lst 1 (x.a.certs.map encN)] [.raw (.int .i64 0), .raw (.int .i64 0), .raw (.int .i64 0), .raw (.int .i64 0), .raw (.slice none 0 0), .raw (.int .i64 0), .raw (.slice none 0 0), .raw (.string ⟨#[]⟩), .raw (.string ⟨#[]⟩), .raw (.int .i64 0), .raw (.int .i64 0), .raw (.slice none 0 0)])), optO (L 7) (.box (cond (L 9) [.raw (.int .i64 x.b.num), .raw (.int .i64 x.b.kind), .raw (.int .i64 x.b.state), .raw (.int .i64 x.b.round), .lst 1 (x.b.zone.map encN), .raw (.int .i64 x.b.safe), .lst 3 (x.b.locks.map encLk), .raw (.string x.b.iss), .raw (.string x.b.hol), .raw (.int .i64 x.b.frm), .raw (.int .i64 x.b.til), .lst 1 (x.b.certs.map encN)] [.raw (.int .i64 0), .raw (.int .i64 0), .raw (.int .i64 0), .raw (.int .i64 0), .raw (.slice none 0 0), .raw (.int .i64 0), .raw (.slice none 0 0), .raw (.string ⟨#[]⟩), .raw (.string ⟨#[]⟩), .raw (.int .i64 0), .raw (.int .i64 0), .raw (.slice none 0 0)]))]⟩
theorem sRea_eq (n : Net) (L : Nat → Bool) (x : IRea) : sRea n L x = ⟨[.top, .top, .top, .ref 0 0, .ref 1 0, .top, opt (L 6) (.ref 2 0), opt (L 7) (.ref 3 0), .top, .top, .top, .top, .top, .top, .top, .top, .top, .top, .top, .top, .top, .top, .top, .top, .top, .top, .top, .top, .top, .top, .top, .top, opt (L 0) (.ref 0 0), opt (L 1) (.agg [.lst 3 (n.nodes.map encNd), .lst 5 (n.devs.map encDv)]), opt (L 2) (.agg [.raw (.int .i64 x.a.num), .raw (.int .i64 x.a.kind), .raw (.int .i64 x.a.state), .raw (.int .i64 x.a.round), .lst 1 (x.a.zone.map encN), .raw (.int .i64 x.a.safe), .lst 3 (x.a.locks.map encLk), .raw (.string x.a.iss), .raw (.string x.a.hol), .raw (.int .i64 x.a.frm), .raw (.int .i64 x.a.til), .lst 1 (x.a.certs.map encN)]), opt (L 3) (.ref 0 0), opt (L 4) (.agg [.lst 3 (n.nodes.map encNd), .lst 5 (n.devs.map encDv)]), opt (L 5) (.agg [.raw (.int .i64 x.b.num), .raw (.int .i64 x.b.kind), .raw (.int .i64 x.b.state), .raw (.int .i64 x.b.round), .lst 1 (x.b.zone.map encN), .raw (.int .i64 x.b.safe), .lst 3 (x.b.locks.map encLk), .raw (.string x.b.iss), .raw (.string x.b.hol), .raw (.int .i64 x.b.frm), .raw (.int .i64 x.b.til), .lst 1 (x.b.certs.map encN)]), .top, .top, .top, .top, .top, .top, .top, .top, .top, .top, .top, .top, .top, .top, .top, .top, .top, .top, .top, .top, .top, .top, .top, .top, .top, .top, .top, .top, .top, .top, .top, .top, .top, .top, .top, .top, .top, .top, .top, .top, .top, .top, .top, .top, .top, .top, .top, .top, .top, .top, .top, .top, .top, .top, .top, .top, .top, .top, .top, .top, .top, .top, .top, .top, .top, .top], [.box (encDk x.d), .box [.lst 3 (n.nodes.map encNd), .lst 5 (n.devs.map encDv)], optO (L 6) (.box (cond (L 8) [.raw (.int .i64 x.a.num), .raw (.int .i64 x.a.kind), .raw (.int .i64 x.a.state), .raw (.int .i64 x.a.round), .lst 1 (x.a.zone.map encN), .raw (.int .i64 x.a.safe), .lst 3 (x.a.locks.map encLk), .raw (.string x.a.iss), .raw (.string x.a.hol), .raw (.int .i64 x.a.frm), .raw (.int .i64 x.a.til), .lst 1 (x.a.certs.map encN)] [.raw (.int .i64 0), .raw (.int .i64 0), .raw (.int .i64 0), .raw (.int .i64 0), .raw (.slice none 0 0), .raw (.int .i64 0), .raw (.slice none 0 0), .raw (.string ⟨#[]⟩), .raw (.string ⟨#[]⟩), .raw (.int .i64 0), .raw (.int .i64 0), .raw (.slice none 0 0)])), optO (L 7) (.box (cond (L 9) [.raw (.int .i64 x.b.num), .raw (.int .i64 x.b.kind), .raw (.int .i64 x.b.state), .raw (.int .i64 x.b.round), .lst 1 (x.b.zone.map encN), .raw (.int .i64 x.b.safe), .lst 3 (x.b.locks.map encLk), .raw (.string x.b.iss), .raw (.string x.b.hol), .raw (.int .i64 x.b.frm), .raw (.int .i64 x.b.til), .lst 1 (x.b.certs.map encN)] [.raw (.int .i64 0), .raw (.int .i64 0), .raw (.int .i64 0), .raw (.int .i64 0), .raw (.slice none 0 0), .raw (.int .i64 0), .raw (.slice none 0 0), .raw (.string ⟨#[]⟩), .raw (.string ⟨#[]⟩), .raw (.int .i64 0), .raw (.int .i64 0), .raw (.slice none 0 0)]))]⟩ := rfl
def sRem (n : Net) (d : Dk) (p q : Doc) (L : Nat → Bool) (x : IRem) : St := ⟨[.top, .top, .top, .top, .cptr [.lst 3 (n.nodes.map encNd), .lst 5 (n.devs.map encDv)], .top, .ref 2 0, .ref 3 0, .clo (.func 26) [] [.cptr [.lst 3 (n.nodes.map encNd), .lst 5 (n.devs.map encDv)]], opt (L 6) (.mref 4), opt (L 7) (.mref 5), .top, .top, .top, .top, .top, .top, .top, .top, .top, .top, .top, .top, .top, .top, .top, .top, .top, .top, .top, .top, .top, .top, .top, .top, .top, .top, .top, .top, .top, .top, .top, .top, .top, .top, .top, .top, .top, .top, opt (L 0) (.clo (.func 26) [] [.cptr [.lst 3 (n.nodes.map encNd), .lst 5 (n.devs.map encDv)]]), opt (L 1) (.agg [.raw (.int .i64 p.num), .raw (.int .i64 p.kind), .raw (.int .i64 p.state), .raw (.int .i64 p.round), .lst 1 (p.zone.map encN), .raw (.int .i64 p.safe), .lst 3 (p.locks.map encLk), .raw (.string p.iss), .raw (.string p.hol), .raw (.int .i64 p.frm), .raw (.int .i64 p.til), .lst 1 (p.certs.map encN)]), opt (L 2) (.mref 4), opt (L 3) (.clo (.func 26) [] [.cptr [.lst 3 (n.nodes.map encNd), .lst 5 (n.devs.map encDv)]]), opt (L 4) (.agg [.raw (.int .i64 q.num), .raw (.int .i64 q.kind), .raw (.int .i64 q.state), .raw (.int .i64 q.round), .lst 1 (q.zone.map encN), .raw (.int .i64 q.safe), .lst 3 (q.locks.map encLk), .raw (.string q.iss), .raw (.string q.hol), .raw (.int .i64 q.frm), .raw (.int .i64 q.til), .lst 1 (q.certs.map encN)]), opt (L 5) (.mref 5), .top, .top, .top, .top, .top, .top, .top, .top, .top, .top, .top, .top, .top, .top, .top, .top, .top, .top, .top, .top, .top, .top, .top, .top, .top, .top, .top, .top, .top, .top, .top, .top, .top, .top, .top, .top, .top, .top, .top, .top, .top, .top, .top, .top, .top, .top, .top, .top, .top], [.box (encDk d), .dead, .box [.raw (.int .i64 p.num), .raw (.int .i64 p.kind), .raw (.int .i64 p.state), .raw (.int .i64 p.round), .lst 1 (p.zone.map encN), .raw (.int .i64 p.safe), .lst 3 (p.locks.map encLk), .raw (.string p.iss), .raw (.string p.hol), .raw (.int .i64 p.frm), .raw (.int .i64 p.til), .lst 1 (p.certs.map encN)], .box [.raw (.int .i64 q.num), .raw (.int .i64 q.kind), .raw (.int .i64 q.state), .raw (.int .i64 q.round), .lst 1 (q.zone.map encN), .raw (.int .i64 q.safe), .lst 3 (q.locks.map encLk), .raw (.string q.iss), .raw (.string q.hol), .raw (.int .i64 q.frm), .raw (.int .i64 q.til), .lst 1 (q.certs.map encN)], optO (L 2) (.mp (.int .i64) (setMap x.ka)), optO (L 5) (.mp (.int .i64) (setMap x.kb))]⟩
theorem sRem_eq (n : Net) (d : Dk) (p q : Doc) (L : Nat → Bool) (x : IRem) : sRem n d p q L x = ⟨[.top, .top, .top, .top, .cptr [.lst 3 (n.nodes.map encNd), .lst 5 (n.devs.map encDv)], .top, .ref 2 0, .ref 3 0, .clo (.func 26) [] [.cptr [.lst 3 (n.nodes.map encNd), .lst 5 (n.devs.map encDv)]], opt (L 6) (.mref 4), opt (L 7) (.mref 5), .top, .top, .top, .top, .top, .top, .top, .top, .top, .top, .top, .top, .top, .top, .top, .top, .top, .top, .top, .top, .top, .top, .top, .top, .top, .top, .top, .top, .top, .top, .top, .top, .top, .top, .top, .top, .top, .top, opt (L 0) (.clo (.func 26) [] [.cptr [.lst 3 (n.nodes.map encNd), .lst 5 (n.devs.map encDv)]]), opt (L 1) (.agg [.raw (.int .i64 p.num), .raw (.int .i64 p.kind), .raw (.int .i64 p.state), .raw (.int .i64 p.round), .lst 1 (p.zone.map encN), .raw (.int .i64 p.safe), .lst 3 (p.locks.map encLk), .raw (.string p.iss), .raw (.string p.hol), .raw (.int .i64 p.frm), .raw (.int .i64 p.til), .lst 1 (p.certs.map encN)]), opt (L 2) (.mref 4), opt (L 3) (.clo (.func 26) [] [.cptr [.lst 3 (n.nodes.map encNd), .lst 5 (n.devs.map encDv)]]), opt (L 4) (.agg [.raw (.int .i64 q.num), .raw (.int .i64 q.kind), .raw (.int .i64 q.state), .raw (.int .i64 q.round), .lst 1 (q.zone.map encN), .raw (.int .i64 q.safe), .lst 3 (q.locks.map encLk), .raw (.string q.iss), .raw (.string q.hol), .raw (.int .i64 q.frm), .raw (.int .i64 q.til), .lst 1 (q.certs.map encN)]), opt (L 5) (.mref 5), .top, .top, .top, .top, .top, .top, .top, .top, .top, .top, .top, .top, .top, .top, .top, .top, .top, .top, .top, .top, .top, .top, .top, .top, .top, .top, .top, .top, .top, .top, .top, .top, .top, .top, .top, .top, .top, .top, .top, .top, .top, .top, .top, .top, .top, .top, .top, .top, .top], [.box (encDk d), .dead, .box [.raw (.int .i64 p.num), .raw (.int .i64 p.kind), .raw (.int .i64 p.state), .raw (.int .i64 p.round), .lst 1 (p.zone.map encN), .raw (.int .i64 p.safe), .lst 3 (p.locks.map encLk), .raw (.string p.iss), .raw (.string p.hol), .raw (.int .i64 p.frm), .raw (.int .i64 p.til), .lst 1 (p.certs.map encN)], .box [.raw (.int .i64 q.num), .raw (.int .i64 q.kind), .raw (.int .i64 q.state), .raw (.int .i64 q.round), .lst 1 (q.zone.map encN), .raw (.int .i64 q.safe), .lst 3 (q.locks.map encLk), .raw (.string q.iss), .raw (.string q.hol), .raw (.int .i64 q.frm), .raw (.int .i64 q.til), .lst 1 (q.certs.map encN)], optO (L 2) (.mp (.int .i64) (setMap x.ka)), optO (L 5) (.mp (.int .i64) (setMap x.kb))]⟩ := rfl

set_option maxHeartbeats 32000000 in
theorem overlapReach (l : List Int) (hl : NumsOk l) : Fn1 Tryd.prog GT0 6 [.lst 1 (l.map encN)] (.raw (.bool true)) [] := by
  have ca := awake27
  have cf := few l hl.len
  by_cases h400 : l.length ≤ 400
  · have cn := newDeck l
    have hdk := hl.deck
    rw [decide_eq_true h400] at cf
    refine holds_of Tryd.func6 rfl rfl ?_
    refine J_run 200 ?_
    delta Tryd.f6
    repeat' (first
      | (simp (maxSteps := 1000000) (disch := omega) only [go_sem])
      | ((with_reducible refine CallA.pure ca ?_ ?_); (· simp (disch := omega) only [go_sem]); rintro _ _ ⟨rfl, rfl⟩)
      | ((with_reducible refine CallA.pure cf ?_ ?_); (· simp (disch := omega) only [go_sem]); rintro _ _ ⟨rfl, rfl⟩)
      | ((with_reducible refine CallA.pure cn ?_ ?_); (· simp (disch := omega) only [go_sem]); rintro _ _ ⟨rfl, rfl⟩)
      | ((with_reducible first | refine gDt ?_ ?_ | refine gDf ?_ ?_ | refine gNt ?_ ?_ | refine gNf ?_ ?_ | refine cD ?_ ?_ | refine cN ?_ ?_ | refine cB ?_ ?_ | refine gB ?_ ?_) <;> intro h)
      | with_reducible first | refine And.intro ?_ ?_ | refine J_seq ?_ | refine J_block ?_ | refine J_inBlock ?_ | refine rC ?_ | refine rR ?_ | refine rE ?_ | refine rG ?_ | refine FinQ.now ?_ | refine FinQ.end ?_)
    refine CallA.mut [0] ?_ ?_ ?_ ?_ (tieD _ hdk) ?_
    · simp only [go_sem]
    · simp only [go_sem]
    · simp only [go_sem]
    · simp only [go_sem]
    rintro _ _ ⟨n, st, d1, hd1, hno, hn6, hv1, hv10, hst, hst12, rfl, rfl⟩
    have cD := fun (d : Dk) (hd : d.ok) => docD d hd n hno (by omega) (by omega)
    simp only [encNet] at cD ⊢
    iterate 6 (all_goals (try (first
      | (simp (maxSteps := 1000000) (disch := omega) only [go_sem])
      | ((with_reducible first | refine gDt ?_ ?_ | refine gDf ?_ ?_ | refine gNt ?_ ?_ | refine gNf ?_ ?_ | refine cD ?_ ?_ | refine cN ?_ ?_ | refine cB ?_ ?_ | refine gB ?_ ?_) <;> intro h)
      | with_reducible first | refine And.intro ?_ ?_ | refine rG ?_ | refine FinQ.now ?_ | refine FinQ.end ?_)))
    first | refine J_seq ?_ | skip
    have hx0 : Doc.zero.small n := ⟨by simp [Doc.zero], locks_nil hno, fun k hk => (by cases hk), by simp [Doc.zero], by decide, by decide⟩
    refine J_inv2 (by kernel_rfl) [2, 5] (sRea n) (fun x : IRea => x.Ok n) ⟨d1, .zero, .zero⟩ 10 rfl (by kernel_rfl) ⟨hd1, hx0, hx0⟩ ?_ ?_ ?_
    · rw [sRea_eq]
      refine SemLe.trans (SemLe.pad 2) ?_
      refine .le ?_ ?_
      · simp [go_sem]
      · simp
    · refine invSteps_cons 0 (fun L x hL hdep hcl hok K hK => ?_) ?_
      · have u2 : L 2 = false := hcl.no (i := 2) (j := 0) (by kernel_rfl) hL
        have u8 : L 8 = false := hcl.no (i := 8) (j := 2) (by kernel_rfl) u2
        have ok := hok
        rw [sRea_eq]
        simp (maxSteps := 1000000) (disch := omega) only [go_sem, Nat.reduceLT, hL, opt_true, opt_false, optO_true, optO_false, cond_true, cond_false, u2, u8, encDoc]
        refine hK x _ hok ?_
        rw [sRea_eq]
        refine .le ?_ ?_
        · cases h6 : L 6 <;> cases h7 : L 7 <;> cases h8 : L 8 <;> cases h9 : L 9 <;> simp_all [go_sem, upd, encDoc]
        · simp
      refine invSteps_cons 1 (fun L x hL hdep hcl hok K hK => ?_) ?_
      · have u2 : L 2 = false := hcl.no (i := 2) (j := 1) (by kernel_rfl) hL
        have u8 : L 8 = false := hcl.no (i := 8) (j := 2) (by kernel_rfl) u2
        have ok := hok
        rw [sRea_eq]
        simp (maxSteps := 1000000) (disch := omega) only [go_sem, Nat.reduceLT, hL, opt_true, opt_false, optO_true, optO_false, cond_true, cond_false, u2, u8, encDoc]
        refine hK x _ hok ?_
        rw [sRea_eq]
        refine .le ?_ ?_
        · cases h6 : L 6 <;> cases h7 : L 7 <;> cases h8 : L 8 <;> cases h9 : L 9 <;> simp_all [go_sem, upd, encDoc]
        · simp
      refine invSteps_cons 2 (fun L x hL hdep hcl hok K hK => ?_) ?_
      · have d0 : L 0 = true := hdep 0 (by kernel_rfl)
        have d1 : L 1 = true := hdep 1 (by kernel_rfl)
        have u8 : L 8 = false := hcl.no (i := 8) (j := 2) (by kernel_rfl) hL
        have ok := hok
        rw [sRea_eq]
        simp (maxSteps := 1000000) (disch := omega) only [go_sem, Nat.reduceLT, hL, opt_true, opt_false, optO_true, optO_false, cond_true, cond_false, d0, d1, u8, encDoc]
        refine CallA.mut [0] ?_ ?_ ?_ ?_ (cD x.d ok.hd) ?_
        · simp (disch := omega) only [go_sem, encDoc]
        · simp (disch := omega) only [go_sem, encDoc]
        · simp (disch := omega) only [go_sem, encDoc]
        · simp (disch := omega) only [go_sem, encDoc]
        rintro _ _ ⟨y, d2, hd2, hy, rfl, rfl⟩
        simp (maxSteps := 1000000) (disch := omega) only [go_sem, Nat.reduceLT, encDoc]
        refine hK (⟨d2, y, x.b⟩) _ ({ ok with hd := hd2, ha := hy }) ?_
        rw [sRea_eq]
        refine .le ?_ ?_
        · cases h6 : L 6 <;> cases h7 : L 7 <;> cases h8 : L 8 <;> cases h9 : L 9 <;> simp_all [go_sem, upd, encDoc]
        · simp
      refine invSteps_cons 3 (fun L x hL hdep hcl hok K hK => ?_) ?_
      · have u5 : L 5 = false := hcl.no (i := 5) (j := 3) (by kernel_rfl) hL
        have u9 : L 9 = false := hcl.no (i := 9) (j := 5) (by kernel_rfl) u5
        have ok := hok
        rw [sRea_eq]
        simp (maxSteps := 1000000) (disch := omega) only [go_sem, Nat.reduceLT, hL, opt_true, opt_false, optO_true, optO_false, cond_true, cond_false, u5, u9, encDoc]
        refine hK x _ hok ?_
        rw [sRea_eq]
        refine .le ?_ ?_
        · cases h6 : L 6 <;> cases h7 : L 7 <;> cases h8 : L 8 <;> cases h9 : L 9 <;> simp_all [go_sem, upd, encDoc]
        · simp
      refine invSteps_cons 4 (fun L x hL hdep hcl hok K hK => ?_) ?_
      · have u5 : L 5 = false := hcl.no (i := 5) (j := 4) (by kernel_rfl) hL
        have u9 : L 9 = false := hcl.no (i := 9) (j := 5) (by kernel_rfl) u5
        have ok := hok
        rw [sRea_eq]
        simp (maxSteps := 1000000) (disch := omega) only [go_sem, Nat.reduceLT, hL, opt_true, opt_false, optO_true, optO_false, cond_true, cond_false, u5, u9, encDoc]
        refine hK x _ hok ?_
        rw [sRea_eq]
        refine .le ?_ ?_
        · cases h6 : L 6 <;> cases h7 : L 7 <;> cases h8 : L 8 <;> cases h9 : L 9 <;> simp_all [go_sem, upd, encDoc]
        · simp
      refine invSteps_cons 5 (fun L x hL hdep hcl hok K hK => ?_) ?_
      · have d3 : L 3 = true := hdep 3 (by kernel_rfl)
        have d4 : L 4 = true := hdep 4 (by kernel_rfl)
        have u9 : L 9 = false := hcl.no (i := 9) (j := 5) (by kernel_rfl) hL
        have ok := hok
        rw [sRea_eq]
        simp (maxSteps := 1000000) (disch := omega) only [go_sem, Nat.reduceLT, hL, opt_true, opt_false, optO_true, optO_false, cond_true, cond_false, d3, d4, u9, encDoc]
        refine CallA.mut [0] ?_ ?_ ?_ ?_ (cD x.d ok.hd) ?_
        · simp (disch := omega) only [go_sem, encDoc]
        · simp (disch := omega) only [go_sem, encDoc]
        · simp (disch := omega) only [go_sem, encDoc]
        · simp (disch := omega) only [go_sem, encDoc]
        rintro _ _ ⟨y, d2, hd2, hy, rfl, rfl⟩
        simp (maxSteps := 1000000) (disch := omega) only [go_sem, Nat.reduceLT, encDoc]
        refine hK (⟨d2, x.a, y⟩) _ ({ ok with hd := hd2, hb := hy }) ?_
        rw [sRea_eq]
        refine .le ?_ ?_
        · cases h6 : L 6 <;> cases h7 : L 7 <;> cases h8 : L 8 <;> cases h9 : L 9 <;> simp_all [go_sem, upd, encDoc]
        · simp
      refine invSteps_cons 6 (fun L x hL hdep hcl hok K hK => ?_) ?_
      · have u8 : L 8 = false := hcl.no (i := 8) (j := 6) (by kernel_rfl) hL
        have ok := hok
        rw [sRea_eq]
        simp (maxSteps := 1000000) (disch := omega) only [go_sem, Nat.reduceLT, hL, opt_true, opt_false, optO_true, optO_false, cond_true, cond_false, u8, encDoc]
        refine hK x _ hok ?_
        refine SemLe.trans (SemLe.reloc (i := 2) (j := 4) ?_ (by decide) ?_ ?_ (by decide) (by decide)) ?_
        · simp [go_sem, hL, optO]
        · simp
        · simp
        simp (maxSteps := 1000000) only [go_sem, St.reloc, u8]
        rw [sRea_eq]
        refine .le ?_ ?_
        · cases h6 : L 6 <;> cases h7 : L 7 <;> cases h8 : L 8 <;> cases h9 : L 9 <;> simp_all [go_sem, upd, encDoc]
        · simp
      refine invSteps_cons 7 (fun L x hL hdep hcl hok K hK => ?_) ?_
      · have u9 : L 9 = false := hcl.no (i := 9) (j := 7) (by kernel_rfl) hL
        have ok := hok
        rw [sRea_eq]
        simp (maxSteps := 1000000) (disch := omega) only [go_sem, Nat.reduceLT, hL, opt_true, opt_false, optO_true, optO_false, cond_true, cond_false, u9, encDoc]
        refine hK x _ hok ?_
        refine SemLe.trans (SemLe.reloc (i := 3) (j := 4) ?_ (by decide) ?_ ?_ (by decide) (by decide)) ?_
        · simp [go_sem, hL, optO]
        · simp
        · simp
        simp (maxSteps := 1000000) only [go_sem, St.reloc, u9]
        rw [sRea_eq]
        refine .le ?_ ?_
        · cases h6 : L 6 <;> cases h7 : L 7 <;> cases h8 : L 8 <;> cases h9 : L 9 <;> simp_all [go_sem, upd, encDoc]
        · simp
      refine invSteps_cons 8 (fun L x hL hdep hcl hok K hK => ?_) ?_
      · have d2 : L 2 = true := hdep 2 (by kernel_rfl)
        have d6 : L 6 = true := hdep 6 (by kernel_rfl)
        have d0 : L 0 = true := hcl 2 0 (by kernel_rfl) d2
        have d1 : L 1 = true := hcl 2 1 (by kernel_rfl) d2
        have ok := hok
        rw [sRea_eq]
        simp (maxSteps := 1000000) (disch := omega) only [go_sem, Nat.reduceLT, hL, opt_true, opt_false, optO_true, optO_false, cond_true, cond_false, d2, d6, d0, d1, encDoc]
        refine hK x _ hok ?_
        rw [sRea_eq]
        refine .le ?_ ?_
        · cases h6 : L 6 <;> cases h7 : L 7 <;> cases h8 : L 8 <;> cases h9 : L 9 <;> simp_all [go_sem, upd, encDoc]
        · simp
      refine invSteps_cons 9 (fun L x hL hdep hcl hok K hK => ?_) ?_
      · have d5 : L 5 = true := hdep 5 (by kernel_rfl)
        have d7 : L 7 = true := hdep 7 (by kernel_rfl)
        have d3 : L 3 = true := hcl 5 3 (by kernel_rfl) d5
        have d4 : L 4 = true := hcl 5 4 (by kernel_rfl) d5
        have ok := hok
        rw [sRea_eq]
        simp (maxSteps := 1000000) (disch := omega) only [go_sem, Nat.reduceLT, hL, opt_true, opt_false, optO_true, optO_false, cond_true, cond_false, d5, d7, d3, d4, encDoc]
        refine hK x _ hok ?_
        rw [sRea_eq]
        refine .le ?_ ?_
        · cases h6 : L 6 <;> cases h7 : L 7 <;> cases h8 : L 8 <;> cases h9 : L 9 <;> simp_all [go_sem, upd, encDoc]
        · simp
      exact trivial
    rintro ⟨d2, a, b⟩ ⟨hd2, ha, hb⟩
    simp only at hd2 ha hb
    rw [sRea_eq]
    simp only [go_sem, decide_true, Nat.reduceLT, opt_true, optO_true, cond_true]
    refine J_top (upto 32 37) ?_
    simp only [go_sem]
    have ka := rDocCheck n hno.sized a (smallR ha)
    have kb := rDocCheck n hno.sized b (smallR hb)
    simp only [encNet, encDoc] at ka kb
    by_cases h1 : docChk n a = 0
    · rw [h1] at ka
      by_cases h2 : docChk n b = 0
      · rw [h2] at kb
        have mab := ovMeet n hno.sized a b (smallR ha) (smallR hb)
        rw [meetR_ok h1 h2] at mab
        have rga := ovRegion n hno.sized a (smallR ha)
        rw [regionD_ok h1] at rga
        have hrl := regionD_len (n := n) (x := a)
        rw [regionD_ok h1] at hrl
        simp only at hrl
        have rz := rZone n hno.sized (regD n a) (by omega)
        rw [regD_chk h1] at rz
        have cRp := reachF n hno a (smallR ha) h1
        have cRq := reachF n hno b (smallR hb) h2
        simp only [encNet, encDoc] at mab rga rz cRp cRq
        refine J_run 200 ?_
        repeat' (first
          | (simp (maxSteps := 1000000) (disch := omega) only [go_sem])
          | ((with_reducible refine CallA.pure ka ?_ ?_); (· simp (disch := omega) only [go_sem]); rintro _ _ ⟨rfl, rfl⟩)
          | ((with_reducible refine CallA.pure kb ?_ ?_); (· simp (disch := omega) only [go_sem]); rintro _ _ ⟨rfl, rfl⟩)
          | ((with_reducible first | refine gDt ?_ ?_ | refine gDf ?_ ?_ | refine gNt ?_ ?_ | refine gNf ?_ ?_ | refine cD ?_ ?_ | refine cN ?_ ?_ | refine cB ?_ ?_ | refine gB ?_ ?_) <;> intro h)
          | with_reducible first | refine And.intro ?_ ?_ | refine rG ?_)
        refine J_frz [1] ?_
        simp only [go_sem]
        first | refine J_seq ?_ | skip
        refine J_inv2 (by kernel_rfl) [] (sRem n d2 a b) (fun x : IRem => x.Ok n a b) ⟨regD n a, regD n b⟩ 8 rfl (by kernel_rfl) ⟨regD_nodup, fun _ => Iff.rfl, regD_nodup, fun _ => Iff.rfl⟩ ?_ ?_ ?_
        · rw [sRem_eq]
          refine SemLe.trans (SemLe.pad 2) ?_
          refine .le ?_ ?_
          · simp [go_sem]
          · simp
        · refine invSteps_cons 0 (fun L x hL hdep hcl hok K hK => ?_) ?_
          · have u2 : L 2 = false := hcl.no (i := 2) (j := 0) (by kernel_rfl) hL
            have u6 : L 6 = false := hcl.no (i := 6) (j := 2) (by kernel_rfl) u2
            have ok := hok
            have t6 : L 2 = false → L 6 = false := fun h => hcl.no (i := 6) (j := 2) (by kernel_rfl) h
            have t7 : L 5 = false → L 7 = false := fun h => hcl.no (i := 7) (j := 5) (by kernel_rfl) h
            rw [sRem_eq]
            simp (maxSteps := 1000000) (disch := omega) only [go_sem, Nat.reduceLT, hL, opt_true, opt_false, optO_true, optO_false, cond_true, cond_false, u2, u6]
            refine hK x _ hok ?_
            rw [sRem_eq]
            refine .le ?_ ?_
            · cases h2 : L 2 <;> cases h5 : L 5 <;> simp_all [go_sem, upd]
            · simp
          refine invSteps_cons 1 (fun L x hL hdep hcl hok K hK => ?_) ?_
          · have u2 : L 2 = false := hcl.no (i := 2) (j := 1) (by kernel_rfl) hL
            have u6 : L 6 = false := hcl.no (i := 6) (j := 2) (by kernel_rfl) u2
            have ok := hok
            have t6 : L 2 = false → L 6 = false := fun h => hcl.no (i := 6) (j := 2) (by kernel_rfl) h
            have t7 : L 5 = false → L 7 = false := fun h => hcl.no (i := 7) (j := 5) (by kernel_rfl) h
            rw [sRem_eq]
            simp (maxSteps := 1000000) (disch := omega) only [go_sem, Nat.reduceLT, hL, opt_true, opt_false, optO_true, optO_false, cond_true, cond_false, u2, u6]
            refine hK x _ hok ?_
            rw [sRem_eq]
            refine .le ?_ ?_
            · cases h2 : L 2 <;> cases h5 : L 5 <;> simp_all [go_sem, upd]
            · simp
          refine invSteps_cons 2 (fun L x hL hdep hcl hok K hK => ?_) ?_
          · have d0 : L 0 = true := hdep 0 (by kernel_rfl)
            have d1 : L 1 = true := hdep 1 (by kernel_rfl)
            have u6 : L 6 = false := hcl.no (i := 6) (j := 2) (by kernel_rfl) hL
            have ok := hok
            have t6 : L 2 = false → L 6 = false := fun h => hcl.no (i := 6) (j := 2) (by kernel_rfl) h
            have t7 : L 5 = false → L 7 = false := fun h => hcl.no (i := 7) (j := 5) (by kernel_rfl) h
            rw [sRem_eq]
            simp (maxSteps := 1000000) (disch := omega) only [go_sem, Nat.reduceLT, hL, opt_true, opt_false, optO_true, optO_false, cond_true, cond_false, d0, d1, u6]
            refine CallA.pure (cRp) ?_ ?_
            · simp (disch := omega) only [go_sem]
            rintro _ _ ⟨ks, hk1, hk2, rfl, rfl⟩
            simp (maxSteps := 1000000) (disch := omega) only [go_sem, Nat.reduceLT]
            refine hK (⟨ks, x.kb⟩) _ (⟨hk1, hk2, ok.b1, ok.b2⟩) ?_
            refine SemLe.trans (SemLe.reloc (i := 4) (j := 6) ?_ (by decide) ?_ ?_ (by decide) (by decide)) ?_
            · simp [go_sem, hL, optO]
            · simp
            · simp
            simp (maxSteps := 1000000) only [go_sem, St.reloc, d0, d1, u6]
            rw [sRem_eq]
            refine .le ?_ ?_
            · cases h2 : L 2 <;> cases h5 : L 5 <;> simp_all [go_sem, upd]
            · simp
          refine invSteps_cons 3 (fun L x hL hdep hcl hok K hK => ?_) ?_
          · have u5 : L 5 = false := hcl.no (i := 5) (j := 3) (by kernel_rfl) hL
            have u7 : L 7 = false := hcl.no (i := 7) (j := 5) (by kernel_rfl) u5
            have ok := hok
            have t6 : L 2 = false → L 6 = false := fun h => hcl.no (i := 6) (j := 2) (by kernel_rfl) h
            have t7 : L 5 = false → L 7 = false := fun h => hcl.no (i := 7) (j := 5) (by kernel_rfl) h
            rw [sRem_eq]
            simp (maxSteps := 1000000) (disch := omega) only [go_sem, Nat.reduceLT, hL, opt_true, opt_false, optO_true, optO_false, cond_true, cond_false, u5, u7]
            refine hK x _ hok ?_
            rw [sRem_eq]
            refine .le ?_ ?_
            · cases h2 : L 2 <;> cases h5 : L 5 <;> simp_all [go_sem, upd]
            · simp
          refine invSteps_cons 4 (fun L x hL hdep hcl hok K hK => ?_) ?_
          · have u5 : L 5 = false := hcl.no (i := 5) (j := 4) (by kernel_rfl) hL
            have u7 : L 7 = false := hcl.no (i := 7) (j := 5) (by kernel_rfl) u5
            have ok := hok
            have t6 : L 2 = false → L 6 = false := fun h => hcl.no (i := 6) (j := 2) (by kernel_rfl) h
            have t7 : L 5 = false → L 7 = false := fun h => hcl.no (i := 7) (j := 5) (by kernel_rfl) h
            rw [sRem_eq]
            simp (maxSteps := 1000000) (disch := omega) only [go_sem, Nat.reduceLT, hL, opt_true, opt_false, optO_true, optO_false, cond_true, cond_false, u5, u7]
            refine hK x _ hok ?_
            rw [sRem_eq]
            refine .le ?_ ?_
            · cases h2 : L 2 <;> cases h5 : L 5 <;> simp_all [go_sem, upd]
            · simp
          refine invSteps_cons 5 (fun L x hL hdep hcl hok K hK => ?_) ?_
          · have d3 : L 3 = true := hdep 3 (by kernel_rfl)
            have d4 : L 4 = true := hdep 4 (by kernel_rfl)
            have u7 : L 7 = false := hcl.no (i := 7) (j := 5) (by kernel_rfl) hL
            have ok := hok
            have t6 : L 2 = false → L 6 = false := fun h => hcl.no (i := 6) (j := 2) (by kernel_rfl) h
            have t7 : L 5 = false → L 7 = false := fun h => hcl.no (i := 7) (j := 5) (by kernel_rfl) h
            rw [sRem_eq]
            simp (maxSteps := 1000000) (disch := omega) only [go_sem, Nat.reduceLT, hL, opt_true, opt_false, optO_true, optO_false, cond_true, cond_false, d3, d4, u7]
            refine CallA.pure (cRq) ?_ ?_
            · simp (disch := omega) only [go_sem]
            rintro _ _ ⟨ks, hk1, hk2, rfl, rfl⟩
            simp (maxSteps := 1000000) (disch := omega) only [go_sem, Nat.reduceLT]
            refine hK (⟨x.ka, ks⟩) _ (⟨ok.a1, ok.a2, hk1, hk2⟩) ?_
            refine SemLe.trans (SemLe.reloc (i := 5) (j := 6) ?_ (by decide) ?_ ?_ (by decide) (by decide)) ?_
            · simp [go_sem, hL, optO]
            · simp
            · simp
            simp (maxSteps := 1000000) only [go_sem, St.reloc, d3, d4, u7]
            rw [sRem_eq]
            refine .le ?_ ?_
            · cases h2 : L 2 <;> cases h5 : L 5 <;> simp_all [go_sem, upd]
            · simp
          refine invSteps_cons 6 (fun L x hL hdep hcl hok K hK => ?_) ?_
          · have d2 : L 2 = true := hdep 2 (by kernel_rfl)
            have d0 : L 0 = true := hcl 2 0 (by kernel_rfl) d2
            have d1 : L 1 = true := hcl 2 1 (by kernel_rfl) d2
            have ok := hok
            have t6 : L 2 = false → L 6 = false := fun h => hcl.no (i := 6) (j := 2) (by kernel_rfl) h
            have t7 : L 5 = false → L 7 = false := fun h => hcl.no (i := 7) (j := 5) (by kernel_rfl) h
            rw [sRem_eq]
            simp (maxSteps := 1000000) (disch := omega) only [go_sem, Nat.reduceLT, hL, opt_true, opt_false, optO_true, optO_false, cond_true, cond_false, d2, d0, d1]
            refine hK x _ hok ?_
            rw [sRem_eq]
            refine .le ?_ ?_
            · cases h2 : L 2 <;> cases h5 : L 5 <;> simp_all [go_sem, upd]
            · simp
          refine invSteps_cons 7 (fun L x hL hdep hcl hok K hK => ?_) ?_
          · have d5 : L 5 = true := hdep 5 (by kernel_rfl)
            have d3 : L 3 = true := hcl 5 3 (by kernel_rfl) d5
            have d4 : L 4 = true := hcl 5 4 (by kernel_rfl) d5
            have ok := hok
            have t6 : L 2 = false → L 6 = false := fun h => hcl.no (i := 6) (j := 2) (by kernel_rfl) h
            have t7 : L 5 = false → L 7 = false := fun h => hcl.no (i := 7) (j := 5) (by kernel_rfl) h
            rw [sRem_eq]
            simp (maxSteps := 1000000) (disch := omega) only [go_sem, Nat.reduceLT, hL, opt_true, opt_false, optO_true, optO_false, cond_true, cond_false, d5, d3, d4]
            refine hK x _ hok ?_
            rw [sRem_eq]
            refine .le ?_ ?_
            · cases h2 : L 2 <;> cases h5 : L 5 <;> simp_all [go_sem, upd]
            · simp
          exact trivial
        rintro ⟨ka, kb⟩ ⟨ha1, ha2, hb1, hb2⟩
        simp only at ha1 ha2 hb1 hb2
        rw [sRem_eq]
        simp only [go_sem, decide_true, Nat.reduceLT, opt_true, optO_true, cond_true]
        refine J_top (upto 49 54) ?_
        simp only [go_sem]
        have hlen : ka.length = (regD n a).length := Nat.le_antisymm (nodup_sub ha1 fun v hv => (ha2 v).1 hv) (nodup_sub regD_nodup fun v hv => (ha2 v).2 hv)
        first | refine J_seq ?_ | skip
        refine J_mergeN 1 [] (fun _ : Unit => [(11, .raw (.bool false))]) (fun _ => [.box (encDk d2), .dead, .box [.raw (.int .i64 a.num), .raw (.int .i64 a.kind), .raw (.int .i64 a.state), .raw (.int .i64 a.round), .lst 1 (a.zone.map encN), .raw (.int .i64 a.safe), .lst 3 (a.locks.map encLk), .raw (.string a.iss), .raw (.string a.hol), .raw (.int .i64 a.frm), .raw (.int .i64 a.til), .lst 1 (a.certs.map encN)], .box [.raw (.int .i64 b.num), .raw (.int .i64 b.kind), .raw (.int .i64 b.state), .raw (.int .i64 b.round), .lst 1 (b.zone.map encN), .raw (.int .i64 b.safe), .lst 3 (b.locks.map encLk), .raw (.string b.iss), .raw (.string b.hol), .raw (.int .i64 b.frm), .raw (.int .i64 b.til), .lst 1 (b.certs.map encN)], .mp (.int .i64) (setMap ka), .mp (.int .i64) (setMap kb)]) (fun _ => True) ?_ ?_
        · simp only [go_sem]
          refine J_run 200 ?_
          repeat' (first
            | (simp (maxSteps := 1000000) (disch := omega) only [go_sem])
            | ((with_reducible first | refine gDt ?_ ?_ | refine gDf ?_ ?_ | refine gNt ?_ ?_ | refine gNf ?_ ?_ | refine cD ?_ ?_ | refine cN ?_ ?_ | refine cB ?_ ?_ | refine gB ?_ ?_) <;> intro h)
            | with_reducible first | refine And.intro ?_ ?_ | refine J_seq ?_ | refine J_block ?_ | refine J_inBlock ?_ | refine rC ?_ | refine rR ?_ | refine rE ?_ | refine rG ?_)
          refine .mk () trivial ?_ ?_
          · simp [go_sem]
          · simp
        rintro _ _
        simp only [go_sem]
        refine J_seq ?_
        refine J_mapFor 4 (kd := .int .i64) (m := setMap ka) (mapTypes_run (k := 3) (e := 4) (by simp only [go_sem])) (by simp only [go_sem]) (by simp only [go_sem]) (fun x hx => by obtain ⟨v, _, rfl⟩ := List.mem_map.1 hx; exact ⟨_, rfl⟩) (Nat.zero_le _) (by decide) (by simp) (by simp)
          ([12] ++ upto 57 66) (fun r bm D => [(9, .raw (.map (some bm))), (11, .raw (.bool (D.any (hitB ka kb)))), (55, .raw (.map (some bm))), (56, .raw (.pointer (some ⟨r, 0, none⟩)))]) (fun _ => [.box (encDk d2), .dead, .box [.raw (.int .i64 a.num), .raw (.int .i64 a.kind), .raw (.int .i64 a.state), .raw (.int .i64 a.round), .lst 1 (a.zone.map encN), .raw (.int .i64 a.safe), .lst 3 (a.locks.map encLk), .raw (.string a.iss), .raw (.string a.hol), .raw (.int .i64 a.frm), .raw (.int .i64 a.til), .lst 1 (a.certs.map encN)], .box [.raw (.int .i64 b.num), .raw (.int .i64 b.kind), .raw (.int .i64 b.state), .raw (.int .i64 b.round), .lst 1 (b.zone.map encN), .raw (.int .i64 b.safe), .lst 3 (b.locks.map encLk), .raw (.string b.iss), .raw (.string b.hol), .raw (.int .i64 b.frm), .raw (.int .i64 b.til), .lst 1 (b.certs.map encN)], .dead, .mp (.int .i64) (setMap kb)]) ?_ ?_ ?_ ?_
        · intro r bm
          simp [go_sem]
        · intro r bm D
          simp [go_sem]
        · intro r bm D i key x hmi hni
          have hil : i < ka.length := by have := (List.getElem?_eq_some_iff.1 hmi).1; rw [setMap_len] at this; exact this
          have hke : key = .int .i64 ka[i] := by
            have h5 : (setMap ka)[i]? = some (MKey.int .i64 ka[i], .raw (.bool true)) := by simp [setMap, hil]
            rw [h5] at hmi
            injection hmi with hmi
            injection hmi with e5 _
            exact e5.symm
          subst hke
          have hit : hitB ka kb i = decide (ka[i] ∈ kb) := by unfold hitB; rw [getD_get hil]; simp [hil]
          have hany : (D ++ [i]).any (hitB ka kb) = (D.any (hitB ka kb) || decide (ka[i] ∈ kb)) := by rw [List.any_append]; simp [hit]
          obtain ⟨W, hW⟩ : ∃ W, D.any (hitB ka kb) = W := ⟨_, rfl⟩
          rw [hany, hW]
          simp only [go_sem, MKey.val]
          cases W
          all_goals
            simp only [Bool.false_or, Bool.true_or]
            refine J_run 200 ?_
            repeat' (first
              | (simp (maxSteps := 1000000) (disch := omega) only [go_sem, setMap_find])
              | ((with_reducible first | refine gDt ?_ ?_ | refine gDf ?_ ?_ | refine gNt ?_ ?_ | refine gNf ?_ ?_ | refine cD ?_ ?_ | refine cN ?_ ?_ | refine cB ?_ ?_ | refine gB ?_ ?_) <;> intro h)
              | with_reducible first | refine And.intro ?_ ?_ | refine J_seq ?_ | refine J_block ?_ | refine J_inBlock ?_ | refine rC ?_ | refine rR ?_ | refine rE ?_ | refine rG ?_)
            refine SemLe.le ?_ ?_
            · simp [go_sem]
            · simp
        · intro r bm D hall
          have hwant := hit_all ha2 hb2 hall
          rw [hwant]
          simp only [go_sem]
          refine J_run 200 ?_
          repeat' (first
            | (simp (maxSteps := 1000000) (disch := omega) only [go_sem, setMap_len, hlen, beqB])
            | ((with_reducible refine CallA.pure mab ?_ ?_); (· simp (disch := omega) only [go_sem, setMap_len, hlen, beqB]); rintro _ _ ⟨rfl, rfl⟩)
            | ((with_reducible refine CallA.pure rga ?_ ?_); (· simp (disch := omega) only [go_sem, setMap_len, hlen, beqB]); rintro _ _ ⟨rfl, rfl⟩)
            | ((with_reducible refine CallA.pure rz ?_ ?_); (· simp (disch := omega) only [go_sem, setMap_len, hlen, beqB]); rintro _ _ ⟨rfl, rfl⟩)
            | ((with_reducible first | refine gDt ?_ ?_ | refine gDf ?_ ?_ | refine gNt ?_ ?_ | refine gNf ?_ ?_ | refine cD ?_ ?_ | refine cN ?_ ?_ | refine cB ?_ ?_ | refine gB ?_ ?_) <;> intro h)
            | with_reducible first | refine And.intro ?_ ?_ | refine J_seq ?_ | refine J_block ?_ | refine J_inBlock ?_ | refine rC ?_ | refine rR ?_ | refine rE ?_ | refine rG ?_ | refine FinQ.now ?_ | refine FinQ.end ?_)
      · refine J_run 200 ?_
        repeat' (first
          | (simp (maxSteps := 1000000) (disch := omega) only [go_sem, h2])
          | ((with_reducible refine CallA.pure ka ?_ ?_); (· simp (disch := omega) only [go_sem, h2]); rintro _ _ ⟨rfl, rfl⟩)
          | ((with_reducible refine CallA.pure kb ?_ ?_); (· simp (disch := omega) only [go_sem, h2]); rintro _ _ ⟨rfl, rfl⟩)
          | ((with_reducible first | refine gDt ?_ ?_ | refine gDf ?_ ?_ | refine gNt ?_ ?_ | refine gNf ?_ ?_ | refine cD ?_ ?_ | refine cN ?_ ?_ | refine cB ?_ ?_ | refine gB ?_ ?_) <;> intro h)
          | with_reducible first | refine And.intro ?_ ?_ | refine J_seq ?_ | refine J_block ?_ | refine J_inBlock ?_ | refine rC ?_ | refine rR ?_ | refine rE ?_ | refine rG ?_ | refine FinQ.now ?_ | refine FinQ.end ?_)
    · refine J_run 200 ?_
      repeat' (first
        | (simp (maxSteps := 1000000) (disch := omega) only [go_sem, h1])
        | ((with_reducible refine CallA.pure ka ?_ ?_); (· simp (disch := omega) only [go_sem, h1]); rintro _ _ ⟨rfl, rfl⟩)
        | ((with_reducible first | refine gDt ?_ ?_ | refine gDf ?_ ?_ | refine gNt ?_ ?_ | refine gNf ?_ ?_ | refine cD ?_ ?_ | refine cN ?_ ?_ | refine cB ?_ ?_ | refine gB ?_ ?_) <;> intro h)
        | with_reducible first | refine And.intro ?_ ?_ | refine J_seq ?_ | refine J_block ?_ | refine J_inBlock ?_ | refine rC ?_ | refine rR ?_ | refine rE ?_ | refine rG ?_ | refine FinQ.now ?_ | refine FinQ.end ?_)
  · rw [decide_eq_false h400] at cf
    refine holds_of Tryd.func6 rfl rfl ?_
    refine J_run 200 ?_
    delta Tryd.f6
    repeat' (first
      | (simp (maxSteps := 1000000) (disch := omega) only [go_sem])
      | ((with_reducible refine CallA.pure ca ?_ ?_); (· simp (disch := omega) only [go_sem]); rintro _ _ ⟨rfl, rfl⟩)
      | ((with_reducible refine CallA.pure cf ?_ ?_); (· simp (disch := omega) only [go_sem]); rintro _ _ ⟨rfl, rfl⟩)
      | ((with_reducible first | refine gDt ?_ ?_ | refine gDf ?_ ?_ | refine gNt ?_ ?_ | refine gNf ?_ ?_ | refine cD ?_ ?_ | refine cN ?_ ?_ | refine cB ?_ ?_ | refine gB ?_ ?_) <;> intro h)
      | with_reducible first | refine And.intro ?_ ?_ | refine J_seq ?_ | refine J_block ?_ | refine J_inBlock ?_ | refine rC ?_ | refine rR ?_ | refine rE ?_ | refine rG ?_ | refine FinQ.now ?_ | refine FinQ.end ?_)
theorem overlapReach_av (x : (Sh.slice (.int .i64)).Den) (o : (Sh.slice (.int .i64)).Ok x) : Fn1 Tryd.prog GT0 6 [(Sh.slice (.int .i64)).av x] (.raw (.bool true)) [] := overlapReach x (nums_ok o)
end Go.Proofs.YtfkiomkfoabnhaaDoor.Abs
