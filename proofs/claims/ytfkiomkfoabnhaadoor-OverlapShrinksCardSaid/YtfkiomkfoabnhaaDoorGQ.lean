/- OverlapShrinks, walked: it returns true. -/
import Derived.Test.YtfkiomkfoabnhaaDoorGC
import Derived.Test.YtfkiomkfoabnhaaDoorGP
import Derived.Test.YtfkiomkfoabnhaaDoorFE
import Derived.Test.YtfkiomkfoabnhaaDoorGX
import Derived.Test.YtfkiomkfoabnhaaDoorZNear
namespace Go.Proofs.YtfkiomkfoabnhaaDoor.Abs
set_option linter.unusedSimpArgs false
set_option linter.unusedVariables false
set_option maxRecDepth 100000
open Go Go.RowKit

theorem smallQ {n : Net} {x : Doc} (h : x.small n) : x.sized :=
  ⟨by have := h.zl; omega, by have := h.lk.len; omega, by have := h.cl; omega, by have := h.il; omega, by have := h.hl; omega⟩
theorem atD_next {l : List Lk} {i k : Nat} (hk : k < l.length) : atD (l.take (k + 1)) i = atD (l.take k) i ++ (if l[k].dev = (i : Int) then [l[k]] else []) := by
  unfold atD
  rw [List.take_succ_eq_append_getElem hk, List.filter_append]
  congr 1
  rw [List.filter_cons, List.filter_nil]
  by_cases h : l[k].dev = (i : Int)
  · rw [if_pos (decide_eq_true h), if_pos h]
  · rw [if_neg (by simpa using h), if_neg h]
theorem atD_len {l : List Lk} {i k : Nat} : (atD (l.take k) i).length ≤ l.length := by
  unfold atD
  exact Nat.le_trans (List.length_filter_le _ _) (by rw [List.length_take]; omega)
def anyD (l : List Lk) (i : Nat) : Bool := l.any fun x => decide (x.dev = (i : Int))
theorem anyD_next {l : List Lk} {i k : Nat} (hk : k < l.length) : anyD (l.take (k + 1)) i = (anyD (l.take k) i || decide (l[k].dev = (i : Int))) := by
  unfold anyD
  rw [List.take_succ_eq_append_getElem hk, List.any_append]
  simp
theorem anyD_none {l : List Lk} {i : Nat} (h : anyD l i = false) : atD l i = [] := by
  unfold anyD at h
  unfold atD
  rw [List.any_eq_false] at h
  exact List.filter_eq_nil_iff.2 h
structure IShr where
  d : Dk
  l : List Doc
  a : Doc
structure IShr.Ok (n : Net) (x : IShr) : Prop where
  hd : x.d.ok
  hl : x.l.length ≤ 4
  hs : ∀ q, q ∈ x.l → q.small n
  ha : x.a.small n
def sShr (n : Net) (L : Nat → Bool) (x : IShr) : St := ⟨[.top, .top, .top, .ref 0 0, .ref 1 0, .top, opt (L 7) (.lst 12 (x.l.map encDoc)), opt (L 6) (.ref 2 0), .top, .top, .top, .top, .top, .top, .top, .top, .top, .top, .top, .top, .top, .top, .top, .top, .top, .top, .top, .top, .top, .top, .top, .top, .top, .top, .top, .top, .top, .top, .top, .top, .top, .top, opt (L 0) (.ref 0 0), opt (L 1) (.agg [.lst 3 (n.nodes.map encNd), .lst 5 (n.devs.map encDv)]), opt (L 2) (.lst 12 (x.l.map encDoc)), opt (L 3) (.ref 0 0), opt (L 4) (.agg [.lst 3 (n.nodes.map encNd), .lst 5 (n.devs.map encDv)]), opt (L 5) (.agg [.raw (.int .i64 x.a.num), .raw (.int .i64 x.a.kind), .raw (.int .i64 x.a.state), .raw (.int .i64 x.a.round), .lst 1 (x.a.zone.map encN), .raw (.int .i64 x.a.safe), .lst 3 (x.a.locks.map encLk), .raw (.string x.a.iss), .raw (.string x.a.hol), .raw (.int .i64 x.a.frm), .raw (.int .i64 x.a.til), .lst 1 (x.a.certs.map encN)]), .top, .top, .top, .top, .top, .top, .top, .top, .top, .top, .top, .top, .top, .top, .top, .top, .top, .top, .top, .top, .top, .top, .top, .top, .top, .top, .top, .top, .top, .top, .top, .top, .top, .top, .top, .top, .top, .top, .top, .top, .top, .top, .top, .top, .top, .top, .top, .top, .top, .top, .top, .top, .top, .top, .top, .top, .top, .top, .top, .top, .top, .top, .top, .top, .top, .top, .top, .top, .top, .top, .top, .top, .top, .top, .top, .top, .top, .top, .top, .top, .top, .top, .top, .top, .top, .top, .top, .top, .top, .top, .top, .top, .top, .top, .top, .top, .top, .top, .top, .top, .top, .top, .top, .top, .top, .top, .top, .top, .top, .top, .top, .top, .top, .top, .top, .top, .top, .top, .top, .top, .top, .top, .top, .top, .top, .top, .top, .top, .top, .top, .top, .top, .top, .top, .top, .top], [.box (encDk x.d), .box [.lst 3 (n.nodes.map encNd), .lst 5 (n.devs.map encDv)], optO (L 6) (.box (cond (L 8) [.raw (.int .i64 x.a.num), .raw (.int .i64 x.a.kind), .raw (.int .i64 x.a.state), .raw (.int .i64 x.a.round), .lst 1 (x.a.zone.map encN), .raw (.int .i64 x.a.safe), .lst 3 (x.a.locks.map encLk), .raw (.string x.a.iss), .raw (.string x.a.hol), .raw (.int .i64 x.a.frm), .raw (.int .i64 x.a.til), .lst 1 (x.a.certs.map encN)] [.raw (.int .i64 0), .raw (.int .i64 0), .raw (.int .i64 0), .raw (.int .i64 0), .raw (.slice none 0 0), .raw (.int .i64 0), .raw (.slice none 0 0), .raw (.string ⟨#[]⟩), .raw (.string ⟨#[]⟩), .raw (.int .i64 0), .raw (.int .i64 0), .raw (.slice none 0 0)]))]⟩
theorem sShr_eq (n : Net) (L : Nat → Bool) (x : IShr) : sShr n L x = ⟨[.top, .top, .top, .ref 0 0, .ref 1 0, .top, opt (L 7) (.lst 12 (x.l.map encDoc)), opt (L 6) (.ref 2 0), .top, .top, .top, .top, .top, .top, .top, .top, .top, .top, .top, .top, .top, .top, .top, .top, .top, .top, .top, .top, .top, .top, .top, .top, .top, .top, .top, .top, .top, .top, .top, .top, .top, .top, opt (L 0) (.ref 0 0), opt (L 1) (.agg [.lst 3 (n.nodes.map encNd), .lst 5 (n.devs.map encDv)]), opt (L 2) (.lst 12 (x.l.map encDoc)), opt (L 3) (.ref 0 0), opt (L 4) (.agg [.lst 3 (n.nodes.map encNd), .lst 5 (n.devs.map encDv)]), opt (L 5) (.agg [.raw (.int .i64 x.a.num), .raw (.int .i64 x.a.kind), .raw (.int .i64 x.a.state), .raw (.int .i64 x.a.round), .lst 1 (x.a.zone.map encN), .raw (.int .i64 x.a.safe), .lst 3 (x.a.locks.map encLk), .raw (.string x.a.iss), .raw (.string x.a.hol), .raw (.int .i64 x.a.frm), .raw (.int .i64 x.a.til), .lst 1 (x.a.certs.map encN)]), .top, .top, .top, .top, .top, .top, .top, .top, .top, .top, .top, .top, .top, .top, .top, .top, .top, .top, .top, .top, .top, .top, .top, .top, .top, .top, .top, .top, .top, .top, .top, .top, .top, .top, .top, .top, .top, .top, .top, .top, .top, .top, .top, .top, .top, .top, .top, .top, .top, .top, .top, .top, .top, .top, .top, .top, .top, .top, .top, .top, .top, .top, .top, .top, .top, .top, .top, .top, .top, .top, .top, .top, .top, .top, .top, .top, .top, .top, .top, .top, .top, .top, .top, .top, .top, .top, .top, .top, .top, .top, .top, .top, .top, .top, .top, .top, .top, .top, .top, .top, .top, .top, .top, .top, .top, .top, .top, .top, .top, .top, .top, .top, .top, .top, .top, .top, .top, .top, .top, .top, .top, .top, .top, .top, .top, .top, .top, .top, .top, .top, .top, .top, .top, .top, .top, .top], [.box (encDk x.d), .box [.lst 3 (n.nodes.map encNd), .lst 5 (n.devs.map encDv)], optO (L 6) (.box (cond (L 8) [.raw (.int .i64 x.a.num), .raw (.int .i64 x.a.kind), .raw (.int .i64 x.a.state), .raw (.int .i64 x.a.round), .lst 1 (x.a.zone.map encN), .raw (.int .i64 x.a.safe), .lst 3 (x.a.locks.map encLk), .raw (.string x.a.iss), .raw (.string x.a.hol), .raw (.int .i64 x.a.frm), .raw (.int .i64 x.a.til), .lst 1 (x.a.certs.map encN)] [.raw (.int .i64 0), .raw (.int .i64 0), .raw (.int .i64 0), .raw (.int .i64 0), .raw (.slice none 0 0), .raw (.int .i64 0), .raw (.slice none 0 0), .raw (.string ⟨#[]⟩), .raw (.string ⟨#[]⟩), .raw (.int .i64 0), .raw (.int .i64 0), .raw (.slice none 0 0)]))]⟩ := rfl

set_option maxHeartbeats 32000000 in
theorem overlapShrinks (l : List Int) (hl : NumsOk l) : Fn1 Tryd.prog GT0 5 [.lst 1 (l.map encN)] (.raw (.bool true)) [] := by
  have ca := awake27
  have cf := few l hl.len
  by_cases h400 : l.length ≤ 400
  · have cn := newDeck l
    have hdk := hl.deck
    rw [decide_eq_true h400] at cf
    refine holds_of Tryd.func5 rfl rfl ?_
    refine J_run 200 ?_
    delta Tryd.f5
    repeat' (first
      | (simp (maxSteps := 1000000) (disch := omega) only [go_sem])
      | ((with_reducible refine CallA.pure ca ?_ ?_); (· simp (disch := omega) only [go_sem]); rintro _ _ ⟨rfl, rfl⟩)
      | ((with_reducible refine CallA.pure cf ?_ ?_); (· simp (disch := omega) only [go_sem]); rintro _ _ ⟨rfl, rfl⟩)
      | ((with_reducible refine CallA.pure cn ?_ ?_); (· simp (disch := omega) only [go_sem]); rintro _ _ ⟨rfl, rfl⟩)
      | ((with_reducible first | refine gDt ?_ ?_ | refine gDf ?_ ?_ | refine gNt ?_ ?_ | refine gNf ?_ ?_ | refine cD ?_ ?_ | refine cN ?_ ?_ | refine cB ?_ ?_ | refine gB ?_ ?_) <;> intro h)
      | with_reducible first | refine And.intro ?_ ?_ | refine J_seq ?_ | refine J_block ?_ | refine J_inBlock ?_ | refine rC ?_ | refine rR ?_ | refine rE ?_ | refine rG ?_ | refine FinQ.now ?_ | refine FinQ.end ?_)
    refine CallA.mut [0] ?_ ?_ ?_ ?_ (tieD _ hdk) ?_
    · simp only [go_sem]
    · simp only [go_sem]
    · simp only [go_sem]
    · simp only [go_sem]
    rintro _ _ ⟨n, st, d1, hd1, hno, hn6, hv1, hv10, hst, hst12, rfl, rfl⟩
    have cL := fun (d : Dk) (hd : d.ok) => listD d hd n hno (by omega) (by omega)
    have cD := fun (d : Dk) (hd : d.ok) => docD d hd n hno (by omega) (by omega)
    simp only [encNet] at cL cD ⊢
    iterate 6 (all_goals (try (first
      | (simp (maxSteps := 1000000) (disch := omega) only [go_sem])
      | ((with_reducible first | refine gDt ?_ ?_ | refine gDf ?_ ?_ | refine gNt ?_ ?_ | refine gNf ?_ ?_ | refine cD ?_ ?_ | refine cN ?_ ?_ | refine cB ?_ ?_ | refine gB ?_ ?_) <;> intro h)
      | with_reducible first | refine And.intro ?_ ?_ | refine rG ?_ | refine FinQ.now ?_ | refine FinQ.end ?_)))
    first | refine J_seq ?_ | skip
    have hx0 : Doc.zero.small n := ⟨by simp [Doc.zero], locks_nil hno, fun k hk => (by cases hk), by simp [Doc.zero], by decide, by decide⟩
    refine J_inv2 (by kernel_rfl) [2, 5] (sShr n) (fun x : IShr => x.Ok n) ⟨d1, [], .zero⟩ 9 rfl (by kernel_rfl) ⟨hd1, by simp, by simp, hx0⟩ ?_ ?_ ?_
    · rw [sShr_eq]
      refine SemLe.trans (SemLe.pad 1) ?_
      refine .le ?_ ?_
      · simp [go_sem]
      · simp
    · refine invSteps_cons 0 (fun L x hL hdep hcl hok K hK => ?_) ?_
      · have u2 : L 2 = false := hcl.no (i := 2) (j := 0) (by kernel_rfl) hL
        have u7 : L 7 = false := hcl.no (i := 7) (j := 2) (by kernel_rfl) u2
        have ok := hok
        rw [sShr_eq]
        simp (maxSteps := 1000000) (disch := omega) only [go_sem, Nat.reduceLT, hL, opt_true, opt_false, optO_true, optO_false, cond_true, cond_false, u2, u7, encDoc]
        refine hK x _ hok ?_
        rw [sShr_eq]
        refine .le ?_ ?_
        · cases h6 : L 6 <;> cases h8 : L 8 <;> simp_all [go_sem, upd, encDoc]
        · simp
      refine invSteps_cons 1 (fun L x hL hdep hcl hok K hK => ?_) ?_
      · have u2 : L 2 = false := hcl.no (i := 2) (j := 1) (by kernel_rfl) hL
        have u7 : L 7 = false := hcl.no (i := 7) (j := 2) (by kernel_rfl) u2
        have ok := hok
        rw [sShr_eq]
        simp (maxSteps := 1000000) (disch := omega) only [go_sem, Nat.reduceLT, hL, opt_true, opt_false, optO_true, optO_false, cond_true, cond_false, u2, u7, encDoc]
        refine hK x _ hok ?_
        rw [sShr_eq]
        refine .le ?_ ?_
        · cases h6 : L 6 <;> cases h8 : L 8 <;> simp_all [go_sem, upd, encDoc]
        · simp
      refine invSteps_cons 2 (fun L x hL hdep hcl hok K hK => ?_) ?_
      · have d0 : L 0 = true := hdep 0 (by kernel_rfl)
        have d1 : L 1 = true := hdep 1 (by kernel_rfl)
        have u7 : L 7 = false := hcl.no (i := 7) (j := 2) (by kernel_rfl) hL
        have ok := hok
        rw [sShr_eq]
        simp (maxSteps := 1000000) (disch := omega) only [go_sem, Nat.reduceLT, hL, opt_true, opt_false, optO_true, optO_false, cond_true, cond_false, d0, d1, u7, encDoc]
        refine CallA.mut [0] ?_ ?_ ?_ ?_ (cL x.d ok.hd) ?_
        · simp (disch := omega) only [go_sem, encDoc]
        · simp (disch := omega) only [go_sem, encDoc]
        · simp (disch := omega) only [go_sem, encDoc]
        · simp (disch := omega) only [go_sem, encDoc]
        rintro _ _ ⟨y, d2, hd2, hl4, hy, rfl, rfl⟩
        simp (maxSteps := 1000000) (disch := omega) only [go_sem, Nat.reduceLT, encDoc]
        refine hK (⟨d2, y, x.a⟩) _ ({ ok with hd := hd2, hl := hl4, hs := hy }) ?_
        rw [sShr_eq]
        refine .le ?_ ?_
        · cases h6 : L 6 <;> cases h8 : L 8 <;> simp_all [go_sem, upd, encDoc]
        · simp
      refine invSteps_cons 3 (fun L x hL hdep hcl hok K hK => ?_) ?_
      · have u5 : L 5 = false := hcl.no (i := 5) (j := 3) (by kernel_rfl) hL
        have u8 : L 8 = false := hcl.no (i := 8) (j := 5) (by kernel_rfl) u5
        have ok := hok
        rw [sShr_eq]
        simp (maxSteps := 1000000) (disch := omega) only [go_sem, Nat.reduceLT, hL, opt_true, opt_false, optO_true, optO_false, cond_true, cond_false, u5, u8, encDoc]
        refine hK x _ hok ?_
        rw [sShr_eq]
        refine .le ?_ ?_
        · cases h6 : L 6 <;> cases h8 : L 8 <;> simp_all [go_sem, upd, encDoc]
        · simp
      refine invSteps_cons 4 (fun L x hL hdep hcl hok K hK => ?_) ?_
      · have u5 : L 5 = false := hcl.no (i := 5) (j := 4) (by kernel_rfl) hL
        have u8 : L 8 = false := hcl.no (i := 8) (j := 5) (by kernel_rfl) u5
        have ok := hok
        rw [sShr_eq]
        simp (maxSteps := 1000000) (disch := omega) only [go_sem, Nat.reduceLT, hL, opt_true, opt_false, optO_true, optO_false, cond_true, cond_false, u5, u8, encDoc]
        refine hK x _ hok ?_
        rw [sShr_eq]
        refine .le ?_ ?_
        · cases h6 : L 6 <;> cases h8 : L 8 <;> simp_all [go_sem, upd, encDoc]
        · simp
      refine invSteps_cons 5 (fun L x hL hdep hcl hok K hK => ?_) ?_
      · have d3 : L 3 = true := hdep 3 (by kernel_rfl)
        have d4 : L 4 = true := hdep 4 (by kernel_rfl)
        have u8 : L 8 = false := hcl.no (i := 8) (j := 5) (by kernel_rfl) hL
        have ok := hok
        rw [sShr_eq]
        simp (maxSteps := 1000000) (disch := omega) only [go_sem, Nat.reduceLT, hL, opt_true, opt_false, optO_true, optO_false, cond_true, cond_false, d3, d4, u8, encDoc]
        refine CallA.mut [0] ?_ ?_ ?_ ?_ (cD x.d ok.hd) ?_
        · simp (disch := omega) only [go_sem, encDoc]
        · simp (disch := omega) only [go_sem, encDoc]
        · simp (disch := omega) only [go_sem, encDoc]
        · simp (disch := omega) only [go_sem, encDoc]
        rintro _ _ ⟨y, d2, hd2, hy, rfl, rfl⟩
        simp (maxSteps := 1000000) (disch := omega) only [go_sem, Nat.reduceLT, encDoc]
        refine hK (⟨d2, x.l, y⟩) _ ({ ok with hd := hd2, ha := hy }) ?_
        rw [sShr_eq]
        refine .le ?_ ?_
        · cases h6 : L 6 <;> cases h8 : L 8 <;> simp_all [go_sem, upd, encDoc]
        · simp
      refine invSteps_cons 6 (fun L x hL hdep hcl hok K hK => ?_) ?_
      · have u8 : L 8 = false := hcl.no (i := 8) (j := 6) (by kernel_rfl) hL
        have ok := hok
        rw [sShr_eq]
        simp (maxSteps := 1000000) (disch := omega) only [go_sem, Nat.reduceLT, hL, opt_true, opt_false, optO_true, optO_false, cond_true, cond_false, u8, encDoc]
        refine hK x _ hok ?_
        refine SemLe.trans (SemLe.reloc (i := 2) (j := 3) ?_ (by decide) ?_ ?_ (by decide) (by decide)) ?_
        · simp [go_sem, hL, optO]
        · simp
        · simp
        simp (maxSteps := 1000000) only [go_sem, St.reloc, u8]
        rw [sShr_eq]
        refine .le ?_ ?_
        · cases h6 : L 6 <;> cases h8 : L 8 <;> simp_all [go_sem, upd, encDoc]
        · simp
      refine invSteps_cons 7 (fun L x hL hdep hcl hok K hK => ?_) ?_
      · have d2 : L 2 = true := hdep 2 (by kernel_rfl)
        have d0 : L 0 = true := hcl 2 0 (by kernel_rfl) d2
        have d1 : L 1 = true := hcl 2 1 (by kernel_rfl) d2
        have ok := hok
        rw [sShr_eq]
        simp (maxSteps := 1000000) (disch := omega) only [go_sem, Nat.reduceLT, hL, opt_true, opt_false, optO_true, optO_false, cond_true, cond_false, d2, d0, d1, encDoc]
        refine hK x _ hok ?_
        rw [sShr_eq]
        refine .le ?_ ?_
        · cases h6 : L 6 <;> cases h8 : L 8 <;> simp_all [go_sem, upd, encDoc]
        · simp
      refine invSteps_cons 8 (fun L x hL hdep hcl hok K hK => ?_) ?_
      · have d5 : L 5 = true := hdep 5 (by kernel_rfl)
        have d6 : L 6 = true := hdep 6 (by kernel_rfl)
        have d3 : L 3 = true := hcl 5 3 (by kernel_rfl) d5
        have d4 : L 4 = true := hcl 5 4 (by kernel_rfl) d5
        have ok := hok
        rw [sShr_eq]
        simp (maxSteps := 1000000) (disch := omega) only [go_sem, Nat.reduceLT, hL, opt_true, opt_false, optO_true, optO_false, cond_true, cond_false, d5, d6, d3, d4, encDoc]
        refine hK x _ hok ?_
        rw [sShr_eq]
        refine .le ?_ ?_
        · cases h6 : L 6 <;> cases h8 : L 8 <;> simp_all [go_sem, upd, encDoc]
        · simp
      exact trivial
    rintro ⟨d2, L, a⟩ ⟨hd2, hL4, hsm, ha⟩
    simp only at hd2 hL4 hsm ha
    rw [sShr_eq]
    simp only [go_sem, decide_true, Nat.reduceLT, opt_true, optO_true, cond_true]
    refine J_top (upto 42 47) ?_
    simp only [go_sem]
    have hdl := hno.dl
    have hlk := ha.lk
    have hky := ha.ky
    have h18 : a.locks.length ≤ 18 := key_len (lo := 10) 18 a.locks (fun x hx => by have := hky x hx; omega) hlk.key
    have c2 := fun (d : Dk) (hd : d.ok) => one d hd 2 (by decide)
    refine J_run 200 ?_
    repeat' (first
      | (simp (maxSteps := 1000000) (disch := omega) only [go_sem, Nat.reduceLT])
      | ((with_reducible first | refine gDt ?_ ?_ | refine gDf ?_ ?_ | refine gNt ?_ ?_ | refine gNf ?_ ?_ | refine cD ?_ ?_ | refine cN ?_ ?_ | refine cB ?_ ?_ | refine gB ?_ ?_) <;> intro h)
      | with_reducible first | refine And.intro ?_ ?_ | refine J_seq ?_ | refine J_block ?_ | refine J_inBlock ?_ | refine rC ?_ | refine rR ?_ | refine rE ?_ | refine rG ?_)
    refine J_sem (SemLe.nilBox 3 6 3 (cs := _) rfl rfl) ?_
    simp only [go_sem, St.nilBox]
    refine J_for ([9, 10, 11, 12, 13, 14] ++ upto 54 106) (fun x : Nat × List Lk × Dk => [(53, .raw (.int .i64 x.1))]) (fun x => [.box (encDk x.2.2), .box [.lst 3 (n.nodes.map encNd), .lst 5 (n.devs.map encDv)], .box [.raw (.int .i64 a.num), .raw (.int .i64 a.kind), .raw (.int .i64 a.state), .raw (.int .i64 a.round), .lst 1 (a.zone.map encN), .raw (.int .i64 a.safe), .lst 3 (a.locks.map encLk), .raw (.string a.iss), .raw (.string a.hol), .raw (.int .i64 a.frm), .raw (.int .i64 a.til), .lst 1 (a.certs.map encN)], .box [.raw (.int .i64 a.num), .raw (.int .i64 a.kind), .raw (.int .i64 a.state), .raw (.int .i64 a.round), .lst 1 (a.zone.map encN), .raw (.int .i64 a.safe), .own 4 3 0 (x.2.1).length, .raw (.string a.iss), .raw (.string a.hol), .raw (.int .i64 a.frm), .raw (.int .i64 a.til), .lst 1 (a.certs.map encN)], .arr 3 (x.2.1.map encLk)]) (fun x => x.1 ≤ n.devs.length ∧ Grown n a.locks x.1 x.2.1 ∧ x.2.2.ok) (fun x => n.devs.length - x.1) (0, [], d2) ⟨by simp, Grown.zero (fun x hx => by have := hlk.each x hx; unfold lErr at this; split at this; (· omega); (· omega)), hd2⟩ (.le (by simp [go_sem]) (by simp)) ?_
    clear hd1 hd2 d1 d2
    rintro ⟨i, b, d3⟩ ⟨hi, hG, hd3⟩
    simp only at hi hG hd3 ⊢
    by_cases hlt : i < n.devs.length
    · have hgd := getD_Dv hlt
      have hbl : b.length ≤ 100 := by
        have h1 := hG.len
        have h2 : (a.locks.filter fun x => decide (x.dev < (i : Int))).length ≤ a.locks.length := List.length_filter_le _ _
        omega
      refine J_run 200 ?_
      repeat' (first
        | (simp (maxSteps := 1000000) (disch := omega) only [go_sem, hgd, Nat.reduceLT])
        | ((with_reducible first | refine gDt ?_ ?_ | refine gDf ?_ ?_ | refine gNt ?_ ?_ | refine gNf ?_ ?_ | refine cD ?_ ?_ | refine cN ?_ ?_ | refine cB ?_ ?_ | refine gB ?_ ?_) <;> intro h)
        | with_reducible first | refine And.intro ?_ ?_)
      first | refine J_seq ?_ | skip
      refine J_mergeN 1 (upto 58 70) (fun _ : Unit => [(11, .raw (.bool (gapK n.devs[i].kind)))]) (fun _ => [.box (encDk d3), .box [.lst 3 (n.nodes.map encNd), .lst 5 (n.devs.map encDv)], .box [.raw (.int .i64 a.num), .raw (.int .i64 a.kind), .raw (.int .i64 a.state), .raw (.int .i64 a.round), .lst 1 (a.zone.map encN), .raw (.int .i64 a.safe), .lst 3 (a.locks.map encLk), .raw (.string a.iss), .raw (.string a.hol), .raw (.int .i64 a.frm), .raw (.int .i64 a.til), .lst 1 (a.certs.map encN)], .box [.raw (.int .i64 a.num), .raw (.int .i64 a.kind), .raw (.int .i64 a.state), .raw (.int .i64 a.round), .lst 1 (a.zone.map encN), .raw (.int .i64 a.safe), .own 4 3 0 (b).length, .raw (.string a.iss), .raw (.string a.hol), .raw (.int .i64 a.frm), .raw (.int .i64 a.til), .lst 1 (a.certs.map encN)], .arr 3 (b.map encLk), .box [.raw (.string n.devs[i].name), .raw (.int .i64 n.devs[i].kind), .raw (.int .i64 n.devs[i].a), .raw (.int .i64 n.devs[i].b), .raw (.int .i64 n.devs[i].comp)]]) (fun _ => True) ?_ ?_
      · simp only [go_sem]
        refine J_run 200 ?_
        by_cases k3 : n.devs[i].kind = 3
        · have e3 := decide_eq_true k3
          have eg : gapK n.devs[i].kind = true := by rw [k3]; rfl
          repeat' (first
            | (simp (maxSteps := 1000000) (disch := omega) only [go_sem, e3, Nat.reduceLT])
            | ((with_reducible first | refine gDt ?_ ?_ | refine gDf ?_ ?_ | refine gNt ?_ ?_ | refine gNf ?_ ?_ | refine cD ?_ ?_ | refine cN ?_ ?_ | refine cB ?_ ?_ | refine gB ?_ ?_) <;> intro h)
            | with_reducible first | refine And.intro ?_ ?_ | refine J_seq ?_ | refine J_block ?_ | refine J_inBlock ?_ | refine rC ?_ | refine rR ?_ | refine rE ?_ | refine rG ?_)
          refine .mk () trivial ?_ ?_
          · rw [eg]; simp [go_sem]
          · simp
        have e3 := decide_eq_false k3
        by_cases k1 : n.devs[i].kind = 1
        · have e1 := decide_eq_true k1
          have eg : gapK n.devs[i].kind = true := by rw [k1]; rfl
          repeat' (first
            | (simp (maxSteps := 1000000) (disch := omega) only [go_sem, e3, e1, Nat.reduceLT])
            | ((with_reducible first | refine gDt ?_ ?_ | refine gDf ?_ ?_ | refine gNt ?_ ?_ | refine gNf ?_ ?_ | refine cD ?_ ?_ | refine cN ?_ ?_ | refine cB ?_ ?_ | refine gB ?_ ?_) <;> intro h)
            | with_reducible first | refine And.intro ?_ ?_ | refine J_seq ?_ | refine J_block ?_ | refine J_inBlock ?_ | refine rC ?_ | refine rR ?_ | refine rE ?_ | refine rG ?_)
          refine .mk () trivial ?_ ?_
          · rw [eg]; simp [go_sem]
          · simp
        have e1 := decide_eq_false k1
        by_cases k6 : n.devs[i].kind = 6
        · have e6 := decide_eq_true k6
          have eg : gapK n.devs[i].kind = true := by rw [k6]; rfl
          repeat' (first
            | (simp (maxSteps := 1000000) (disch := omega) only [go_sem, e3, e1, e6, Nat.reduceLT])
            | ((with_reducible first | refine gDt ?_ ?_ | refine gDf ?_ ?_ | refine gNt ?_ ?_ | refine gNf ?_ ?_ | refine cD ?_ ?_ | refine cN ?_ ?_ | refine cB ?_ ?_ | refine gB ?_ ?_) <;> intro h)
            | with_reducible first | refine And.intro ?_ ?_ | refine J_seq ?_ | refine J_block ?_ | refine J_inBlock ?_ | refine rC ?_ | refine rR ?_ | refine rE ?_ | refine rG ?_)
          refine .mk () trivial ?_ ?_
          · rw [eg]; simp [go_sem]
          · simp
        · have e6 := decide_eq_false k6
          have eg : gapK n.devs[i].kind = false := by unfold gapK; exact decide_eq_false (by omega)
          repeat' (first
            | (simp (maxSteps := 1000000) (disch := omega) only [go_sem, e3, e1, e6, Nat.reduceLT])
            | ((with_reducible first | refine gDt ?_ ?_ | refine gDf ?_ ?_ | refine gNt ?_ ?_ | refine gNf ?_ ?_ | refine cD ?_ ?_ | refine cN ?_ ?_ | refine cB ?_ ?_ | refine gB ?_ ?_) <;> intro h)
            | with_reducible first | refine And.intro ?_ ?_ | refine J_seq ?_ | refine J_block ?_ | refine J_inBlock ?_ | refine rC ?_ | refine rR ?_ | refine rE ?_ | refine rG ?_)
          refine .mk () trivial ?_ ?_
          · rw [eg]; simp [go_sem]
          · simp
      rintro _ _
      obtain ⟨g, hg⟩ : ∃ g, gapK n.devs[i].kind = g := ⟨_, rfl⟩
      rw [hg]
      simp only [go_sem]
      refine J_run 200 ?_
      repeat' (first
        | (simp (maxSteps := 1000000) (disch := omega) only [go_sem, Nat.reduceLT])
        | ((with_reducible first | refine gDt ?_ ?_ | refine gDf ?_ ?_ | refine gNt ?_ ?_ | refine gNf ?_ ?_ | refine cD ?_ ?_ | refine cN ?_ ?_ | refine cB ?_ ?_ | refine gB ?_ ?_) <;> intro h)
        | with_reducible first | refine And.intro ?_ ?_ | refine J_seq ?_ | refine J_block ?_ | refine J_inBlock ?_ | refine rC ?_ | refine rR ?_ | refine rE ?_ | refine rG ?_)
      refine J_for ([13, 14] ++ upto 75 88) (fun k : Nat => [(74, .raw (.int .i64 k)), (12, .raw (.bool (anyD (a.locks.take k) i)))]) (fun k => [.box (encDk d3), .box [.lst 3 (n.nodes.map encNd), .lst 5 (n.devs.map encDv)], .box [.raw (.int .i64 a.num), .raw (.int .i64 a.kind), .raw (.int .i64 a.state), .raw (.int .i64 a.round), .lst 1 (a.zone.map encN), .raw (.int .i64 a.safe), .lst 3 (a.locks.map encLk), .raw (.string a.iss), .raw (.string a.hol), .raw (.int .i64 a.frm), .raw (.int .i64 a.til), .lst 1 (a.certs.map encN)], .box [.raw (.int .i64 a.num), .raw (.int .i64 a.kind), .raw (.int .i64 a.state), .raw (.int .i64 a.round), .lst 1 (a.zone.map encN), .raw (.int .i64 a.safe), .own 4 3 0 (b ++ atD (a.locks.take k) i).length, .raw (.string a.iss), .raw (.string a.hol), .raw (.int .i64 a.frm), .raw (.int .i64 a.til), .lst 1 (a.certs.map encN)], .arr 3 ((b ++ atD (a.locks.take k) i).map encLk), .box [.raw (.string n.devs[i].name), .raw (.int .i64 n.devs[i].kind), .raw (.int .i64 n.devs[i].a), .raw (.int .i64 n.devs[i].b), .raw (.int .i64 n.devs[i].comp)]]) (fun k => k ≤ a.locks.length) (fun k => a.locks.length - k) 0 (by omega) (.le (by simp [go_sem, atD, anyD]) (by simp)) ?_
      intro k hk
      have hal := atD_len (l := a.locks) (i := i) (k := k)
      by_cases hkt : k < a.locks.length
      · have hgl := getD_Lk hkt
        have ta := atD_next (i := i) hkt
        have tn := anyD_next (i := i) hkt
        obtain ⟨F, hF⟩ : ∃ F, b ++ atD (a.locks.take k) i = F := ⟨_, rfl⟩
        have hFl : F.length ≤ 200 := by rw [← hF, List.length_append]; omega
        have hFn : F.length = b.length + (atD (a.locks.take k) i).length := by rw [← hF, List.length_append]
        obtain ⟨W, hW⟩ : ∃ W, anyD (a.locks.take k) i = W := ⟨_, rfl⟩
        rw [hW] at tn
        rw [hF, hW]
        by_cases hd : a.locks[k].dev = (i : Int)
        · have ed := decide_eq_true hd
          rw [ed, Bool.or_true] at tn
          rw [if_pos hd] at ta
          refine J_run 200 ?_
          repeat' (first
            | (simp (maxSteps := 1000000) (disch := omega) only [go_sem, hgl, ed, Nat.reduceLT])
            | ((with_reducible first | refine gDt ?_ ?_ | refine gDf ?_ ?_ | refine gNt ?_ ?_ | refine gNf ?_ ?_ | refine cD ?_ ?_ | refine cN ?_ ?_ | refine cB ?_ ?_ | refine gB ?_ ?_) <;> intro h)
            | with_reducible first | refine And.intro ?_ ?_ | refine J_seq ?_ | refine J_block ?_ | refine J_inBlock ?_ | refine rC ?_ | refine rR ?_ | refine rE ?_ | refine rG ?_)
          refine .mk (k + 1) hkt (by omega) ?_ ?_
          · rw [tn, ta, ← List.append_assoc, hF]; simp [go_sem, encLk, hFn]; try omega
          · simp
        · have ed := decide_eq_false hd
          rw [ed, Bool.or_false] at tn
          rw [if_neg hd, List.append_nil] at ta
          refine J_run 200 ?_
          repeat' (first
            | (simp (maxSteps := 1000000) (disch := omega) only [go_sem, hgl, ed, Nat.reduceLT])
            | ((with_reducible first | refine gDt ?_ ?_ | refine gDf ?_ ?_ | refine gNt ?_ ?_ | refine gNf ?_ ?_ | refine cD ?_ ?_ | refine cN ?_ ?_ | refine cB ?_ ?_ | refine gB ?_ ?_) <;> intro h)
            | with_reducible first | refine And.intro ?_ ?_ | refine J_seq ?_ | refine J_block ?_ | refine J_inBlock ?_ | refine rC ?_ | refine rR ?_ | refine rE ?_ | refine rG ?_)
          refine .mk (k + 1) hkt (by omega) ?_ ?_
          · rw [tn, ta, hF]; simp [go_sem, hFn]
          · simp
      · have hke : k = a.locks.length := by omega
        subst hke
        rw [List.take_length]
        have hG1 := hG.old hlk (fun x hx => by have := hky x hx; omega)
        cases hW : anyD a.locks i with
        | true =>
          obtain ⟨F, hF⟩ : ∃ F, b ++ atD a.locks i = F := ⟨_, rfl⟩
          rw [hF] at hG1 ⊢
          cases g
          all_goals
            refine J_run 200 ?_
            repeat' (first
              | (simp (maxSteps := 1000000) (disch := omega) only [go_sem, Nat.reduceLT])
              | ((with_reducible first | refine gDt ?_ ?_ | refine gDf ?_ ?_ | refine gNt ?_ ?_ | refine gNf ?_ ?_ | refine cD ?_ ?_ | refine cN ?_ ?_ | refine cB ?_ ?_ | refine gB ?_ ?_) <;> intro h)
              | with_reducible first | refine And.intro ?_ ?_ | refine J_seq ?_ | refine J_block ?_ | refine J_inBlock ?_ | refine rC ?_ | refine rR ?_ | refine rE ?_ | refine rG ?_)
            refine .mk (i + 1, F, d3) ⟨hlt, hG1, hd3⟩ (by simp only; omega) ?_ ?_
            · simp [go_sem]
            · simp
        | false =>
          have hno2 := anyD_none hW
          have hnew := hG.new hlk (fun x hx => by have := hky x hx; omega) hno2
          rw [hno2, List.append_nil] at hG1 ⊢
          cases g
          · refine J_run 200 ?_
            repeat' (first
              | (simp (maxSteps := 1000000) (disch := omega) only [go_sem, Nat.reduceLT])
              | ((with_reducible first | refine gDt ?_ ?_ | refine gDf ?_ ?_ | refine gNt ?_ ?_ | refine gNf ?_ ?_ | refine cD ?_ ?_ | refine cN ?_ ?_ | refine cB ?_ ?_ | refine gB ?_ ?_) <;> intro h)
              | with_reducible first | refine And.intro ?_ ?_ | refine J_seq ?_ | refine J_block ?_ | refine J_inBlock ?_ | refine rC ?_ | refine rR ?_ | refine rE ?_ | refine rG ?_)
            refine .mk (i + 1, b, d3) ⟨hlt, hG1, hd3⟩ (by simp only; omega) ?_ ?_
            · simp [go_sem]
            · simp
          · have hnew := hnew (by rw [getD_get hlt]; exact hg)
            refine J_run 200 ?_
            repeat' (first
              | (simp (maxSteps := 1000000) (disch := omega) only [go_sem, Nat.reduceLT])
              | ((with_reducible refine CallA.mut [0] ?_ ?_ ?_ ?_ (c2 d3 hd3) ?_); (· simp (disch := omega) only [go_sem, Nat.reduceLT]); (· simp (disch := omega) only [go_sem, Nat.reduceLT]); (· simp (disch := omega) only [go_sem, Nat.reduceLT]); (· simp (disch := omega) only [go_sem, Nat.reduceLT]); rintro _ _ ⟨(_|_), d4, hd4, rfl, rfl⟩)
              | ((with_reducible first | refine gDt ?_ ?_ | refine gDf ?_ ?_ | refine gNt ?_ ?_ | refine gNf ?_ ?_ | refine cD ?_ ?_ | refine cN ?_ ?_ | refine cB ?_ ?_ | refine gB ?_ ?_) <;> intro h)
              | with_reducible first | refine And.intro ?_ ?_ | refine J_seq ?_ | refine J_block ?_ | refine J_inBlock ?_ | refine rC ?_ | refine rR ?_ | refine rE ?_ | refine rG ?_)
            · refine .mk (i + 1, b, d4) ⟨hlt, hG1, hd4⟩ (by simp only; omega) ?_ ?_
              · simp [go_sem]
              · simp
            · refine .mk (i + 1, b ++ [⟨i, 1, 500 + i⟩], d4) ⟨hlt, hnew, hd4⟩ (by simp only; omega) ?_ ?_
              · simp [go_sem, encLk]
              · simp
    · have hie : i = n.devs.length := by omega
      subst hie
      have hLb := hG.locks hlk hky
      have hgp := hG.gaps
      simp only [go_sem]
      refine J_frz [4] ?_
      simp only [go_sem, take_lm]
      have hchk := grow_chk (a := a) hlk hLb
      have has := smallQ ha
      have hbs : ({ a with locks := b } : Doc).sized := ⟨has.zl, by have := hLb.len; simp only; omega, has.cl, has.il, has.hl⟩
      have hsz : ∀ q, q ∈ L → q.sized := fun q hq => smallQ (hsm q hq)
      have ra := ovRegion n hno.sized a has
      have rb := ovRegion n hno.sized { a with locks := b } hbs
      have ka := ovClashes n hno.sized L (by omega) hsz a has
      have kb := ovClashes n hno.sized L (by omega) hsz { a with locks := b } hbs
      by_cases hE : docChk n a = 0
      · have hEb : docChk n { a with locks := b } = 0 := hchk.trans hE
        have hRl := regionD_len (n := n) (x := a)
        have hSl := regionD_len (n := n) (x := { a with locks := b })
        rw [regionD_ok hE] at ra hRl
        rw [regionD_ok hEb] at rb hSl
        by_cases hA : allChk n L = 0
        · rw [clashE_ok hA hE] at ka
          rw [clashE_ok hA hEb] at kb
          have hreg := grow_reg hno (docChk_zero hE).2.2.1 hgp
          have hcl := grow_clash (l := L) hreg
          have hPl := clashL_len (n := n) (l := L) (d := a)
          have hQl := clashL_len (n := n) (l := L) (d := { a with locks := b })
          obtain ⟨R, hR⟩ : ∃ R, regD n a = R := ⟨_, rfl⟩
          obtain ⟨S, hS⟩ : ∃ R, regD n { a with locks := b } = R := ⟨_, rfl⟩
          obtain ⟨P, hP⟩ : ∃ R, clashL n L a = R := ⟨_, rfl⟩
          obtain ⟨Q, hQ⟩ : ∃ R, clashL n L { a with locks := b } = R := ⟨_, rfl⟩
          rw [hR] at ra hreg hRl
          rw [hS] at rb hreg hSl
          rw [hP] at ka hcl hPl
          rw [hQ] at kb hcl hQl
          simp only [encNet, encDoc] at ra rb ka kb hRl hSl
          refine J_run 200 ?_
          repeat' (first
            | (simp (maxSteps := 1000000) (disch := omega) only [go_sem])
            | ((with_reducible refine CallA.pure ra ?_ ?_); (· simp (disch := omega) only [go_sem]); rintro _ _ ⟨rfl, rfl⟩)
            | ((with_reducible refine CallA.pure rb ?_ ?_); (· simp (disch := omega) only [go_sem]); rintro _ _ ⟨rfl, rfl⟩)
            | ((with_reducible refine CallA.pure ka ?_ ?_); (· simp (disch := omega) only [go_sem]); rintro _ _ ⟨rfl, rfl⟩)
            | ((with_reducible refine CallA.pure kb ?_ ?_); (· simp (disch := omega) only [go_sem]); rintro _ _ ⟨rfl, rfl⟩)
            | ((with_reducible first | refine gDt ?_ ?_ | refine gDf ?_ ?_ | refine gNt ?_ ?_ | refine gNf ?_ ?_ | refine cD ?_ ?_ | refine cN ?_ ?_ | refine cB ?_ ?_ | refine gB ?_ ?_) <;> intro h)
            | with_reducible first | refine And.intro ?_ ?_ | refine J_seq ?_ | refine J_block ?_ | refine J_inBlock ?_ | refine rC ?_ | refine rR ?_ | refine rE ?_ | refine rG ?_)
          refine J_for ([24] ++ upto 165 171) (fun j : Nat => [(164, .raw (.int .i64 j))]) (fun _ => [.box (encDk d3), .box [.lst 3 (n.nodes.map encNd), .lst 5 (n.devs.map encDv)], .box [.raw (.int .i64 a.num), .raw (.int .i64 a.kind), .raw (.int .i64 a.state), .raw (.int .i64 a.round), .lst 1 (a.zone.map encN), .raw (.int .i64 a.safe), .lst 3 (a.locks.map encLk), .raw (.string a.iss), .raw (.string a.hol), .raw (.int .i64 a.frm), .raw (.int .i64 a.til), .lst 1 (a.certs.map encN)], .box [.raw (.int .i64 a.num), .raw (.int .i64 a.kind), .raw (.int .i64 a.state), .raw (.int .i64 a.round), .lst 1 (a.zone.map encN), .raw (.int .i64 a.safe), .lst 3 (b.map encLk), .raw (.string a.iss), .raw (.string a.hol), .raw (.int .i64 a.frm), .raw (.int .i64 a.til), .lst 1 (a.certs.map encN)]]) (fun j => j ≤ S.length) (fun j => S.length - j) 0 (by omega) (.le (by simp [go_sem]) (by simp)) ?_
          intro j hj
          by_cases hjt : j < S.length
          · have hgj := getD_N hjt
            have ch := Abs.has R S[j] (by omega)
            rw [decide_eq_true (hreg _ (List.getElem_mem hjt))] at ch
            refine J_run 200 ?_
            repeat' (first
              | (simp (maxSteps := 1000000) (disch := omega) only [go_sem, hgj])
              | ((with_reducible refine CallA.pure ch ?_ ?_); (· simp (disch := omega) only [go_sem, hgj]); rintro _ _ ⟨rfl, rfl⟩)
              | ((with_reducible first | refine gDt ?_ ?_ | refine gDf ?_ ?_ | refine gNt ?_ ?_ | refine gNf ?_ ?_ | refine cD ?_ ?_ | refine cN ?_ ?_ | refine cB ?_ ?_ | refine gB ?_ ?_) <;> intro h)
              | with_reducible first | refine And.intro ?_ ?_ | refine J_seq ?_ | refine J_block ?_ | refine J_inBlock ?_ | refine rC ?_ | refine rR ?_ | refine rE ?_ | refine rG ?_)
            refine .mk (j + 1) hjt (by omega) ?_ ?_
            · simp [go_sem]
            · simp
          refine J_run 200 ?_
          repeat' (first
            | (simp (maxSteps := 1000000) (disch := omega) only [go_sem])
            | ((with_reducible first | refine gDt ?_ ?_ | refine gDf ?_ ?_ | refine gNt ?_ ?_ | refine gNf ?_ ?_ | refine cD ?_ ?_ | refine cN ?_ ?_ | refine cB ?_ ?_ | refine gB ?_ ?_) <;> intro h)
            | with_reducible first | refine And.intro ?_ ?_ | refine J_seq ?_ | refine J_block ?_ | refine J_inBlock ?_ | refine rC ?_ | refine rR ?_ | refine rE ?_ | refine rG ?_)
          refine J_for ([26] ++ upto 176 182) (fun j : Nat => [(175, .raw (.int .i64 j))]) (fun _ => [.box (encDk d3), .box [.lst 3 (n.nodes.map encNd), .lst 5 (n.devs.map encDv)], .box [.raw (.int .i64 a.num), .raw (.int .i64 a.kind), .raw (.int .i64 a.state), .raw (.int .i64 a.round), .lst 1 (a.zone.map encN), .raw (.int .i64 a.safe), .lst 3 (a.locks.map encLk), .raw (.string a.iss), .raw (.string a.hol), .raw (.int .i64 a.frm), .raw (.int .i64 a.til), .lst 1 (a.certs.map encN)], .box [.raw (.int .i64 a.num), .raw (.int .i64 a.kind), .raw (.int .i64 a.state), .raw (.int .i64 a.round), .lst 1 (a.zone.map encN), .raw (.int .i64 a.safe), .lst 3 (b.map encLk), .raw (.string a.iss), .raw (.string a.hol), .raw (.int .i64 a.frm), .raw (.int .i64 a.til), .lst 1 (a.certs.map encN)]]) (fun j => j ≤ Q.length) (fun j => Q.length - j) 0 (by omega) (.le (by simp [go_sem]) (by simp)) ?_
          intro q hq
          by_cases hqt : q < Q.length
          · have hgq := getD_N hqt
            have ch := Abs.has P Q[q] (by omega)
            rw [decide_eq_true (hcl _ (List.getElem_mem hqt))] at ch
            refine J_run 200 ?_
            repeat' (first
              | (simp (maxSteps := 1000000) (disch := omega) only [go_sem, hgq])
              | ((with_reducible refine CallA.pure ch ?_ ?_); (· simp (disch := omega) only [go_sem, hgq]); rintro _ _ ⟨rfl, rfl⟩)
              | ((with_reducible first | refine gDt ?_ ?_ | refine gDf ?_ ?_ | refine gNt ?_ ?_ | refine gNf ?_ ?_ | refine cD ?_ ?_ | refine cN ?_ ?_ | refine cB ?_ ?_ | refine gB ?_ ?_) <;> intro h)
              | with_reducible first | refine And.intro ?_ ?_ | refine J_seq ?_ | refine J_block ?_ | refine J_inBlock ?_ | refine rC ?_ | refine rR ?_ | refine rE ?_ | refine rG ?_)
            refine .mk (q + 1) hqt (by omega) ?_ ?_
            · simp [go_sem]
            · simp
          · refine J_run 200 ?_
            repeat' (first
              | (simp (maxSteps := 1000000) (disch := omega) only [go_sem])
              | ((with_reducible first | refine gDt ?_ ?_ | refine gDf ?_ ?_ | refine gNt ?_ ?_ | refine gNf ?_ ?_ | refine cD ?_ ?_ | refine cN ?_ ?_ | refine cB ?_ ?_ | refine gB ?_ ?_) <;> intro h)
              | with_reducible first | refine And.intro ?_ ?_ | refine J_seq ?_ | refine J_block ?_ | refine J_inBlock ?_ | refine rC ?_ | refine rR ?_ | refine rE ?_ | refine rG ?_ | refine FinQ.now ?_ | refine FinQ.end ?_)
        · rw [clashE_all hA] at ka kb
          simp only [encNet, encDoc] at ra rb ka kb
          refine J_run 200 ?_
          repeat' (first
            | (simp (maxSteps := 1000000) (disch := omega) only [go_sem, hA])
            | ((with_reducible refine CallA.pure ra ?_ ?_); (· simp (disch := omega) only [go_sem, hA]); rintro _ _ ⟨rfl, rfl⟩)
            | ((with_reducible refine CallA.pure rb ?_ ?_); (· simp (disch := omega) only [go_sem, hA]); rintro _ _ ⟨rfl, rfl⟩)
            | ((with_reducible refine CallA.pure ka ?_ ?_); (· simp (disch := omega) only [go_sem, hA]); rintro _ _ ⟨rfl, rfl⟩)
            | ((with_reducible refine CallA.pure kb ?_ ?_); (· simp (disch := omega) only [go_sem, hA]); rintro _ _ ⟨rfl, rfl⟩)
            | ((with_reducible first | refine gDt ?_ ?_ | refine gDf ?_ ?_ | refine gNt ?_ ?_ | refine gNf ?_ ?_ | refine cD ?_ ?_ | refine cN ?_ ?_ | refine cB ?_ ?_ | refine gB ?_ ?_) <;> intro h)
            | with_reducible first | refine And.intro ?_ ?_ | refine J_seq ?_ | refine J_block ?_ | refine J_inBlock ?_ | refine rC ?_ | refine rR ?_ | refine rE ?_ | refine rG ?_ | refine FinQ.now ?_ | refine FinQ.end ?_)
      · have hEb : docChk n { a with locks := b } ≠ 0 := by rw [hchk]; exact hE
        rw [regionD_err hE] at ra
        rw [regionD_err hEb, hchk] at rb
        obtain ⟨e, he⟩ : ∃ e, docChk n a = e := ⟨_, rfl⟩
        by_cases hA : allChk n L = 0
        · rw [clashE_doc hA hE] at ka
          rw [clashE_doc hA hEb, hchk] at kb
          rw [he] at ra rb ka kb hE
          simp only [encNet, encDoc] at ra rb ka kb
          refine J_run 200 ?_
          repeat' (first
            | (simp (maxSteps := 1000000) (disch := omega) only [go_sem, hE])
            | ((with_reducible refine CallA.pure ra ?_ ?_); (· simp (disch := omega) only [go_sem, hE]); rintro _ _ ⟨rfl, rfl⟩)
            | ((with_reducible refine CallA.pure rb ?_ ?_); (· simp (disch := omega) only [go_sem, hE]); rintro _ _ ⟨rfl, rfl⟩)
            | ((with_reducible refine CallA.pure ka ?_ ?_); (· simp (disch := omega) only [go_sem, hE]); rintro _ _ ⟨rfl, rfl⟩)
            | ((with_reducible refine CallA.pure kb ?_ ?_); (· simp (disch := omega) only [go_sem, hE]); rintro _ _ ⟨rfl, rfl⟩)
            | ((with_reducible first | refine gDt ?_ ?_ | refine gDf ?_ ?_ | refine gNt ?_ ?_ | refine gNf ?_ ?_ | refine cD ?_ ?_ | refine cN ?_ ?_ | refine cB ?_ ?_ | refine gB ?_ ?_) <;> intro h)
            | with_reducible first | refine And.intro ?_ ?_ | refine J_seq ?_ | refine J_block ?_ | refine J_inBlock ?_ | refine rC ?_ | refine rR ?_ | refine rE ?_ | refine rG ?_ | refine FinQ.now ?_ | refine FinQ.end ?_)
        · rw [clashE_all hA] at ka kb
          rw [he] at ra rb hE
          simp only [encNet, encDoc] at ra rb ka kb
          refine J_run 200 ?_
          repeat' (first
            | (simp (maxSteps := 1000000) (disch := omega) only [go_sem, hE, hA])
            | ((with_reducible refine CallA.pure ra ?_ ?_); (· simp (disch := omega) only [go_sem, hE, hA]); rintro _ _ ⟨rfl, rfl⟩)
            | ((with_reducible refine CallA.pure rb ?_ ?_); (· simp (disch := omega) only [go_sem, hE, hA]); rintro _ _ ⟨rfl, rfl⟩)
            | ((with_reducible refine CallA.pure ka ?_ ?_); (· simp (disch := omega) only [go_sem, hE, hA]); rintro _ _ ⟨rfl, rfl⟩)
            | ((with_reducible refine CallA.pure kb ?_ ?_); (· simp (disch := omega) only [go_sem, hE, hA]); rintro _ _ ⟨rfl, rfl⟩)
            | ((with_reducible first | refine gDt ?_ ?_ | refine gDf ?_ ?_ | refine gNt ?_ ?_ | refine gNf ?_ ?_ | refine cD ?_ ?_ | refine cN ?_ ?_ | refine cB ?_ ?_ | refine gB ?_ ?_) <;> intro h)
            | with_reducible first | refine And.intro ?_ ?_ | refine J_seq ?_ | refine J_block ?_ | refine J_inBlock ?_ | refine rC ?_ | refine rR ?_ | refine rE ?_ | refine rG ?_ | refine FinQ.now ?_ | refine FinQ.end ?_)
  · rw [decide_eq_false h400] at cf
    refine holds_of Tryd.func5 rfl rfl ?_
    refine J_run 200 ?_
    delta Tryd.f5
    repeat' (first
      | (simp (maxSteps := 1000000) (disch := omega) only [go_sem])
      | ((with_reducible refine CallA.pure ca ?_ ?_); (· simp (disch := omega) only [go_sem]); rintro _ _ ⟨rfl, rfl⟩)
      | ((with_reducible refine CallA.pure cf ?_ ?_); (· simp (disch := omega) only [go_sem]); rintro _ _ ⟨rfl, rfl⟩)
      | ((with_reducible first | refine gDt ?_ ?_ | refine gDf ?_ ?_ | refine gNt ?_ ?_ | refine gNf ?_ ?_ | refine cD ?_ ?_ | refine cN ?_ ?_ | refine cB ?_ ?_ | refine gB ?_ ?_) <;> intro h)
      | with_reducible first | refine And.intro ?_ ?_ | refine J_seq ?_ | refine J_block ?_ | refine J_inBlock ?_ | refine rC ?_ | refine rR ?_ | refine rE ?_ | refine rG ?_ | refine FinQ.now ?_ | refine FinQ.end ?_)
theorem overlapShrinks_av (x : (Sh.slice (.int .i64)).Den) (o : (Sh.slice (.int .i64)).Ok x) : Fn1 Tryd.prog GT0 5 [(Sh.slice (.int .i64)).av x] (.raw (.bool true)) [] := overlapShrinks x (nums_ok o)
end Go.Proofs.YtfkiomkfoabnhaaDoor.Abs
