/- OverlapMutual, walked: it returns true. -/
import Derived.Test.YtfkiomkfoabnhaaDoorGB
import Derived.Test.YtfkiomkfoabnhaaDoorFE
import Derived.Test.YtfkiomkfoabnhaaDoorGX
import Derived.Test.YtfkiomkfoabnhaaDoorZNear
namespace Go.Proofs.YtfkiomkfoabnhaaDoor.Abs
set_option linter.unusedSimpArgs false
set_option linter.unusedVariables false
set_option maxRecDepth 100000
open Go Go.RowKit

theorem smallS {n : Net} {x : Doc} (h : x.small n) : x.sized :=
  ⟨by have := h.zl; omega, by have := h.lk.len; omega, by have := h.cl; omega, by have := h.il; omega, by have := h.hl; omega⟩
theorem meet_self {n : Net} {a : Doc} (h : docChk n a = 0) : meetB n a a = true := by
  obtain ⟨hn, _, hz, _, hl, _, _⟩ := docChk_zero h
  obtain ⟨_, hz0, hr⟩ := zoneChk_zero hz
  obtain ⟨v, hv⟩ := List.exists_mem_of_ne_nil _ hz0
  have hv2 := rising_mem hr hv
  have ev : ((v.toNat : Nat) : Int) = v := by omega
  have hb : ((v.toNat : Nat) : Int) ∈ a.zone := by rw [ev]; exact hv
  have hin : v ∈ regD n a := (regL_mem hn hr).2 ⟨hv2.1, .base hb⟩
  unfold meetB
  exact List.any_eq_true.2 ⟨v, hin, decide_eq_true hin⟩
structure IMut where
  d : Dk
  a : Doc
  b : Doc
structure IMut.Ok (n : Net) (x : IMut) : Prop where
  hd : x.d.ok
  ha : x.a.small n
  hb : x.b.small n
def sMut (n : Net) (L : Nat → Bool) (x : IMut) : St := ⟨[.top, .top, .top, .ref 0 0, .ref 1 0, .top, opt (L 6) (.ref 2 0), opt (L 7) (.ref 3 0), .top, .top, .top, .top, .top, .top, .top, .top, .top, .top, .top, .top, .top, .top, .top, .top, .top, .top, .top, .top, .top, .top, .top, .top, .top, opt (L 0) (.ref 0 0), opt (L 1) (.agg [.lst 3 (n.nodes.map encNd), .lst 5 (n.devs.map encDv)]), opt (L 2) (.agg [.raw (.int .i64 x.a.num), .raw (.int .i64 x.a.kind), .raw (.int .i64 x.a.state), .raw (.int .i64 x.a.round), .lst 1 (x.a.zone.map encN), .raw (.int .i64 x.a.safe), .lst 3 (x.a.locks.map encLk), .raw (.string x.a.iss), .raw (.string x.a.hol), .raw (.int .i64 x.a.frm), .raw (.int .i64 x.a.til), .lst 1 (x.a.certs.map encN)]), opt (L 3) (.ref 0 0), opt (L 4) (.agg [.lst 3 (n.nodes.map encNd), .lst 5 (n.devs.map encDv)]), opt (L 5) (.agg [.raw (.int .i64 x.b.num), .raw (.int .i64 x.b.kind), .raw (.int .i64 x.b.state), .raw (.int .i64 x.b.round), .lst 1 (x.b.zone.map encN), .raw (.int .i64 x.b.safe), .lst 3 (x.b.locks.map encLk), .raw (.string x.b.iss), .raw (.string x.b.hol), .raw (.int .i64 x.b.frm), .raw (.int .i64 x.b.til), .lst 1 (x.b.certs.map encN)]), .top, .top, .top, .top, .top, .top, .top, .top, .top, .top, .top, .top, .top, .top, .top, .top, .top, .top, .top, .top, .top, .top, .top, .top, .top, .top, .top, .top, .top, .top, .top, .top, .top, .top, .top, .top, .top, .top, .top, .top, .top, .top, .top, .top, .top, .top, .top, .top, .top, .top, .top, .top, .top, .top, .top, .top, .top, .top, .top, .top, .top, .top, .top, .top, .top, .top, .top, .top, .top, .top, .top, .top, .top, .top, .top, .top, .top, .top, .top, .top, .top, .top, .top, .top, .top, .top, .top, .top, .top, .top, .top, .top, .top, .top, .top], [.box (encDk x.d), .box [.lst 3 (n.nodes.map encNd), .lst 5 (n.devs.map encDv)], optO (L 6) (.box (cond (L 8) [.raw (.int .i64 x.a.num), .raw (.int .i64 x.a.kind), .raw (.int .i64 x.a.state), .raw (.int .i64 x.a.round), .lst 1 (x.a.zone.map encN), .raw (.int .i64 x.a.safe), .lst 3 (x.a.locks.map encLk), .raw (.string x.a.iss), .raw (.string x.a.hol), .raw (.int .i64 x.a.frm), .raw (.int .i64 x.a.til), .lst 1 (x.a.certs.map encN)] [.raw (.int .i64 0), .raw (.int .i64 0), .raw (.int .i64 0), .raw (.int .i64 0), .raw (.slice none 0 0), .raw (.int .i64 0), .raw (.slice none 0 0), .raw (.string ⟨#[]⟩), .raw (.string ⟨#[]⟩), .raw (.int .i64 0), .raw (.int .i64 0), .raw (.slice none 0 0)])), optO (L 7) (.box (cond (L 9) [.raw (.int .i64 x.b.num), .raw (.int .i64 x.b.kind), .raw (.int .i64 x.b.state), .raw (.int .i64 x.b.round), .lst 1 (x.b.zone.map encN), .raw (.int .i64 x.b.safe), .lst 3 (x.b.locks.map encLk), .raw (.string x.b.iss), .raw (.string x.b.hol), .raw (.int .i64 x.b.frm), .raw (.int .i64 x.b.til), .lst 1 (x.b.certs.map encN)] [.raw (.int .i64 0), .raw (.int .i64 0), .raw (.int .i64 0), .raw (.int .i64 0), .raw (.slice none 0 0), .raw (.int .i64 0), .raw (.slice none 0 0), .raw (.string ⟨#[]⟩), .raw (.string ⟨#[]⟩), .raw (.int .i64 0), .raw (.int .i64 0), .raw (.slice none 0 0)]))]⟩
theorem sMut_eq (n : Net) (L : Nat → Bool) (x : IMut) : sMut n L x = ⟨[.top, .top, .top, .ref 0 0, .ref 1 0, .top, opt (L 6) (.ref 2 0), opt (L 7) (.ref 3 0), .top, .top, .top, .top, .top, .top, .top, .top, .top, .top, .top, .top, .top, .top, .top, .top, .top, .top, .top, .top, .top, .top, .top, .top, .top, opt (L 0) (.ref 0 0), opt (L 1) (.agg [.lst 3 (n.nodes.map encNd), .lst 5 (n.devs.map encDv)]), opt (L 2) (.agg [.raw (.int .i64 x.a.num), .raw (.int .i64 x.a.kind), .raw (.int .i64 x.a.state), .raw (.int .i64 x.a.round), .lst 1 (x.a.zone.map encN), .raw (.int .i64 x.a.safe), .lst 3 (x.a.locks.map encLk), .raw (.string x.a.iss), .raw (.string x.a.hol), .raw (.int .i64 x.a.frm), .raw (.int .i64 x.a.til), .lst 1 (x.a.certs.map encN)]), opt (L 3) (.ref 0 0), opt (L 4) (.agg [.lst 3 (n.nodes.map encNd), .lst 5 (n.devs.map encDv)]), opt (L 5) (.agg [.raw (.int .i64 x.b.num), .raw (.int .i64 x.b.kind), .raw (.int .i64 x.b.state), .raw (.int .i64 x.b.round), .lst 1 (x.b.zone.map encN), .raw (.int .i64 x.b.safe), .lst 3 (x.b.locks.map encLk), .raw (.string x.b.iss), .raw (.string x.b.hol), .raw (.int .i64 x.b.frm), .raw (.int .i64 x.b.til), .lst 1 (x.b.certs.map encN)]), .top, .top, .top, .top, .top, .top, .top, .top, .top, .top, .top, .top, .top, .top, .top, .top, .top, .top, .top, .top, .top, .top, .top, .top, .top, .top, .top, .top, .top, .top, .top, .top, .top, .top, .top, .top, .top, .top, .top, .top, .top, .top, .top, .top, .top, .top, .top, .top, .top, .top, .top, .top, .top, .top, .top, .top, .top, .top, .top, .top, .top, .top, .top, .top, .top, .top, .top, .top, .top, .top, .top, .top, .top, .top, .top, .top, .top, .top, .top, .top, .top, .top, .top, .top, .top, .top, .top, .top, .top, .top, .top, .top, .top, .top, .top], [.box (encDk x.d), .box [.lst 3 (n.nodes.map encNd), .lst 5 (n.devs.map encDv)], optO (L 6) (.box (cond (L 8) [.raw (.int .i64 x.a.num), .raw (.int .i64 x.a.kind), .raw (.int .i64 x.a.state), .raw (.int .i64 x.a.round), .lst 1 (x.a.zone.map encN), .raw (.int .i64 x.a.safe), .lst 3 (x.a.locks.map encLk), .raw (.string x.a.iss), .raw (.string x.a.hol), .raw (.int .i64 x.a.frm), .raw (.int .i64 x.a.til), .lst 1 (x.a.certs.map encN)] [.raw (.int .i64 0), .raw (.int .i64 0), .raw (.int .i64 0), .raw (.int .i64 0), .raw (.slice none 0 0), .raw (.int .i64 0), .raw (.slice none 0 0), .raw (.string ⟨#[]⟩), .raw (.string ⟨#[]⟩), .raw (.int .i64 0), .raw (.int .i64 0), .raw (.slice none 0 0)])), optO (L 7) (.box (cond (L 9) [.raw (.int .i64 x.b.num), .raw (.int .i64 x.b.kind), .raw (.int .i64 x.b.state), .raw (.int .i64 x.b.round), .lst 1 (x.b.zone.map encN), .raw (.int .i64 x.b.safe), .lst 3 (x.b.locks.map encLk), .raw (.string x.b.iss), .raw (.string x.b.hol), .raw (.int .i64 x.b.frm), .raw (.int .i64 x.b.til), .lst 1 (x.b.certs.map encN)] [.raw (.int .i64 0), .raw (.int .i64 0), .raw (.int .i64 0), .raw (.int .i64 0), .raw (.slice none 0 0), .raw (.int .i64 0), .raw (.slice none 0 0), .raw (.string ⟨#[]⟩), .raw (.string ⟨#[]⟩), .raw (.int .i64 0), .raw (.int .i64 0), .raw (.slice none 0 0)]))]⟩ := rfl

set_option maxHeartbeats 16000000 in
theorem overlapMutual (l : List Int) (hl : NumsOk l) : Fn1 Tryd.prog GT0 4 [.lst 1 (l.map encN)] (.raw (.bool true)) [] := by
  have ca := awake27
  have cf := few l hl.len
  by_cases h400 : l.length ≤ 400
  · have cn := newDeck l
    have hdk := hl.deck
    rw [decide_eq_true h400] at cf
    refine holds_of Tryd.func4 rfl rfl ?_
    refine J_run 200 ?_
    delta Tryd.f4
    iterate 12 (all_goals (try (first
      | (simp (maxSteps := 1000000) (disch := omega) only [go_sem])
      | ((with_reducible refine CallA.pure ca ?_ ?_); (· simp (disch := omega) only [go_sem]); rintro _ _ ⟨rfl, rfl⟩)
      | ((with_reducible refine CallA.pure cf ?_ ?_); (· simp (disch := omega) only [go_sem]); rintro _ _ ⟨rfl, rfl⟩)
      | ((with_reducible refine CallA.pure cn ?_ ?_); (· simp (disch := omega) only [go_sem]); rintro _ _ ⟨rfl, rfl⟩)
      | ((with_reducible first | refine gDt ?_ ?_ | refine gDf ?_ ?_ | refine gNt ?_ ?_ | refine gNf ?_ ?_ | refine cD ?_ ?_ | refine cN ?_ ?_ | refine cB ?_ ?_ | refine gB ?_ ?_) <;> intro h)
      | with_reducible first | refine And.intro ?_ ?_ | refine J_seq ?_ | refine J_block ?_ | refine J_inBlock ?_ | refine rC ?_ | refine rR ?_ | refine rE ?_ | refine rG ?_ | refine FinQ.now ?_ | refine FinQ.end ?_)))
    refine CallA.mut [0] ?_ ?_ ?_ ?_ (tieD _ hdk) ?_
    · simp only [go_sem]
    · simp only [go_sem]
    · simp only [go_sem]
    · simp only [go_sem]
    rintro _ _ ⟨n, st, d1, hd1, hno, hn6, hv1, hv10, hst, hst12, rfl, rfl⟩
    have cD := fun (d : Dk) (hd : d.ok) => docD d hd n hno (by omega) (by omega)
    simp only [encNet] at cD ⊢
    iterate 6 (all_goals (try (first
      | (simp (maxSteps := 1000000) (disch := omega) only [go_sem])
      | ((with_reducible first | refine gDt ?_ ?_ | refine gDf ?_ ?_ | refine gNt ?_ ?_ | refine gNf ?_ ?_ | refine cD ?_ ?_ | refine cN ?_ ?_ | refine cB ?_ ?_ | refine gB ?_ ?_) <;> intro h)
      | with_reducible first | refine And.intro ?_ ?_ | refine rG ?_ | refine FinQ.now ?_ | refine FinQ.end ?_)))
    first | refine J_seq ?_ | skip
    have hx0 : Doc.zero.small n := ⟨by simp [Doc.zero], locks_nil hno, fun k hk => (by cases hk), by simp [Doc.zero], by decide, by decide⟩
    refine J_inv2 (by kernel_rfl) [2, 5] (sMut n) (fun x : IMut => x.Ok n) ⟨d1, .zero, .zero⟩ 10 rfl (by kernel_rfl) ⟨hd1, hx0, hx0⟩ ?_ ?_ ?_
    · rw [sMut_eq]
      refine SemLe.trans (SemLe.pad 2) ?_
      refine .le ?_ ?_
      · simp [go_sem]
      · simp
    · refine invSteps_cons 0 (fun L x hL hdep hcl hok K hK => ?_) ?_
      · have u2 : L 2 = false := hcl.no (i := 2) (j := 0) (by kernel_rfl) hL
        have u8 : L 8 = false := hcl.no (i := 8) (j := 2) (by kernel_rfl) u2
        have ok := hok
        rw [sMut_eq]
        simp (maxSteps := 1000000) (disch := omega) only [go_sem, Nat.reduceLT, hL, opt_true, opt_false, optO_true, optO_false, cond_true, cond_false, u2, u8, encDoc]
        refine hK x _ hok ?_
        rw [sMut_eq]
        refine .le ?_ ?_
        · cases h6 : L 6 <;> cases h7 : L 7 <;> cases h8 : L 8 <;> cases h9 : L 9 <;> simp_all [go_sem, upd, encDoc]
        · simp
      refine invSteps_cons 1 (fun L x hL hdep hcl hok K hK => ?_) ?_
      · have u2 : L 2 = false := hcl.no (i := 2) (j := 1) (by kernel_rfl) hL
        have u8 : L 8 = false := hcl.no (i := 8) (j := 2) (by kernel_rfl) u2
        have ok := hok
        rw [sMut_eq]
        simp (maxSteps := 1000000) (disch := omega) only [go_sem, Nat.reduceLT, hL, opt_true, opt_false, optO_true, optO_false, cond_true, cond_false, u2, u8, encDoc]
        refine hK x _ hok ?_
        rw [sMut_eq]
        refine .le ?_ ?_
        · cases h6 : L 6 <;> cases h7 : L 7 <;> cases h8 : L 8 <;> cases h9 : L 9 <;> simp_all [go_sem, upd, encDoc]
        · simp
      refine invSteps_cons 2 (fun L x hL hdep hcl hok K hK => ?_) ?_
      · have d0 : L 0 = true := hdep 0 (by kernel_rfl)
        have d1 : L 1 = true := hdep 1 (by kernel_rfl)
        have u8 : L 8 = false := hcl.no (i := 8) (j := 2) (by kernel_rfl) hL
        have ok := hok
        rw [sMut_eq]
        simp (maxSteps := 1000000) (disch := omega) only [go_sem, Nat.reduceLT, hL, opt_true, opt_false, optO_true, optO_false, cond_true, cond_false, d0, d1, u8, encDoc]
        refine CallA.mut [0] ?_ ?_ ?_ ?_ (cD x.d ok.hd) ?_
        · simp (disch := omega) only [go_sem, encDoc]
        · simp (disch := omega) only [go_sem, encDoc]
        · simp (disch := omega) only [go_sem, encDoc]
        · simp (disch := omega) only [go_sem, encDoc]
        rintro _ _ ⟨y, d2, hd2, hy, rfl, rfl⟩
        simp (maxSteps := 1000000) (disch := omega) only [go_sem, Nat.reduceLT, encDoc]
        refine hK (⟨d2, y, x.b⟩) _ ({ ok with hd := hd2, ha := hy }) ?_
        rw [sMut_eq]
        refine .le ?_ ?_
        · cases h6 : L 6 <;> cases h7 : L 7 <;> cases h8 : L 8 <;> cases h9 : L 9 <;> simp_all [go_sem, upd, encDoc]
        · simp
      refine invSteps_cons 3 (fun L x hL hdep hcl hok K hK => ?_) ?_
      · have u5 : L 5 = false := hcl.no (i := 5) (j := 3) (by kernel_rfl) hL
        have u9 : L 9 = false := hcl.no (i := 9) (j := 5) (by kernel_rfl) u5
        have ok := hok
        rw [sMut_eq]
        simp (maxSteps := 1000000) (disch := omega) only [go_sem, Nat.reduceLT, hL, opt_true, opt_false, optO_true, optO_false, cond_true, cond_false, u5, u9, encDoc]
        refine hK x _ hok ?_
        rw [sMut_eq]
        refine .le ?_ ?_
        · cases h6 : L 6 <;> cases h7 : L 7 <;> cases h8 : L 8 <;> cases h9 : L 9 <;> simp_all [go_sem, upd, encDoc]
        · simp
      refine invSteps_cons 4 (fun L x hL hdep hcl hok K hK => ?_) ?_
      · have u5 : L 5 = false := hcl.no (i := 5) (j := 4) (by kernel_rfl) hL
        have u9 : L 9 = false := hcl.no (i := 9) (j := 5) (by kernel_rfl) u5
        have ok := hok
        rw [sMut_eq]
        simp (maxSteps := 1000000) (disch := omega) only [go_sem, Nat.reduceLT, hL, opt_true, opt_false, optO_true, optO_false, cond_true, cond_false, u5, u9, encDoc]
        refine hK x _ hok ?_
        rw [sMut_eq]
        refine .le ?_ ?_
        · cases h6 : L 6 <;> cases h7 : L 7 <;> cases h8 : L 8 <;> cases h9 : L 9 <;> simp_all [go_sem, upd, encDoc]
        · simp
      refine invSteps_cons 5 (fun L x hL hdep hcl hok K hK => ?_) ?_
      · have d3 : L 3 = true := hdep 3 (by kernel_rfl)
        have d4 : L 4 = true := hdep 4 (by kernel_rfl)
        have u9 : L 9 = false := hcl.no (i := 9) (j := 5) (by kernel_rfl) hL
        have ok := hok
        rw [sMut_eq]
        simp (maxSteps := 1000000) (disch := omega) only [go_sem, Nat.reduceLT, hL, opt_true, opt_false, optO_true, optO_false, cond_true, cond_false, d3, d4, u9, encDoc]
        refine CallA.mut [0] ?_ ?_ ?_ ?_ (cD x.d ok.hd) ?_
        · simp (disch := omega) only [go_sem, encDoc]
        · simp (disch := omega) only [go_sem, encDoc]
        · simp (disch := omega) only [go_sem, encDoc]
        · simp (disch := omega) only [go_sem, encDoc]
        rintro _ _ ⟨y, d2, hd2, hy, rfl, rfl⟩
        simp (maxSteps := 1000000) (disch := omega) only [go_sem, Nat.reduceLT, encDoc]
        refine hK (⟨d2, x.a, y⟩) _ ({ ok with hd := hd2, hb := hy }) ?_
        rw [sMut_eq]
        refine .le ?_ ?_
        · cases h6 : L 6 <;> cases h7 : L 7 <;> cases h8 : L 8 <;> cases h9 : L 9 <;> simp_all [go_sem, upd, encDoc]
        · simp
      refine invSteps_cons 6 (fun L x hL hdep hcl hok K hK => ?_) ?_
      · have u8 : L 8 = false := hcl.no (i := 8) (j := 6) (by kernel_rfl) hL
        have ok := hok
        rw [sMut_eq]
        simp (maxSteps := 1000000) (disch := omega) only [go_sem, Nat.reduceLT, hL, opt_true, opt_false, optO_true, optO_false, cond_true, cond_false, u8, encDoc]
        refine hK x _ hok ?_
        refine SemLe.trans (SemLe.reloc (i := 2) (j := 4) ?_ (by decide) ?_ ?_ (by decide) (by decide)) ?_
        · simp [go_sem, hL, optO]
        · simp
        · simp
        simp (maxSteps := 1000000) only [go_sem, St.reloc, u8]
        rw [sMut_eq]
        refine .le ?_ ?_
        · cases h6 : L 6 <;> cases h7 : L 7 <;> cases h8 : L 8 <;> cases h9 : L 9 <;> simp_all [go_sem, upd, encDoc]
        · simp
      refine invSteps_cons 7 (fun L x hL hdep hcl hok K hK => ?_) ?_
      · have u9 : L 9 = false := hcl.no (i := 9) (j := 7) (by kernel_rfl) hL
        have ok := hok
        rw [sMut_eq]
        simp (maxSteps := 1000000) (disch := omega) only [go_sem, Nat.reduceLT, hL, opt_true, opt_false, optO_true, optO_false, cond_true, cond_false, u9, encDoc]
        refine hK x _ hok ?_
        refine SemLe.trans (SemLe.reloc (i := 3) (j := 4) ?_ (by decide) ?_ ?_ (by decide) (by decide)) ?_
        · simp [go_sem, hL, optO]
        · simp
        · simp
        simp (maxSteps := 1000000) only [go_sem, St.reloc, u9]
        rw [sMut_eq]
        refine .le ?_ ?_
        · cases h6 : L 6 <;> cases h7 : L 7 <;> cases h8 : L 8 <;> cases h9 : L 9 <;> simp_all [go_sem, upd, encDoc]
        · simp
      refine invSteps_cons 8 (fun L x hL hdep hcl hok K hK => ?_) ?_
      · have d2 : L 2 = true := hdep 2 (by kernel_rfl)
        have d6 : L 6 = true := hdep 6 (by kernel_rfl)
        have d0 : L 0 = true := hcl 2 0 (by kernel_rfl) d2
        have d1 : L 1 = true := hcl 2 1 (by kernel_rfl) d2
        have ok := hok
        rw [sMut_eq]
        simp (maxSteps := 1000000) (disch := omega) only [go_sem, Nat.reduceLT, hL, opt_true, opt_false, optO_true, optO_false, cond_true, cond_false, d2, d6, d0, d1, encDoc]
        refine hK x _ hok ?_
        rw [sMut_eq]
        refine .le ?_ ?_
        · cases h6 : L 6 <;> cases h7 : L 7 <;> cases h8 : L 8 <;> cases h9 : L 9 <;> simp_all [go_sem, upd, encDoc]
        · simp
      refine invSteps_cons 9 (fun L x hL hdep hcl hok K hK => ?_) ?_
      · have d5 : L 5 = true := hdep 5 (by kernel_rfl)
        have d7 : L 7 = true := hdep 7 (by kernel_rfl)
        have d3 : L 3 = true := hcl 5 3 (by kernel_rfl) d5
        have d4 : L 4 = true := hcl 5 4 (by kernel_rfl) d5
        have ok := hok
        rw [sMut_eq]
        simp (maxSteps := 1000000) (disch := omega) only [go_sem, Nat.reduceLT, hL, opt_true, opt_false, optO_true, optO_false, cond_true, cond_false, d5, d7, d3, d4, encDoc]
        refine hK x _ hok ?_
        rw [sMut_eq]
        refine .le ?_ ?_
        · cases h6 : L 6 <;> cases h7 : L 7 <;> cases h8 : L 8 <;> cases h9 : L 9 <;> simp_all [go_sem, upd, encDoc]
        · simp
      exact trivial
    rintro ⟨d2, a, b⟩ ⟨hd2, ha, hb⟩
    simp only at hd2 ha hb
    rw [sMut_eq]
    simp only [go_sem, decide_true, Nat.reduceLT, opt_true, optO_true, cond_true]
    refine J_top (upto 33 38) ?_
    simp only [go_sem]
    have ka := rDocCheck n hno.sized a (smallS ha)
    have kb := rDocCheck n hno.sized b (smallS hb)
    simp only [encNet, encDoc] at ka kb
    by_cases h1 : docChk n a = 0
    · rw [h1] at ka
      by_cases h2 : docChk n b = 0
      · rw [h2] at kb
        have mab := ovMeet n hno.sized a b (smallS ha) (smallS hb)
        have mba := ovMeet n hno.sized b a (smallS hb) (smallS ha)
        have maa := ovMeet n hno.sized a a (smallS ha) (smallS ha)
        have eab := ovExcl n hno.sized a b (smallS ha) (smallS hb)
        have eba := ovExcl n hno.sized b a (smallS hb) (smallS ha)
        rw [meetR_ok h1 h2] at mab
        rw [meetR_ok h2 h1, meetB_comm] at mba
        rw [meetR_ok h1 h1, meet_self h1] at maa
        rw [exclR_ok h1 h2] at eab
        rw [exclR_ok h2 h1, meetB_comm, testB_comm] at eba
        have htb : testB a b = decide (a.kind = 2 ∨ b.kind = 2) := rfl
        obtain ⟨m, hm⟩ : ∃ m, meetB n a b = m := ⟨_, rfl⟩
        rw [hm] at mab mba eab eba
        simp only [encNet, encDoc] at mab mba maa eab eba
        by_cases k1 : a.kind = 2
        · have hk1 := decide_eq_true k1
          rw [htb, decide_eq_true (.inl k1)] at eab eba
          cases m
          all_goals
            simp only [Bool.and_true, Bool.true_and, Bool.false_and] at eab eba
            refine J_run 200 ?_
            repeat' (first
              | (simp (maxSteps := 1000000) (disch := omega) only [go_sem, hk1])
              | ((with_reducible refine CallA.pure ka ?_ ?_); (· simp (disch := omega) only [go_sem, hk1]); rintro _ _ ⟨rfl, rfl⟩)
              | ((with_reducible refine CallA.pure kb ?_ ?_); (· simp (disch := omega) only [go_sem, hk1]); rintro _ _ ⟨rfl, rfl⟩)
              | ((with_reducible refine CallA.pure mab ?_ ?_); (· simp (disch := omega) only [go_sem, hk1]); rintro _ _ ⟨rfl, rfl⟩)
              | ((with_reducible refine CallA.pure mba ?_ ?_); (· simp (disch := omega) only [go_sem, hk1]); rintro _ _ ⟨rfl, rfl⟩)
              | ((with_reducible refine CallA.pure maa ?_ ?_); (· simp (disch := omega) only [go_sem, hk1]); rintro _ _ ⟨rfl, rfl⟩)
              | ((with_reducible refine CallA.pure eab ?_ ?_); (· simp (disch := omega) only [go_sem, hk1]); rintro _ _ ⟨rfl, rfl⟩)
              | ((with_reducible refine CallA.pure eba ?_ ?_); (· simp (disch := omega) only [go_sem, hk1]); rintro _ _ ⟨rfl, rfl⟩)
              | ((with_reducible first | refine gDt ?_ ?_ | refine gDf ?_ ?_ | refine gNt ?_ ?_ | refine gNf ?_ ?_ | refine cD ?_ ?_ | refine cN ?_ ?_ | refine cB ?_ ?_ | refine gB ?_ ?_) <;> intro h)
              | with_reducible first | refine And.intro ?_ ?_ | refine J_seq ?_ | refine J_block ?_ | refine J_inBlock ?_ | refine rC ?_ | refine rR ?_ | refine rE ?_ | refine rG ?_ | refine FinQ.now ?_ | refine FinQ.end ?_)
        · have hk1 := decide_eq_false k1
          by_cases k2 : b.kind = 2
          · have hk2 := decide_eq_true k2
            rw [htb, decide_eq_true (.inr k2)] at eab eba
            cases m
            all_goals
              simp only [Bool.and_true, Bool.true_and, Bool.false_and] at eab eba
              refine J_run 200 ?_
              repeat' (first
                | (simp (maxSteps := 1000000) (disch := omega) only [go_sem, hk1, hk2])
                | ((with_reducible refine CallA.pure ka ?_ ?_); (· simp (disch := omega) only [go_sem, hk1, hk2]); rintro _ _ ⟨rfl, rfl⟩)
                | ((with_reducible refine CallA.pure kb ?_ ?_); (· simp (disch := omega) only [go_sem, hk1, hk2]); rintro _ _ ⟨rfl, rfl⟩)
                | ((with_reducible refine CallA.pure mab ?_ ?_); (· simp (disch := omega) only [go_sem, hk1, hk2]); rintro _ _ ⟨rfl, rfl⟩)
                | ((with_reducible refine CallA.pure mba ?_ ?_); (· simp (disch := omega) only [go_sem, hk1, hk2]); rintro _ _ ⟨rfl, rfl⟩)
                | ((with_reducible refine CallA.pure maa ?_ ?_); (· simp (disch := omega) only [go_sem, hk1, hk2]); rintro _ _ ⟨rfl, rfl⟩)
                | ((with_reducible refine CallA.pure eab ?_ ?_); (· simp (disch := omega) only [go_sem, hk1, hk2]); rintro _ _ ⟨rfl, rfl⟩)
                | ((with_reducible refine CallA.pure eba ?_ ?_); (· simp (disch := omega) only [go_sem, hk1, hk2]); rintro _ _ ⟨rfl, rfl⟩)
                | ((with_reducible first | refine gDt ?_ ?_ | refine gDf ?_ ?_ | refine gNt ?_ ?_ | refine gNf ?_ ?_ | refine cD ?_ ?_ | refine cN ?_ ?_ | refine cB ?_ ?_ | refine gB ?_ ?_) <;> intro h)
                | with_reducible first | refine And.intro ?_ ?_ | refine J_seq ?_ | refine J_block ?_ | refine J_inBlock ?_ | refine rC ?_ | refine rR ?_ | refine rE ?_ | refine rG ?_ | refine FinQ.now ?_ | refine FinQ.end ?_)
          · have hk2 := decide_eq_false k2
            rw [htb, decide_eq_false (fun h => h.elim k1 k2)] at eab eba
            simp only [Bool.and_false] at eab eba
            cases m
            all_goals
              refine J_run 200 ?_
              repeat' (first
                | (simp (maxSteps := 1000000) (disch := omega) only [go_sem, hk1, hk2])
                | ((with_reducible refine CallA.pure ka ?_ ?_); (· simp (disch := omega) only [go_sem, hk1, hk2]); rintro _ _ ⟨rfl, rfl⟩)
                | ((with_reducible refine CallA.pure kb ?_ ?_); (· simp (disch := omega) only [go_sem, hk1, hk2]); rintro _ _ ⟨rfl, rfl⟩)
                | ((with_reducible refine CallA.pure mab ?_ ?_); (· simp (disch := omega) only [go_sem, hk1, hk2]); rintro _ _ ⟨rfl, rfl⟩)
                | ((with_reducible refine CallA.pure mba ?_ ?_); (· simp (disch := omega) only [go_sem, hk1, hk2]); rintro _ _ ⟨rfl, rfl⟩)
                | ((with_reducible refine CallA.pure maa ?_ ?_); (· simp (disch := omega) only [go_sem, hk1, hk2]); rintro _ _ ⟨rfl, rfl⟩)
                | ((with_reducible refine CallA.pure eab ?_ ?_); (· simp (disch := omega) only [go_sem, hk1, hk2]); rintro _ _ ⟨rfl, rfl⟩)
                | ((with_reducible refine CallA.pure eba ?_ ?_); (· simp (disch := omega) only [go_sem, hk1, hk2]); rintro _ _ ⟨rfl, rfl⟩)
                | ((with_reducible first | refine gDt ?_ ?_ | refine gDf ?_ ?_ | refine gNt ?_ ?_ | refine gNf ?_ ?_ | refine cD ?_ ?_ | refine cN ?_ ?_ | refine cB ?_ ?_ | refine gB ?_ ?_) <;> intro h)
                | with_reducible first | refine And.intro ?_ ?_ | refine J_seq ?_ | refine J_block ?_ | refine J_inBlock ?_ | refine rC ?_ | refine rR ?_ | refine rE ?_ | refine rG ?_ | refine FinQ.now ?_ | refine FinQ.end ?_)
      · refine J_run 200 ?_
        repeat' (first
          | (simp (maxSteps := 1000000) (disch := omega) only [go_sem, h2])
          | ((with_reducible refine CallA.pure ka ?_ ?_); (· simp (disch := omega) only [go_sem, h2]); rintro _ _ ⟨rfl, rfl⟩)
          | ((with_reducible refine CallA.pure kb ?_ ?_); (· simp (disch := omega) only [go_sem, h2]); rintro _ _ ⟨rfl, rfl⟩)
          | ((with_reducible first | refine gDt ?_ ?_ | refine gDf ?_ ?_ | refine gNt ?_ ?_ | refine gNf ?_ ?_ | refine cD ?_ ?_ | refine cN ?_ ?_ | refine cB ?_ ?_ | refine gB ?_ ?_) <;> intro h)
          | with_reducible first | refine And.intro ?_ ?_ | refine J_seq ?_ | refine J_block ?_ | refine J_inBlock ?_ | refine rC ?_ | refine rR ?_ | refine rE ?_ | refine rG ?_ | refine FinQ.now ?_ | refine FinQ.end ?_)
    · refine J_run 200 ?_
      repeat' (first
        | (simp (maxSteps := 1000000) (disch := omega) only [go_sem, h1])
        | ((with_reducible refine CallA.pure ka ?_ ?_); (· simp (disch := omega) only [go_sem, h1]); rintro _ _ ⟨rfl, rfl⟩)
        | ((with_reducible first | refine gDt ?_ ?_ | refine gDf ?_ ?_ | refine gNt ?_ ?_ | refine gNf ?_ ?_ | refine cD ?_ ?_ | refine cN ?_ ?_ | refine cB ?_ ?_ | refine gB ?_ ?_) <;> intro h)
        | with_reducible first | refine And.intro ?_ ?_ | refine J_seq ?_ | refine J_block ?_ | refine J_inBlock ?_ | refine rC ?_ | refine rR ?_ | refine rE ?_ | refine rG ?_ | refine FinQ.now ?_ | refine FinQ.end ?_)
  · rw [decide_eq_false h400] at cf
    refine holds_of Tryd.func4 rfl rfl ?_
    refine J_run 200 ?_
    delta Tryd.f4
    iterate 12 (all_goals (try (first
      | (simp (maxSteps := 1000000) (disch := omega) only [go_sem])
      | ((with_reducible refine CallA.pure ca ?_ ?_); (· simp (disch := omega) only [go_sem]); rintro _ _ ⟨rfl, rfl⟩)
      | ((with_reducible refine CallA.pure cf ?_ ?_); (· simp (disch := omega) only [go_sem]); rintro _ _ ⟨rfl, rfl⟩)
      | ((with_reducible first | refine gDt ?_ ?_ | refine gDf ?_ ?_ | refine gNt ?_ ?_ | refine gNf ?_ ?_ | refine cD ?_ ?_ | refine cN ?_ ?_ | refine cB ?_ ?_ | refine gB ?_ ?_) <;> intro h)
      | with_reducible first | refine And.intro ?_ ?_ | refine J_seq ?_ | refine J_block ?_ | refine J_inBlock ?_ | refine rC ?_ | refine rR ?_ | refine rE ?_ | refine rG ?_ | refine FinQ.now ?_ | refine FinQ.end ?_)))
theorem overlapMutual_av (x : (Sh.slice (.int .i64)).Den) (o : (Sh.slice (.int .i64)).Ok x) : Fn1 Tryd.prog GT0 4 [(Sh.slice (.int .i64)).av x] (.raw (.bool true)) [] := overlapMutual x (nums_ok o)
end Go.Proofs.YtfkiomkfoabnhaaDoor.Abs
