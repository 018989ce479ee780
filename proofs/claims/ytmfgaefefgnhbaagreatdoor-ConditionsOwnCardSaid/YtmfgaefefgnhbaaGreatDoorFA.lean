/- The networks of two companies that the statements make. -/
import Derived.Test.YtmfgaefefgnhbaaGreatDoorZ2
import Derived.Test.YtmfgaefefgnhbaaGreatDoorZ3
import Derived.Test.YtmfgaefefgnhbaaGreatDoorMF
import Derived.Test.YtmfgaefefgnhbaaGreatDoorAbsX
import Derived.Test.YtmfgaefefgnhbaaGreatDoorAbsY
namespace Go.Proofs.YtmfgaefefgnhbaaGreatDoor.Abs
set_option linter.unusedSimpArgs false
set_option linter.unusedVariables false
set_option maxRecDepth 100000
open Go Go.RowKit

def nmT (i : Nat) : ByteArray := ⟨#[78, (48 + i).toUInt8]⟩
def TieNodes (ns : List Nd) : Prop := ∀ i (hi : i < ns.length), ns[i].name = nmT i ∧ ns[i].comp = 1 + ((i / 3 : Nat) : Int) ∧ 0 ≤ ns[i].cust ∧ ns[i].cust ≤ 1048576
theorem TieNodes.push {ns : List Nd} (h : TieNodes ns) {c p : Int} (h0 : 0 ≤ c) (h1 : c ≤ 1048576) (hp : p = 1 + ((ns.length / 3 : Nat) : Int)) : TieNodes (ns ++ [⟨nmT ns.length, c, p⟩]) := by
  intro i hi
  rw [List.getElem_append]
  split
  · exact h i (by assumption)
  · have hie : i = ns.length := by simp at hi; omega
    subst hie
    simp only [Nat.sub_self, List.getElem_cons_zero]
    exact ⟨trivial, hp, h0, h1⟩
def tieNodes0 : List Nd := (List.range 6).map fun i => ⟨nmT i, 0, 1 + ((i / 3 : Nat) : Int)⟩
def unDv : List AV → Dv
  | [.raw (.string s), .raw (.int .i64 k), .raw (.int .i64 a), .raw (.int .i64 b), .raw (.int .i64 c)] => ⟨s, k, a, b, c⟩
  | _ => ⟨⟨#[]⟩, 0, 0, 0, 0⟩
/-- A network of two companies that was drawn, with its state. -/
def DrawnTie (r : AV) (os : List Obj) : Prop := ∃ (n : Net) (st : List Int) (d : Dk), d.ok ∧ n.ok ∧ n.nodes.length = 6 ∧ 1 ≤ n.devs.length ∧ n.devs.length ≤ 10 ∧ st.length = n.devs.length ∧ (∀ x, x ∈ st → x = 1 ∨ x = 2) ∧ r = .tup [.agg (encNet n), .lst 1 (st.map encN)] ∧ os = [.box (encDk d)]
theorem tieEnd {ns : List Nd} (h : TieNodes ns) (hl : ns.length = 6) {d : Dk} (hd : d.ok) {xs ys : List (List AV)} (hxs : xs = (xs.map unDv).map encDv) (hk : (⟨tieNodes0, xs.map unDv⟩ : Net).chk = 0) (h1 : 1 ≤ xs.length) (h10 : xs.length ≤ 10) (hys : ys = (ys.map unN).map encN) (hs : ys.length = xs.length) (hx : ((ys.map unN).all fun x => decide (x = 1 ∨ x = 2)) = true) :
    DrawnTie (.tup [.agg [.lst 3 ((ns.map encNd).take 6), .lst 5 xs], .lst 1 ys]) [.box (encDk d)] := by
  have hno : (⟨ns, xs.map unDv⟩ : Net).ok := by
    refine ok_cust (n := ⟨tieNodes0, xs.map unDv⟩) (Net.chk_ok.1 hk) rfl (by simp [tieNodes0, hl]) fun i hi => ?_
    have := h i hi
    simp only [tieNodes0, List.getElem_map, List.getElem_range]
    exact ⟨this.1, this.2.1, this.2.2⟩
  refine ⟨⟨ns, xs.map unDv⟩, ys.map unN, d, hd, hno, hl, by simpa using h1, by simpa using h10, by simpa using hs, fun x hx' => ?_, ?_, rfl⟩
  · have := List.all_eq_true.1 hx x hx'
    simpa using this
  · rw [← hys, List.take_of_length_le (by simp [hl])]
    show _ = AV.tup [.agg [.lst 3 (ns.map encNd), .lst 5 ((xs.map unDv).map encDv)], _]
    rw [← hxs]
def kd (y : Int) : Int := if y = 0 then 1 else 3
theorem kd_get {y : Int} (h0 : 0 ≤ y) (h1 : y < 2) : ([[.raw (.int .i64 1)], [.raw (.int .i64 3)]] : List (List AV)).getD y.toNat [] = [.raw (.int .i64 (kd y))] := by
  rcases (show y = 0 ∨ y = 1 by omega) with rfl | rfl <;> rfl
def tie9 (k c : Int) : List Dv := [⟨⟨#[83, 48]⟩, 5, 0, -1, 1⟩, ⟨⟨#[88, 48]⟩, 2, 0, 1, 1⟩, ⟨⟨#[88, 49]⟩, 3, 1, 2, 1⟩, ⟨⟨#[69, 50]⟩, 4, 2, -1, 1⟩, ⟨⟨#[88, 50]⟩, k, 2, 3, c⟩, ⟨⟨#[69, 51]⟩, 4, 3, -1, 2⟩, ⟨⟨#[88, 51]⟩, 3, 3, 4, 2⟩, ⟨⟨#[88, 52]⟩, 2, 4, 5, 2⟩, ⟨⟨#[83, 53]⟩, 5, 5, -1, 2⟩]
structure ITie where
  d : Dk
  a : Int
  b : Int
def sTie (ns : List Nd) (L : Nat → Bool) (x : ITie) : St := ⟨[.ref 0 0, .top, .ref 1 0, .raw (.slice none 0 0), .ref 2 0, .top, .top, .top, .top, .top, .top, .top, .top, .top, .top, .top, .top, .top, .top, .top, .top, .top, .top, .top, .top, .top, .top, .top, .top, .top, .top, .top, .top, .top, opt (L 0) (.agg [.raw (.string ⟨#[83, 48]⟩), .raw (.int .i64 5), .raw (.int .i64 0), .raw (.int .i64 (-1)), .raw (.int .i64 1)]), opt (L 1) (.agg [.raw (.string ⟨#[88, 48]⟩), .raw (.int .i64 2), .raw (.int .i64 0), .raw (.int .i64 1), .raw (.int .i64 1)]), opt (L 2) (.agg [.raw (.string ⟨#[88, 49]⟩), .raw (.int .i64 3), .raw (.int .i64 1), .raw (.int .i64 2), .raw (.int .i64 1)]), opt (L 3) (.agg [.raw (.string ⟨#[69, 50]⟩), .raw (.int .i64 4), .raw (.int .i64 2), .raw (.int .i64 (-1)), .raw (.int .i64 1)]), opt (L 4) (.lst 1 [[.raw (.int .i64 1)], [.raw (.int .i64 3)]]), opt (L 5) (.ref 0 0), opt (L 6) (.raw (.int .i64 x.a)), opt (L 7) (.cptr [.raw (.int .i64 (kd x.a))]), opt (L 8) (.raw (.int .i64 (kd x.a))), opt (L 9) (.ref 0 0), opt (L 10) (.raw (.int .i64 x.b)), opt (L 11) (.raw (.int .i64 (1 + x.b))), opt (L 12) (.agg [.raw (.string ⟨#[88, 50]⟩), .raw (.int .i64 (kd x.a)), .raw (.int .i64 2), .raw (.int .i64 3), .raw (.int .i64 (1 + x.b))]), opt (L 13) (.agg [.raw (.string ⟨#[69, 51]⟩), .raw (.int .i64 4), .raw (.int .i64 3), .raw (.int .i64 (-1)), .raw (.int .i64 2)]), opt (L 14) (.agg [.raw (.string ⟨#[88, 51]⟩), .raw (.int .i64 3), .raw (.int .i64 3), .raw (.int .i64 4), .raw (.int .i64 2)]), opt (L 15) (.agg [.raw (.string ⟨#[88, 52]⟩), .raw (.int .i64 2), .raw (.int .i64 4), .raw (.int .i64 5), .raw (.int .i64 2)]), opt (L 16) (.agg [.raw (.string ⟨#[83, 53]⟩), .raw (.int .i64 5), .raw (.int .i64 5), .raw (.int .i64 (-1)), .raw (.int .i64 2)]), opt (L 17) (.own 5 5 0 9), opt (L 18) (.ref 2 1), .top, .top, .top, .top, .top, .top, .top, .top, .top, .top, .top, .top, .top, .top, .top, .top, .top, .top, .top, .top, .top, .top, .top, .top, .top, .top, .top, .top, .top, .top, .top, .top, .top, .top, .top, .top, .top, .top, .top, .top], [.box (encDk x.d), .box [.raw (.slice none 0 0), .raw (.slice none 0 0)], .box (cond (L 19) [.own 3 3 0 6, .own 5 5 0 9] [.own 3 3 0 6, .own 4 5 0 0]), .arr 3 (ns.map encNd), .arr 5 [], optO (L 17) (.arr 5 ((tie9 (kd x.a) (1 + x.b)).map encDv))]⟩
theorem sTie_eq (ns : List Nd) (L : Nat → Bool) (x : ITie) : sTie ns L x = ⟨[.ref 0 0, .top, .ref 1 0, .raw (.slice none 0 0), .ref 2 0, .top, .top, .top, .top, .top, .top, .top, .top, .top, .top, .top, .top, .top, .top, .top, .top, .top, .top, .top, .top, .top, .top, .top, .top, .top, .top, .top, .top, .top, opt (L 0) (.agg [.raw (.string ⟨#[83, 48]⟩), .raw (.int .i64 5), .raw (.int .i64 0), .raw (.int .i64 (-1)), .raw (.int .i64 1)]), opt (L 1) (.agg [.raw (.string ⟨#[88, 48]⟩), .raw (.int .i64 2), .raw (.int .i64 0), .raw (.int .i64 1), .raw (.int .i64 1)]), opt (L 2) (.agg [.raw (.string ⟨#[88, 49]⟩), .raw (.int .i64 3), .raw (.int .i64 1), .raw (.int .i64 2), .raw (.int .i64 1)]), opt (L 3) (.agg [.raw (.string ⟨#[69, 50]⟩), .raw (.int .i64 4), .raw (.int .i64 2), .raw (.int .i64 (-1)), .raw (.int .i64 1)]), opt (L 4) (.lst 1 [[.raw (.int .i64 1)], [.raw (.int .i64 3)]]), opt (L 5) (.ref 0 0), opt (L 6) (.raw (.int .i64 x.a)), opt (L 7) (.cptr [.raw (.int .i64 (kd x.a))]), opt (L 8) (.raw (.int .i64 (kd x.a))), opt (L 9) (.ref 0 0), opt (L 10) (.raw (.int .i64 x.b)), opt (L 11) (.raw (.int .i64 (1 + x.b))), opt (L 12) (.agg [.raw (.string ⟨#[88, 50]⟩), .raw (.int .i64 (kd x.a)), .raw (.int .i64 2), .raw (.int .i64 3), .raw (.int .i64 (1 + x.b))]), opt (L 13) (.agg [.raw (.string ⟨#[69, 51]⟩), .raw (.int .i64 4), .raw (.int .i64 3), .raw (.int .i64 (-1)), .raw (.int .i64 2)]), opt (L 14) (.agg [.raw (.string ⟨#[88, 51]⟩), .raw (.int .i64 3), .raw (.int .i64 3), .raw (.int .i64 4), .raw (.int .i64 2)]), opt (L 15) (.agg [.raw (.string ⟨#[88, 52]⟩), .raw (.int .i64 2), .raw (.int .i64 4), .raw (.int .i64 5), .raw (.int .i64 2)]), opt (L 16) (.agg [.raw (.string ⟨#[83, 53]⟩), .raw (.int .i64 5), .raw (.int .i64 5), .raw (.int .i64 (-1)), .raw (.int .i64 2)]), opt (L 17) (.own 5 5 0 9), opt (L 18) (.ref 2 1), .top, .top, .top, .top, .top, .top, .top, .top, .top, .top, .top, .top, .top, .top, .top, .top, .top, .top, .top, .top, .top, .top, .top, .top, .top, .top, .top, .top, .top, .top, .top, .top, .top, .top, .top, .top, .top, .top, .top, .top], [.box (encDk x.d), .box [.raw (.slice none 0 0), .raw (.slice none 0 0)], .box (cond (L 19) [.own 3 3 0 6, .own 5 5 0 9] [.own 3 3 0 6, .own 4 5 0 0]), .arr 3 (ns.map encNd), .arr 5 [], optO (L 17) (.arr 5 ((tie9 (kd x.a) (1 + x.b)).map encDv))]⟩ := rfl
set_option maxHeartbeats 16000000 in
theorem tieD (d : Dk) (hd : d.ok) : Holds Tryz.prog GT0 7 [.ref 0 0] [.box (encDk d)] DrawnTie := by
  have b2 := fun (d : Dk) (hd : d.ok) => one d hd 2 (by decide)
  have x2 := fun (d : Dk) (hd : d.ok) => next d hd 2 (by decide)
  have x4 := fun (d : Dk) (hd : d.ok) => next d hd 4 (by decide)
  have x30 := fun (d : Dk) (hd : d.ok) => next d hd 30 (by decide)
  refine holds_of Tryz.func7 rfl rfl ?_
  refine J_run 200 ?_
  delta Tryz.f7
  iterate 6 (all_goals (try (first
    | (simp (maxSteps := 1000000) (disch := omega) only [go_sem, Nat.reduceLT])
    | ((with_reducible first | refine gDt ?_ ?_ | refine gDf ?_ ?_ | refine gNt ?_ ?_ | refine gNf ?_ ?_ | refine cD ?_ ?_ | refine cN ?_ ?_ | refine cB ?_ ?_ | refine gB ?_ ?_) <;> intro h)
    | with_reducible first | refine And.intro ?_ ?_ | refine J_seq ?_ | refine J_block ?_ | refine J_inBlock ?_ | refine rC ?_ | refine rR ?_ | refine rE ?_ | refine rG ?_ | refine FinQ.now ?_ | refine FinQ.end ?_)))
  refine J_for ([6] ++ upto 8 32) (fun x : List Nd × Dk => [(5, .raw (.int .i64 x.1.length))]) (fun x => [.box (encDk x.2), .box [.raw (.slice none 0 0), .raw (.slice none 0 0)], .box [.own 3 3 0 x.1.length, .own 4 5 0 0], .arr 3 (x.1.map encNd), .arr 5 []]) (fun x => x.1.length ≤ 6 ∧ TieNodes x.1 ∧ x.2.ok) (fun x => 6 - x.1.length) ([], d) ⟨by simp, fun i hi => absurd hi (by simp), hd⟩ ?_ ?_
  · refine SemLe.trans (SemLe.nilBox 2 0 3 (cs := [.raw (.slice none 0 0), .raw (.slice none 0 0)]) (by simp [St.obj, List.getD]) (by simp [sget])) ?_
    refine SemLe.trans (SemLe.nilBox 2 1 5 (cs := [.own 3 3 0 0, .raw (.slice none 0 0)]) ?_ ?_) ?_
    · simp [go_sem, St.nilBox]
    · rfl
    · simp only [go_sem, St.nilBox]
      exact .le (by simp [go_sem]) (by simp)
  clear hd d
  rintro ⟨ns, d⟩ ⟨hnl, hno, hd⟩
  simp only at hnl hno hd
  by_cases hlt : ns.length < 6
  · have hc6 : ns.length = 0 ∨ ns.length = 1 ∨ ns.length = 2 ∨ ns.length = 3 ∨ ns.length = 4 ∨ ns.length = 5 := by omega
    have hq : ((ns.length : Nat) : Int).tdiv 3 = ((ns.length / 3 : Nat) : Int) := by rw [Int.tdiv_eq_ediv_of_nonneg (by omega)]; omega
    have hw : IntKind.u8.wrap (48 + ((ns.length : Nat) : Int)) = ((48 + ns.length : Nat) : Int) := by
      simp [IntKind.wrap, IntKind.bits, IntKind.signed]; omega
    have hsz : (strOfNums [IntKind.u8.wrap (48 + ((ns.length : Nat) : Int))]).size = 1 := by simp [strOfNums, ByteArray.size]
    have hstr : (⟨#[78]⟩ : ByteArray) ++ strOfNums [IntKind.u8.wrap (48 + ((ns.length : Nat) : Int))] = nmT ns.length := by
      rw [hw]
      apply ByteArray.ext
      have e1 : ((48 : Int) + (ns.length : Int)).toNat = 48 + ns.length := by omega
      simp [strOfNums, nmT, e1, UInt8.ofNat_add]
    have q0 := hno.push (c := 0) (p := 1 + ((ns.length / 3 : Nat) : Int)) (by omega) (by omega) rfl
    refine J_run 200 ?_
    iterate 20 (all_goals (try (first
      | (simp (maxSteps := 1000000) (disch := omega) only [go_sem, Nat.reduceLT, hq, hsz, hstr])
      | ((with_reducible refine CallA.mut [0] ?_ ?_ ?_ ?_ (b2 _ hd) ?_); (· simp (disch := omega) only [go_sem, Nat.reduceLT, hq, hsz, hstr]); (· simp (disch := omega) only [go_sem, Nat.reduceLT, hq, hsz, hstr]); (· simp (disch := omega) only [go_sem, Nat.reduceLT, hq, hsz, hstr]); (· simp (disch := omega) only [go_sem, Nat.reduceLT, hq, hsz, hstr]); rintro _ _ ⟨v2, d1, hd1, rfl, rfl⟩)
      | ((with_reducible refine CallA.mut [0] ?_ ?_ ?_ ?_ (x30 _ hd1) ?_); (· simp (disch := omega) only [go_sem, Nat.reduceLT, hq, hsz, hstr]); (· simp (disch := omega) only [go_sem, Nat.reduceLT, hq, hsz, hstr]); (· simp (disch := omega) only [go_sem, Nat.reduceLT, hq, hsz, hstr]); (· simp (disch := omega) only [go_sem, Nat.reduceLT, hq, hsz, hstr]); rintro _ _ ⟨y, d2, hd2, hy0, hy1, rfl, rfl⟩)
      | ((with_reducible first | refine gDt ?_ ?_ | refine gDf ?_ ?_ | refine gNt ?_ ?_ | refine gNf ?_ ?_ | refine cD ?_ ?_ | refine cN ?_ ?_ | refine cB ?_ ?_ | refine gB ?_ ?_) <;> intro h)
      | with_reducible first | refine And.intro ?_ ?_ | refine J_seq ?_ | refine J_block ?_ | refine J_inBlock ?_ | refine rC ?_ | refine rR ?_ | refine rE ?_ | refine rG ?_)))
    · refine .mk (ns ++ [⟨nmT ns.length, 1 + y, 1 + ((ns.length / 3 : Nat) : Int)⟩], d2) ⟨by simp only [List.length_append, List.length_cons, List.length_nil]; omega, hno.push (by omega) (by omega) rfl, hd2⟩ (by simp only [List.length_append, List.length_cons, List.length_nil]; omega) ?_ ?_
      · simp [go_sem, encNd]
      · simp
    · refine .mk (ns ++ [⟨nmT ns.length, 0, 1 + ((ns.length / 3 : Nat) : Int)⟩], d1) ⟨by simp only [List.length_append, List.length_cons, List.length_nil]; omega, q0, hd1⟩ (by simp only [List.length_append, List.length_cons, List.length_nil]; omega) ?_ ?_
      · simp [go_sem, encNd]
      · simp
  have hne : ns.length = 6 := by omega
  refine J_run 200 ?_
  iterate 6 (all_goals (try (first
    | (simp (maxSteps := 1000000) (disch := omega) only [go_sem, Nat.reduceLT])
    | ((with_reducible first | refine gDt ?_ ?_ | refine gDf ?_ ?_ | refine gNt ?_ ?_ | refine gNf ?_ ?_ | refine cD ?_ ?_ | refine cN ?_ ?_ | refine cB ?_ ?_ | refine gB ?_ ?_) <;> intro h)
    | with_reducible first | refine And.intro ?_ ?_ | refine J_seq ?_ | refine J_block ?_ | refine J_inBlock ?_ | refine rC ?_ | refine rR ?_ | refine rE ?_ | refine rG ?_)))
  first | refine J_seq ?_ | skip
  refine J_mergeN 1 ([5, 8, 9] ++ upto 34 52) (fun x : Int × Int × Dk => []) (fun x => [.box (encDk x.2.2), .box [.raw (.slice none 0 0), .raw (.slice none 0 0)], .box [.own 3 3 0 6, .own 5 5 0 9], .arr 3 (ns.map encNd), .arr 5 [], .arr 5 ((tie9 (kd x.1) (1 + x.2.1)).map encDv)]) (fun x => (0 ≤ x.1 ∧ x.1 < 2) ∧ (0 ≤ x.2.1 ∧ x.2.1 < 2) ∧ x.2.2.ok) ?_ ?_
  · refine J_inv2 (by kernel_rfl) [6, 10] (sTie ns) (fun x : ITie => x.d.ok ∧ 0 ≤ x.a ∧ x.a < 2 ∧ 0 ≤ x.b ∧ x.b < 2) ⟨d, 0, 0⟩ 20 rfl (by kernel_rfl) ⟨hd, by simp⟩ ?_ ?_ ?_
    · rw [sTie_eq]
      refine SemLe.trans (SemLe.pad 1) ?_
      refine .le ?_ ?_
      · simp [go_sem, hne]
      · simp
    · clear hd d
      refine invSteps_cons 0 (fun L x hL hdep hcl hok K hK => ?_) ?_
      · have u17 : L 17 = false := hcl.no (i := 17) (j := 0) (by kernel_rfl) hL
        have u19 : L 19 = false := hcl.no (i := 19) (j := 17) (by kernel_rfl) u17
        obtain ⟨hxd, ha0, ha1, hb0, hb1⟩ := id hok
        have hkd := kd_get ha0 ha1
        have imp : L 19 = true → L 17 = true := hcl 19 17 (by kernel_rfl)
        rw [sTie_eq]
        simp (maxSteps := 1000000) (disch := omega) only [go_sem, Nat.reduceLT, hL, opt_true, opt_false, optO_true, optO_false, cond_true, cond_false, u17, u19, hkd]
        refine hK x _ hok ?_
        rw [sTie_eq]
        refine .le ?_ ?_
        · cases h17 : L 17 <;> cases h19 : L 19 <;> simp_all [go_sem, upd, tie9, encDv]
        · simp
      refine invSteps_cons 1 (fun L x hL hdep hcl hok K hK => ?_) ?_
      · have u17 : L 17 = false := hcl.no (i := 17) (j := 1) (by kernel_rfl) hL
        have u19 : L 19 = false := hcl.no (i := 19) (j := 17) (by kernel_rfl) u17
        obtain ⟨hxd, ha0, ha1, hb0, hb1⟩ := id hok
        have hkd := kd_get ha0 ha1
        have imp : L 19 = true → L 17 = true := hcl 19 17 (by kernel_rfl)
        rw [sTie_eq]
        simp (maxSteps := 1000000) (disch := omega) only [go_sem, Nat.reduceLT, hL, opt_true, opt_false, optO_true, optO_false, cond_true, cond_false, u17, u19, hkd]
        refine hK x _ hok ?_
        rw [sTie_eq]
        refine .le ?_ ?_
        · cases h17 : L 17 <;> cases h19 : L 19 <;> simp_all [go_sem, upd, tie9, encDv]
        · simp
      refine invSteps_cons 2 (fun L x hL hdep hcl hok K hK => ?_) ?_
      · have u17 : L 17 = false := hcl.no (i := 17) (j := 2) (by kernel_rfl) hL
        have u19 : L 19 = false := hcl.no (i := 19) (j := 17) (by kernel_rfl) u17
        obtain ⟨hxd, ha0, ha1, hb0, hb1⟩ := id hok
        have hkd := kd_get ha0 ha1
        have imp : L 19 = true → L 17 = true := hcl 19 17 (by kernel_rfl)
        rw [sTie_eq]
        simp (maxSteps := 1000000) (disch := omega) only [go_sem, Nat.reduceLT, hL, opt_true, opt_false, optO_true, optO_false, cond_true, cond_false, u17, u19, hkd]
        refine hK x _ hok ?_
        rw [sTie_eq]
        refine .le ?_ ?_
        · cases h17 : L 17 <;> cases h19 : L 19 <;> simp_all [go_sem, upd, tie9, encDv]
        · simp
      refine invSteps_cons 3 (fun L x hL hdep hcl hok K hK => ?_) ?_
      · have u17 : L 17 = false := hcl.no (i := 17) (j := 3) (by kernel_rfl) hL
        have u19 : L 19 = false := hcl.no (i := 19) (j := 17) (by kernel_rfl) u17
        obtain ⟨hxd, ha0, ha1, hb0, hb1⟩ := id hok
        have hkd := kd_get ha0 ha1
        have imp : L 19 = true → L 17 = true := hcl 19 17 (by kernel_rfl)
        rw [sTie_eq]
        simp (maxSteps := 1000000) (disch := omega) only [go_sem, Nat.reduceLT, hL, opt_true, opt_false, optO_true, optO_false, cond_true, cond_false, u17, u19, hkd]
        refine hK x _ hok ?_
        rw [sTie_eq]
        refine .le ?_ ?_
        · cases h17 : L 17 <;> cases h19 : L 19 <;> simp_all [go_sem, upd, tie9, encDv]
        · simp
      refine invSteps_cons 4 (fun L x hL hdep hcl hok K hK => ?_) ?_
      · have u7 : L 7 = false := hcl.no (i := 7) (j := 4) (by kernel_rfl) hL
        have u8 : L 8 = false := hcl.no (i := 8) (j := 7) (by kernel_rfl) u7
        have u12 : L 12 = false := hcl.no (i := 12) (j := 8) (by kernel_rfl) u8
        have u17 : L 17 = false := hcl.no (i := 17) (j := 12) (by kernel_rfl) u12
        have u19 : L 19 = false := hcl.no (i := 19) (j := 17) (by kernel_rfl) u17
        obtain ⟨hxd, ha0, ha1, hb0, hb1⟩ := id hok
        have hkd := kd_get ha0 ha1
        have imp : L 19 = true → L 17 = true := hcl 19 17 (by kernel_rfl)
        rw [sTie_eq]
        simp (maxSteps := 1000000) (disch := omega) only [go_sem, Nat.reduceLT, hL, opt_true, opt_false, optO_true, optO_false, cond_true, cond_false, u7, u8, u12, u17, u19, hkd]
        refine hK x _ hok ?_
        refine SemLe.trans (SemLe.frz _ _ [6]) ?_
        simp (maxSteps := 1000000) only [go_sem, u7, u8, u12, u17, u19]
        rw [sTie_eq]
        refine .le ?_ ?_
        · cases h17 : L 17 <;> cases h19 : L 19 <;> simp_all [go_sem, upd, tie9, encDv]
        · simp
      refine invSteps_cons 5 (fun L x hL hdep hcl hok K hK => ?_) ?_
      · have u6 : L 6 = false := hcl.no (i := 6) (j := 5) (by kernel_rfl) hL
        have u7 : L 7 = false := hcl.no (i := 7) (j := 6) (by kernel_rfl) u6
        have u8 : L 8 = false := hcl.no (i := 8) (j := 7) (by kernel_rfl) u7
        have u12 : L 12 = false := hcl.no (i := 12) (j := 8) (by kernel_rfl) u8
        have u17 : L 17 = false := hcl.no (i := 17) (j := 12) (by kernel_rfl) u12
        have u19 : L 19 = false := hcl.no (i := 19) (j := 17) (by kernel_rfl) u17
        obtain ⟨hxd, ha0, ha1, hb0, hb1⟩ := id hok
        have hkd := kd_get ha0 ha1
        have imp : L 19 = true → L 17 = true := hcl 19 17 (by kernel_rfl)
        rw [sTie_eq]
        simp (maxSteps := 1000000) (disch := omega) only [go_sem, Nat.reduceLT, hL, opt_true, opt_false, optO_true, optO_false, cond_true, cond_false, u6, u7, u8, u12, u17, u19, hkd]
        refine hK x _ hok ?_
        rw [sTie_eq]
        refine .le ?_ ?_
        · cases h17 : L 17 <;> cases h19 : L 19 <;> simp_all [go_sem, upd, tie9, encDv]
        · simp
      refine invSteps_cons 6 (fun L x hL hdep hcl hok K hK => ?_) ?_
      · have d5 : L 5 = true := hdep 5 (by kernel_rfl)
        have u7 : L 7 = false := hcl.no (i := 7) (j := 6) (by kernel_rfl) hL
        have u8 : L 8 = false := hcl.no (i := 8) (j := 7) (by kernel_rfl) u7
        have u12 : L 12 = false := hcl.no (i := 12) (j := 8) (by kernel_rfl) u8
        have u17 : L 17 = false := hcl.no (i := 17) (j := 12) (by kernel_rfl) u12
        have u19 : L 19 = false := hcl.no (i := 19) (j := 17) (by kernel_rfl) u17
        obtain ⟨hxd, ha0, ha1, hb0, hb1⟩ := id hok
        have hkd := kd_get ha0 ha1
        have imp : L 19 = true → L 17 = true := hcl 19 17 (by kernel_rfl)
        rw [sTie_eq]
        simp (maxSteps := 1000000) (disch := omega) only [go_sem, Nat.reduceLT, hL, opt_true, opt_false, optO_true, optO_false, cond_true, cond_false, d5, u7, u8, u12, u17, u19, hkd]
        refine CallA.mut [0] ?_ ?_ ?_ ?_ (x2 x.d hxd) ?_
        · simp (disch := omega) only [go_sem]
        · simp (disch := omega) only [go_sem]
        · simp (disch := omega) only [go_sem]
        · simp (disch := omega) only [go_sem]
        rintro _ _ ⟨y, d2, hd2, hy0, hy1, rfl, rfl⟩
        simp (maxSteps := 1000000) (disch := omega) only [go_sem, Nat.reduceLT, hkd]
        refine hK (⟨d2, y, x.b⟩) _ (⟨hd2, hy0, by simp only; omega, hb0, hb1⟩) ?_
        rw [sTie_eq]
        refine .le ?_ ?_
        · cases h17 : L 17 <;> cases h19 : L 19 <;> simp_all [go_sem, upd, tie9, encDv]
        · simp
      refine invSteps_cons 7 (fun L x hL hdep hcl hok K hK => ?_) ?_
      · have d4 : L 4 = true := hdep 4 (by kernel_rfl)
        have d6 : L 6 = true := hdep 6 (by kernel_rfl)
        have d5 : L 5 = true := hcl 6 5 (by kernel_rfl) d6
        have u8 : L 8 = false := hcl.no (i := 8) (j := 7) (by kernel_rfl) hL
        have u12 : L 12 = false := hcl.no (i := 12) (j := 8) (by kernel_rfl) u8
        have u17 : L 17 = false := hcl.no (i := 17) (j := 12) (by kernel_rfl) u12
        have u19 : L 19 = false := hcl.no (i := 19) (j := 17) (by kernel_rfl) u17
        obtain ⟨hxd, ha0, ha1, hb0, hb1⟩ := id hok
        have hkd := kd_get ha0 ha1
        have imp : L 19 = true → L 17 = true := hcl 19 17 (by kernel_rfl)
        rw [sTie_eq]
        simp (maxSteps := 1000000) (disch := omega) only [go_sem, Nat.reduceLT, hL, opt_true, opt_false, optO_true, optO_false, cond_true, cond_false, d4, d6, d5, u8, u12, u17, u19, hkd]
        refine hK x _ hok ?_
        rw [sTie_eq]
        refine .le ?_ ?_
        · cases h17 : L 17 <;> cases h19 : L 19 <;> simp_all [go_sem, upd, tie9, encDv]
        · simp
      refine invSteps_cons 8 (fun L x hL hdep hcl hok K hK => ?_) ?_
      · have d7 : L 7 = true := hdep 7 (by kernel_rfl)
        have d4 : L 4 = true := hcl 7 4 (by kernel_rfl) d7
        have d6 : L 6 = true := hcl 7 6 (by kernel_rfl) d7
        have d5 : L 5 = true := hcl 6 5 (by kernel_rfl) d6
        have u12 : L 12 = false := hcl.no (i := 12) (j := 8) (by kernel_rfl) hL
        have u17 : L 17 = false := hcl.no (i := 17) (j := 12) (by kernel_rfl) u12
        have u19 : L 19 = false := hcl.no (i := 19) (j := 17) (by kernel_rfl) u17
        obtain ⟨hxd, ha0, ha1, hb0, hb1⟩ := id hok
        have hkd := kd_get ha0 ha1
        have imp : L 19 = true → L 17 = true := hcl 19 17 (by kernel_rfl)
        rw [sTie_eq]
        simp (maxSteps := 1000000) (disch := omega) only [go_sem, Nat.reduceLT, hL, opt_true, opt_false, optO_true, optO_false, cond_true, cond_false, d7, d4, d6, d5, u12, u17, u19, hkd]
        refine hK x _ hok ?_
        rw [sTie_eq]
        refine .le ?_ ?_
        · cases h17 : L 17 <;> cases h19 : L 19 <;> simp_all [go_sem, upd, tie9, encDv]
        · simp
      refine invSteps_cons 9 (fun L x hL hdep hcl hok K hK => ?_) ?_
      · have u10 : L 10 = false := hcl.no (i := 10) (j := 9) (by kernel_rfl) hL
        have u11 : L 11 = false := hcl.no (i := 11) (j := 10) (by kernel_rfl) u10
        have u12 : L 12 = false := hcl.no (i := 12) (j := 11) (by kernel_rfl) u11
        have u17 : L 17 = false := hcl.no (i := 17) (j := 12) (by kernel_rfl) u12
        have u19 : L 19 = false := hcl.no (i := 19) (j := 17) (by kernel_rfl) u17
        obtain ⟨hxd, ha0, ha1, hb0, hb1⟩ := id hok
        have hkd := kd_get ha0 ha1
        have imp : L 19 = true → L 17 = true := hcl 19 17 (by kernel_rfl)
        rw [sTie_eq]
        simp (maxSteps := 1000000) (disch := omega) only [go_sem, Nat.reduceLT, hL, opt_true, opt_false, optO_true, optO_false, cond_true, cond_false, u10, u11, u12, u17, u19, hkd]
        refine hK x _ hok ?_
        rw [sTie_eq]
        refine .le ?_ ?_
        · cases h17 : L 17 <;> cases h19 : L 19 <;> simp_all [go_sem, upd, tie9, encDv]
        · simp
      refine invSteps_cons 10 (fun L x hL hdep hcl hok K hK => ?_) ?_
      · have d9 : L 9 = true := hdep 9 (by kernel_rfl)
        have u11 : L 11 = false := hcl.no (i := 11) (j := 10) (by kernel_rfl) hL
        have u12 : L 12 = false := hcl.no (i := 12) (j := 11) (by kernel_rfl) u11
        have u17 : L 17 = false := hcl.no (i := 17) (j := 12) (by kernel_rfl) u12
        have u19 : L 19 = false := hcl.no (i := 19) (j := 17) (by kernel_rfl) u17
        obtain ⟨hxd, ha0, ha1, hb0, hb1⟩ := id hok
        have hkd := kd_get ha0 ha1
        have imp : L 19 = true → L 17 = true := hcl 19 17 (by kernel_rfl)
        rw [sTie_eq]
        simp (maxSteps := 1000000) (disch := omega) only [go_sem, Nat.reduceLT, hL, opt_true, opt_false, optO_true, optO_false, cond_true, cond_false, d9, u11, u12, u17, u19, hkd]
        refine CallA.mut [0] ?_ ?_ ?_ ?_ (x2 x.d hxd) ?_
        · simp (disch := omega) only [go_sem]
        · simp (disch := omega) only [go_sem]
        · simp (disch := omega) only [go_sem]
        · simp (disch := omega) only [go_sem]
        rintro _ _ ⟨y, d2, hd2, hy0, hy1, rfl, rfl⟩
        simp (maxSteps := 1000000) (disch := omega) only [go_sem, Nat.reduceLT, hkd]
        refine hK (⟨d2, x.a, y⟩) _ (⟨hd2, ha0, ha1, hy0, by simp only; omega⟩) ?_
        rw [sTie_eq]
        refine .le ?_ ?_
        · cases h17 : L 17 <;> cases h19 : L 19 <;> simp_all [go_sem, upd, tie9, encDv]
        · simp
      refine invSteps_cons 11 (fun L x hL hdep hcl hok K hK => ?_) ?_
      · have d10 : L 10 = true := hdep 10 (by kernel_rfl)
        have d9 : L 9 = true := hcl 10 9 (by kernel_rfl) d10
        have u12 : L 12 = false := hcl.no (i := 12) (j := 11) (by kernel_rfl) hL
        have u17 : L 17 = false := hcl.no (i := 17) (j := 12) (by kernel_rfl) u12
        have u19 : L 19 = false := hcl.no (i := 19) (j := 17) (by kernel_rfl) u17
        obtain ⟨hxd, ha0, ha1, hb0, hb1⟩ := id hok
        have hkd := kd_get ha0 ha1
        have imp : L 19 = true → L 17 = true := hcl 19 17 (by kernel_rfl)
        rw [sTie_eq]
        simp (maxSteps := 1000000) (disch := omega) only [go_sem, Nat.reduceLT, hL, opt_true, opt_false, optO_true, optO_false, cond_true, cond_false, d10, d9, u12, u17, u19, hkd]
        refine hK x _ hok ?_
        rw [sTie_eq]
        refine .le ?_ ?_
        · cases h17 : L 17 <;> cases h19 : L 19 <;> simp_all [go_sem, upd, tie9, encDv]
        · simp
      refine invSteps_cons 12 (fun L x hL hdep hcl hok K hK => ?_) ?_
      · have d8 : L 8 = true := hdep 8 (by kernel_rfl)
        have d11 : L 11 = true := hdep 11 (by kernel_rfl)
        have d10 : L 10 = true := hcl 11 10 (by kernel_rfl) d11
        have d9 : L 9 = true := hcl 10 9 (by kernel_rfl) d10
        have d7 : L 7 = true := hcl 8 7 (by kernel_rfl) d8
        have d4 : L 4 = true := hcl 7 4 (by kernel_rfl) d7
        have d6 : L 6 = true := hcl 7 6 (by kernel_rfl) d7
        have d5 : L 5 = true := hcl 6 5 (by kernel_rfl) d6
        have u17 : L 17 = false := hcl.no (i := 17) (j := 12) (by kernel_rfl) hL
        have u19 : L 19 = false := hcl.no (i := 19) (j := 17) (by kernel_rfl) u17
        obtain ⟨hxd, ha0, ha1, hb0, hb1⟩ := id hok
        have hkd := kd_get ha0 ha1
        have imp : L 19 = true → L 17 = true := hcl 19 17 (by kernel_rfl)
        rw [sTie_eq]
        simp (maxSteps := 1000000) (disch := omega) only [go_sem, Nat.reduceLT, hL, opt_true, opt_false, optO_true, optO_false, cond_true, cond_false, d8, d11, d10, d9, d7, d4, d6, d5, u17, u19, hkd]
        refine hK x _ hok ?_
        rw [sTie_eq]
        refine .le ?_ ?_
        · cases h17 : L 17 <;> cases h19 : L 19 <;> simp_all [go_sem, upd, tie9, encDv]
        · simp
      refine invSteps_cons 13 (fun L x hL hdep hcl hok K hK => ?_) ?_
      · have u17 : L 17 = false := hcl.no (i := 17) (j := 13) (by kernel_rfl) hL
        have u19 : L 19 = false := hcl.no (i := 19) (j := 17) (by kernel_rfl) u17
        obtain ⟨hxd, ha0, ha1, hb0, hb1⟩ := id hok
        have hkd := kd_get ha0 ha1
        have imp : L 19 = true → L 17 = true := hcl 19 17 (by kernel_rfl)
        rw [sTie_eq]
        simp (maxSteps := 1000000) (disch := omega) only [go_sem, Nat.reduceLT, hL, opt_true, opt_false, optO_true, optO_false, cond_true, cond_false, u17, u19, hkd]
        refine hK x _ hok ?_
        rw [sTie_eq]
        refine .le ?_ ?_
        · cases h17 : L 17 <;> cases h19 : L 19 <;> simp_all [go_sem, upd, tie9, encDv]
        · simp
      refine invSteps_cons 14 (fun L x hL hdep hcl hok K hK => ?_) ?_
      · have u17 : L 17 = false := hcl.no (i := 17) (j := 14) (by kernel_rfl) hL
        have u19 : L 19 = false := hcl.no (i := 19) (j := 17) (by kernel_rfl) u17
        obtain ⟨hxd, ha0, ha1, hb0, hb1⟩ := id hok
        have hkd := kd_get ha0 ha1
        have imp : L 19 = true → L 17 = true := hcl 19 17 (by kernel_rfl)
        rw [sTie_eq]
        simp (maxSteps := 1000000) (disch := omega) only [go_sem, Nat.reduceLT, hL, opt_true, opt_false, optO_true, optO_false, cond_true, cond_false, u17, u19, hkd]
        refine hK x _ hok ?_
        rw [sTie_eq]
        refine .le ?_ ?_
        · cases h17 : L 17 <;> cases h19 : L 19 <;> simp_all [go_sem, upd, tie9, encDv]
        · simp
      refine invSteps_cons 15 (fun L x hL hdep hcl hok K hK => ?_) ?_
      · have u17 : L 17 = false := hcl.no (i := 17) (j := 15) (by kernel_rfl) hL
        have u19 : L 19 = false := hcl.no (i := 19) (j := 17) (by kernel_rfl) u17
        obtain ⟨hxd, ha0, ha1, hb0, hb1⟩ := id hok
        have hkd := kd_get ha0 ha1
        have imp : L 19 = true → L 17 = true := hcl 19 17 (by kernel_rfl)
        rw [sTie_eq]
        simp (maxSteps := 1000000) (disch := omega) only [go_sem, Nat.reduceLT, hL, opt_true, opt_false, optO_true, optO_false, cond_true, cond_false, u17, u19, hkd]
        refine hK x _ hok ?_
        rw [sTie_eq]
        refine .le ?_ ?_
        · cases h17 : L 17 <;> cases h19 : L 19 <;> simp_all [go_sem, upd, tie9, encDv]
        · simp
      refine invSteps_cons 16 (fun L x hL hdep hcl hok K hK => ?_) ?_
      · have u17 : L 17 = false := hcl.no (i := 17) (j := 16) (by kernel_rfl) hL
        have u19 : L 19 = false := hcl.no (i := 19) (j := 17) (by kernel_rfl) u17
        obtain ⟨hxd, ha0, ha1, hb0, hb1⟩ := id hok
        have hkd := kd_get ha0 ha1
        have imp : L 19 = true → L 17 = true := hcl 19 17 (by kernel_rfl)
        rw [sTie_eq]
        simp (maxSteps := 1000000) (disch := omega) only [go_sem, Nat.reduceLT, hL, opt_true, opt_false, optO_true, optO_false, cond_true, cond_false, u17, u19, hkd]
        refine hK x _ hok ?_
        rw [sTie_eq]
        refine .le ?_ ?_
        · cases h17 : L 17 <;> cases h19 : L 19 <;> simp_all [go_sem, upd, tie9, encDv]
        · simp
      refine invSteps_cons 17 (fun L x hL hdep hcl hok K hK => ?_) ?_
      · have d0 : L 0 = true := hdep 0 (by kernel_rfl)
        have d1 : L 1 = true := hdep 1 (by kernel_rfl)
        have d2 : L 2 = true := hdep 2 (by kernel_rfl)
        have d3 : L 3 = true := hdep 3 (by kernel_rfl)
        have d12 : L 12 = true := hdep 12 (by kernel_rfl)
        have d13 : L 13 = true := hdep 13 (by kernel_rfl)
        have d14 : L 14 = true := hdep 14 (by kernel_rfl)
        have d15 : L 15 = true := hdep 15 (by kernel_rfl)
        have d16 : L 16 = true := hdep 16 (by kernel_rfl)
        have d8 : L 8 = true := hcl 12 8 (by kernel_rfl) d12
        have d11 : L 11 = true := hcl 12 11 (by kernel_rfl) d12
        have d10 : L 10 = true := hcl 11 10 (by kernel_rfl) d11
        have d9 : L 9 = true := hcl 10 9 (by kernel_rfl) d10
        have d7 : L 7 = true := hcl 8 7 (by kernel_rfl) d8
        have d4 : L 4 = true := hcl 7 4 (by kernel_rfl) d7
        have d6 : L 6 = true := hcl 7 6 (by kernel_rfl) d7
        have d5 : L 5 = true := hcl 6 5 (by kernel_rfl) d6
        have u19 : L 19 = false := hcl.no (i := 19) (j := 17) (by kernel_rfl) hL
        obtain ⟨hxd, ha0, ha1, hb0, hb1⟩ := id hok
        have hkd := kd_get ha0 ha1
        have imp : L 19 = true → L 17 = true := hcl 19 17 (by kernel_rfl)
        rw [sTie_eq]
        simp (maxSteps := 1000000) (disch := omega) only [go_sem, Nat.reduceLT, hL, opt_true, opt_false, optO_true, optO_false, cond_true, cond_false, d0, d1, d2, d3, d12, d13, d14, d15, d16, d8, d11, d10, d9, d7, d4, d6, d5, u19, hkd]
        refine hK x _ hok ?_
        refine SemLe.trans (SemLe.reloc (i := 5) (j := 6) ?_ (by decide) ?_ ?_ (by decide) (by decide)) ?_
        · simp [go_sem, hL, optO]
        · simp
        · simp
        simp (maxSteps := 1000000) only [go_sem, St.reloc, d0, d1, d2, d3, d12, d13, d14, d15, d16, d8, d11, d10, d9, d7, d4, d6, d5, u19]
        rw [sTie_eq]
        refine .le ?_ ?_
        · cases h17 : L 17 <;> cases h19 : L 19 <;> simp_all [go_sem, upd, tie9, encDv]
        · simp
      refine invSteps_cons 18 (fun L x hL hdep hcl hok K hK => ?_) ?_
      · have u19 : L 19 = false := hcl.no (i := 19) (j := 18) (by kernel_rfl) hL
        obtain ⟨hxd, ha0, ha1, hb0, hb1⟩ := id hok
        have hkd := kd_get ha0 ha1
        have imp : L 19 = true → L 17 = true := hcl 19 17 (by kernel_rfl)
        rw [sTie_eq]
        simp (maxSteps := 1000000) (disch := omega) only [go_sem, Nat.reduceLT, hL, opt_true, opt_false, optO_true, optO_false, cond_true, cond_false, u19, hkd]
        refine hK x _ hok ?_
        rw [sTie_eq]
        refine .le ?_ ?_
        · cases h17 : L 17 <;> cases h19 : L 19 <;> simp_all [go_sem, upd, tie9, encDv]
        · simp
      refine invSteps_cons 19 (fun L x hL hdep hcl hok K hK => ?_) ?_
      · have d17 : L 17 = true := hdep 17 (by kernel_rfl)
        have d18 : L 18 = true := hdep 18 (by kernel_rfl)
        have d0 : L 0 = true := hcl 17 0 (by kernel_rfl) d17
        have d1 : L 1 = true := hcl 17 1 (by kernel_rfl) d17
        have d2 : L 2 = true := hcl 17 2 (by kernel_rfl) d17
        have d3 : L 3 = true := hcl 17 3 (by kernel_rfl) d17
        have d12 : L 12 = true := hcl 17 12 (by kernel_rfl) d17
        have d13 : L 13 = true := hcl 17 13 (by kernel_rfl) d17
        have d14 : L 14 = true := hcl 17 14 (by kernel_rfl) d17
        have d15 : L 15 = true := hcl 17 15 (by kernel_rfl) d17
        have d16 : L 16 = true := hcl 17 16 (by kernel_rfl) d17
        have d8 : L 8 = true := hcl 12 8 (by kernel_rfl) d12
        have d11 : L 11 = true := hcl 12 11 (by kernel_rfl) d12
        have d10 : L 10 = true := hcl 11 10 (by kernel_rfl) d11
        have d9 : L 9 = true := hcl 10 9 (by kernel_rfl) d10
        have d7 : L 7 = true := hcl 8 7 (by kernel_rfl) d8
        have d4 : L 4 = true := hcl 7 4 (by kernel_rfl) d7
        have d6 : L 6 = true := hcl 7 6 (by kernel_rfl) d7
        have d5 : L 5 = true := hcl 6 5 (by kernel_rfl) d6
        obtain ⟨hxd, ha0, ha1, hb0, hb1⟩ := id hok
        have hkd := kd_get ha0 ha1
        have imp : L 19 = true → L 17 = true := hcl 19 17 (by kernel_rfl)
        rw [sTie_eq]
        simp (maxSteps := 1000000) (disch := omega) only [go_sem, Nat.reduceLT, hL, opt_true, opt_false, optO_true, optO_false, cond_true, cond_false, d17, d18, d0, d1, d2, d3, d12, d13, d14, d15, d16, d8, d11, d10, d9, d7, d4, d6, d5, hkd]
        refine hK x _ hok ?_
        rw [sTie_eq]
        refine .le ?_ ?_
        · cases h17 : L 17 <;> cases h19 : L 19 <;> simp_all [go_sem, upd, tie9, encDv]
        · simp
      exact trivial
    rintro ⟨d1, ya, yb⟩ ⟨hd1, ha0, ha1, hb0, hb1⟩
    simp only at hd1 ha0 ha1 hb0 hb1
    rw [sTie_eq]
    simp only [go_sem, decide_true, Nat.reduceLT, opt_true, optO_true, cond_true]
    refine J_run 200 ?_
    iterate 4 (all_goals (try (first
      | (simp (maxSteps := 1000000) (disch := omega) only [go_sem])
      | ((with_reducible first | refine gDt ?_ ?_ | refine gDf ?_ ?_ | refine gNt ?_ ?_ | refine gNf ?_ ?_ | refine cD ?_ ?_ | refine cN ?_ ?_ | refine cB ?_ ?_ | refine gB ?_ ?_) <;> intro h)
      | with_reducible first | refine And.intro ?_ ?_ | refine J_seq ?_ | refine J_block ?_ | refine J_inBlock ?_ | refine rC ?_ | refine rR ?_ | refine rE ?_ | refine rG ?_)))
    refine .mk (ya, yb, d1) ⟨⟨ha0, ha1⟩, ⟨hb0, hb1⟩, hd1⟩ ?_ ?_
    · simp [go_sem, tie9, encDv, hne]
    · simp
  clear hd d
  rintro ⟨ya, yb, d⟩ ⟨⟨ha0, ha1⟩, ⟨hb0, hb1⟩, hd⟩
  simp only at ha0 ha1 hb0 hb1 hd
  simp only [go_sem]
  have htl : (tie9 (kd ya) (1 + yb)).length = 9 := rfl
  refine J_run 200 ?_
  iterate 40 (all_goals (try (first
    | ((with_reducible refine J_draw (id := 16) 200 [3] plan7_16_3 (by kernel_rfl) (by kernel_rfl) ?_); delta plan7_16_3)
    | (simp (maxSteps := 1000000) (disch := omega) only [go_sem, Nat.reduceLT, htl])
    | ((with_reducible refine CallA.mut [0] ?_ ?_ ?_ ?_ (x4 _ hd) ?_); (· simp (disch := omega) only [go_sem, Nat.reduceLT, htl]); (· simp (disch := omega) only [go_sem, Nat.reduceLT, htl]); (· simp (disch := omega) only [go_sem, Nat.reduceLT, htl]); (· simp (disch := omega) only [go_sem, Nat.reduceLT, htl]); rintro _ _ ⟨y4, d4, hd4, h40, h41, rfl, rfl⟩)
    | ((with_reducible refine CallA.mut [0] ?_ ?_ ?_ ?_ (x2 _ hd4) ?_); (· simp (disch := omega) only [go_sem, Nat.reduceLT, htl]); (· simp (disch := omega) only [go_sem, Nat.reduceLT, htl]); (· simp (disch := omega) only [go_sem, Nat.reduceLT, htl]); (· simp (disch := omega) only [go_sem, Nat.reduceLT, htl]); rintro _ _ ⟨y2, d5, hd5, h20, h21, rfl, rfl⟩)
    | ((with_reducible first | refine gDt ?_ ?_ | refine gDf ?_ ?_ | refine gNt ?_ ?_ | refine gNf ?_ ?_ | refine cD ?_ ?_ | refine cN ?_ ?_ | refine cB ?_ ?_ | refine gB ?_ ?_ | refine stepGuard_dect ?_ ?_ | refine stepGuard_decf ?_ ?_ | refine stepGuard_ndect ?_ ?_ | refine stepGuard_ndecf ?_ ?_ | refine stepGuard_by ?_ ?_) <;> intro h)
    | with_reducible first | refine And.intro ?_ ?_ | refine J_seq ?_ | refine J_block ?_ | refine J_inBlock ?_ | refine rC ?_ | refine rR ?_ | refine rE ?_ | refine rG ?_)))
  all_goals
    refine .frz [3, 5, 6] (.now ?_)
    simp only [go_sem]
  all_goals (rcases (show ya = 0 ∨ ya = 1 by omega) with rfl | rfl)
  all_goals (rcases (show yb = 0 ∨ yb = 1 by omega) with rfl | rfl)
  all_goals (try (rcases (show y2 = 0 ∨ y2 = 1 by omega) with rfl | rfl))
  all_goals exact tieEnd hno hne (by assumption) rfl (by decide +kernel) (by decide) (by decide) rfl rfl rfl
end Go.Proofs.YtmfgaefefgnhbaaGreatDoor.Abs
