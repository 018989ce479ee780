/- A document that the statements make. -/
import Derived.Test.YtfkiomkfoabnhaaDoorFA
import Derived.Test.YtfkiomkfoabnhaaDoorOA
import Derived.Test.YtfkiomkfoabnhaaDoorFL
import Derived.Test.YtfkiomkfoabnhaaDoorZ1
import Derived.Test.YtfkiomkfoabnhaaDoorAbsU
namespace Go.Proofs.YtfkiomkfoabnhaaDoor.Abs
set_option linter.unusedSimpArgs false
set_option linter.unusedVariables false
set_option maxRecDepth 100000
open Go Go.RowKit

def DrawnSpan (r : AV) (os : List Obj) : Prop := ∃ (a b : Int) (d : Dk), d.ok ∧ r = .agg [.raw (.int .i64 a), .raw (.int .i64 b)] ∧ os = [.box (encDk d)]
set_option maxHeartbeats 2000000 in
theorem spanD (d : Dk) (hd : d.ok) (m : Int) (h0 : 0 ≤ m) (h1 : m ≤ 1000) : Holds Tryd.prog GT0 46 [.ref 0 0, .raw (.int .i64 m)] [.box (encDk d)] DrawnSpan := by
  have hq : m.tdiv 2 = m / 2 := Int.tdiv_eq_ediv_of_nonneg h0
  have c1 := fun (d : Dk) (hd : d.ok) => next d hd m ⟨by omega, by omega⟩
  have c2 := fun (d : Dk) (hd : d.ok) => next d hd (m / 2 + 1) ⟨by omega, by omega⟩
  refine holds_of Tryd.func46 rfl rfl ?_
  refine J_run 200 ?_
  delta Tryd.f46
  iterate 12 (all_goals (try (first
    | (simp (maxSteps := 1000000) (disch := omega) only [go_sem, hq, Nat.reduceLT])
    | ((with_reducible refine CallA.mut [0] ?_ ?_ ?_ ?_ (c1 _ hd) ?_); (· simp (disch := omega) only [go_sem, hq, Nat.reduceLT]); (· simp (disch := omega) only [go_sem, hq, Nat.reduceLT]); (· simp (disch := omega) only [go_sem, hq, Nat.reduceLT]); (· simp (disch := omega) only [go_sem, hq, Nat.reduceLT]); rintro _ _ ⟨y1, d1, hd1, hy0, hy1, rfl, rfl⟩)
    | ((with_reducible refine CallA.mut [0] ?_ ?_ ?_ ?_ (c2 _ hd1) ?_); (· simp (disch := omega) only [go_sem, hq, Nat.reduceLT]); (· simp (disch := omega) only [go_sem, hq, Nat.reduceLT]); (· simp (disch := omega) only [go_sem, hq, Nat.reduceLT]); (· simp (disch := omega) only [go_sem, hq, Nat.reduceLT]); rintro _ _ ⟨y2, d2, hd2, hz0, hz1, rfl, rfl⟩)
    | ((with_reducible first | refine gDt ?_ ?_ | refine gDf ?_ ?_ | refine gNt ?_ ?_ | refine gNf ?_ ?_ | refine cD ?_ ?_ | refine cN ?_ ?_ | refine cB ?_ ?_ | refine gB ?_ ?_) <;> intro h)
    | with_reducible first | refine And.intro ?_ ?_ | refine J_seq ?_ | refine J_block ?_ | refine J_inBlock ?_ | refine rC ?_ | refine rR ?_ | refine rE ?_ | refine rG ?_)))
  all_goals
    refine .now ?_
    simp only [go_sem]
    exact ⟨_, _, d2, hd2, rfl, rfl⟩
def OwnZone (r : AV) (os : List Obj) : Prop := ∃ (z : List Int) (d : Dk), d.ok ∧ z.length ≤ 32 ∧ r = .own 1 1 0 z.length ∧ os = [.box (encDk d), .arr 1 (z.map encN)]
set_option maxHeartbeats 2000000 in
theorem zoneO (d : Dk) (hd : d.ok) (n : Net) (h1 : 1 ≤ n.nodes.length) (h32 : n.nodes.length ≤ 32) : Holds Tryd.prog GT0 13 [.ref 0 0, .agg (encNet n)] [.box (encDk d)] OwnZone := by
  have c := setD d hd n.nodes.length 2 (by omega)
  refine holds_of Tryd.func13 rfl rfl ?_
  refine J_run 200 ?_
  delta Tryd.f13
  simp only [encNet]
  repeat' (first
    | (exfalso; omega)
    | (simp (maxSteps := 1000000) (disch := omega) only [go_sem])
    | ((with_reducible refine CallA.mut [0] ?_ ?_ ?_ ?_ c ?_); (· simp (disch := omega) only [go_sem]); (· simp (disch := omega) only [go_sem]); (· simp (disch := omega) only [go_sem]); (· simp (disch := omega) only [go_sem]); rintro _ _ ⟨z, d', hd', hz, rfl, rfl⟩)
    | ((with_reducible first | refine gDt ?_ ?_ | refine gDf ?_ ?_ | refine gNt ?_ ?_ | refine gNf ?_ ?_ | refine cD ?_ ?_ | refine cN ?_ ?_ | refine cB ?_ ?_ | refine gB ?_ ?_) <;> intro h)
    | with_reducible first | refine And.intro ?_ ?_ | refine J_seq ?_ | refine J_block ?_ | refine J_inBlock ?_ | refine rC ?_ | refine rR ?_ | refine rE ?_ | refine rG ?_)
  all_goals rw [if_neg (by omega)] at hz
  · have hz0 : z = [] := List.length_eq_zero_iff.1 (by omega)
    have c2 := next d' hd' n.nodes.length ⟨by omega, by omega⟩
    repeat' (first
      | (simp (maxSteps := 1000000) (disch := omega) only [go_sem])
      | ((with_reducible refine CallA.mut [0] ?_ ?_ ?_ ?_ c2 ?_); (· simp (disch := omega) only [go_sem]); (· simp (disch := omega) only [go_sem]); (· simp (disch := omega) only [go_sem]); (· simp (disch := omega) only [go_sem]); rintro _ _ ⟨x, d2, hd2, h0, hx, rfl, rfl⟩)
      | ((with_reducible first | refine gDt ?_ ?_ | refine gDf ?_ ?_ | refine gNt ?_ ?_ | refine gNf ?_ ?_ | refine cD ?_ ?_ | refine cN ?_ ?_ | refine cB ?_ ?_ | refine gB ?_ ?_) <;> intro h)
      | with_reducible first | refine And.intro ?_ ?_ | refine J_seq ?_ | refine J_block ?_ | refine J_inBlock ?_ | refine rC ?_ | refine rR ?_ | refine rE ?_ | refine rG ?_)
    refine .now ?_
    simp (maxSteps := 1000000) (disch := omega) only [go_sem]
    exact ⟨[x], d2, hd2, by simp, by simp, by simp [encN]⟩
  · have hzl := rising_len (by omega) hz
    refine .now ?_
    simp (maxSteps := 1000000) (disch := omega) only [go_sem]
    exact ⟨z, d', hd', by omega, rfl, rfl⟩
structure IDoc where
  d : Dk
  nu : Int
  ki : Int
  st : Int
  ro : Int
  z : List Int
  sa : Int
  is : Int
  ho : Int
  fr : Int
  un : Int
structure IDoc.Ok (x : IDoc) : Prop where
  hd : x.d.ok
  nu0 : 0 ≤ x.nu
  nu1 : x.nu < 60
  ki0 : 0 ≤ x.ki
  ki1 : x.ki < 3
  st0 : 0 ≤ x.st
  st1 : x.st < 5
  ro0 : 0 ≤ x.ro
  ro1 : x.ro < 3
  sa0 : 0 ≤ x.sa
  sa1 : x.sa < 4
  is0 : 0 ≤ x.is
  is1 : x.is < 3
  ho0 : 0 ≤ x.ho
  ho1 : x.ho < 3
  zl : x.z.length ≤ 32
def issS (y : Int) : ByteArray := if y = 0 then ⟨#[65, 49]⟩ else if y = 1 then ⟨#[65, 50]⟩ else ⟨#[67, 49]⟩
def holS (y : Int) : ByteArray := if y = 0 then ⟨#[66, 49]⟩ else if y = 1 then ⟨#[66, 50]⟩ else ⟨#[67, 50]⟩
theorem issS_size {y : Int} : (issS y).size = 2 := by unfold issS; split <;> (try split) <;> rfl
theorem holS_size {y : Int} : (holS y).size = 2 := by unfold holS; split <;> (try split) <;> rfl
theorem iss_get {y : Int} (h0 : 0 ≤ y) (h1 : y < 3) : ([[.raw (.string ⟨#[65, 49]⟩)], [.raw (.string ⟨#[65, 50]⟩)], [.raw (.string ⟨#[67, 49]⟩)]] : List (List AV)).getD y.toNat [] = [.raw (.string (issS y))] := by
  rcases (show y = 0 ∨ y = 1 ∨ y = 2 by omega) with rfl | rfl | rfl <;> rfl
theorem hol_get {y : Int} (h0 : 0 ≤ y) (h1 : y < 3) : ([[.raw (.string ⟨#[66, 49]⟩)], [.raw (.string ⟨#[66, 50]⟩)], [.raw (.string ⟨#[67, 50]⟩)]] : List (List AV)).getD y.toNat [] = [.raw (.string (holS y))] := by
  rcases (show y = 0 ∨ y = 1 ∨ y = 2 by omega) with rfl | rfl | rfl <;> rfl
def sDoc (n : Net) (L : Nat → Bool) (x : IDoc) : St := ⟨[.ref 0 0, .top, .top, .ref 1 0, .ref 2 0, opt (L 30) (.ref 4 0), .top, opt (L 0) (.ref 0 0), opt (L 1) (.raw (.int .i64 x.nu)), opt (L 2) (.raw (.int .i64 (1 + x.nu))), opt (L 3) (.ref 0 0), opt (L 4) (.raw (.int .i64 x.ki)), opt (L 5) (.raw (.int .i64 (1 + x.ki))), opt (L 6) (.ref 0 0), opt (L 7) (.raw (.int .i64 x.st)), opt (L 8) (.raw (.int .i64 (1 + x.st))), opt (L 9) (.ref 0 0), opt (L 10) (.raw (.int .i64 x.ro)), opt (L 11) (.ref 0 0), opt (L 12) (.agg [.lst 3 (n.nodes.map encNd), .lst 5 (n.devs.map encDv)]), opt (L 13) (.own 3 1 0 x.z.length), opt (L 14) (.ref 0 0), opt (L 15) (.raw (.int .i64 x.sa)), opt (L 16) (.raw (.int .i64 (1 + x.sa))), opt (L 17) (.lst 1 [[.raw (.string ⟨#[65, 49]⟩)], [.raw (.string ⟨#[65, 50]⟩)], [.raw (.string ⟨#[67, 49]⟩)]]), opt (L 18) (.ref 0 0), opt (L 19) (.raw (.int .i64 x.is)), opt (L 20) (.cptr [.raw (.string (issS x.is))]), opt (L 21) (.raw (.string (issS x.is))), opt (L 22) (.lst 1 [[.raw (.string ⟨#[66, 49]⟩)], [.raw (.string ⟨#[66, 50]⟩)], [.raw (.string ⟨#[67, 50]⟩)]]), opt (L 23) (.ref 0 0), opt (L 24) (.raw (.int .i64 x.ho)), opt (L 25) (.cptr [.raw (.string (holS x.ho))]), opt (L 26) (.raw (.string (holS x.ho))), opt (L 27) (.ref 0 0), opt (L 28) (.agg [.raw (.int .i64 x.fr), .raw (.int .i64 x.un)]), opt (L 29) (.agg [.raw (.int .i64 (1 + x.nu)), .raw (.int .i64 (1 + x.ki)), .raw (.int .i64 (1 + x.st)), .raw (.int .i64 x.ro), .own 3 1 0 x.z.length, .raw (.int .i64 (1 + x.sa)), .raw (.slice none 0 0), .raw (.string (issS x.is)), .raw (.string (holS x.ho)), .raw (.int .i64 x.fr), .raw (.int .i64 x.un), .raw (.slice none 0 0)]), .top, .top, .top, .top, .top, .top, .top, .top, .top, .top, .top, .top, .top, .top, .top, .top, .top, .top, .top, .top, .top, .top, .top, .top, .top, .top, .top, .top, .top, .top, .top, .top, .top, .top, .top, .top, .top, .top, .top, .top, .top, .top, .top, .top, .top, .top, .top, .top, .top, .top, .top, .top, .top, .top, .top, .top, .top, .top, .top, .top, .top, .top, .top, .top, .top, .top, .top, .top, .top, .top, .top, .top, .top, .top, .top, .top], [.box (encDk x.d), .box [.lst 3 (n.nodes.map encNd), .lst 5 (n.devs.map encDv)], .box [.raw (.int .i64 0), .raw (.int .i64 0), .raw (.int .i64 0), .raw (.int .i64 0), .raw (.slice none 0 0), .raw (.int .i64 0), .raw (.slice none 0 0), .raw (.string ⟨#[]⟩), .raw (.string ⟨#[]⟩), .raw (.int .i64 0), .raw (.int .i64 0), .raw (.slice none 0 0)], optO (L 13) (.arr 1 (x.z.map encN)), optO (L 30) (.box (cond (L 31) [.raw (.int .i64 (1 + x.nu)), .raw (.int .i64 (1 + x.ki)), .raw (.int .i64 (1 + x.st)), .raw (.int .i64 x.ro), .own 3 1 0 x.z.length, .raw (.int .i64 (1 + x.sa)), .raw (.slice none 0 0), .raw (.string (issS x.is)), .raw (.string (holS x.ho)), .raw (.int .i64 x.fr), .raw (.int .i64 x.un), .raw (.slice none 0 0)] [.raw (.int .i64 0), .raw (.int .i64 0), .raw (.int .i64 0), .raw (.int .i64 0), .raw (.slice none 0 0), .raw (.int .i64 0), .raw (.slice none 0 0), .raw (.string ⟨#[]⟩), .raw (.string ⟨#[]⟩), .raw (.int .i64 0), .raw (.int .i64 0), .raw (.slice none 0 0)]))]⟩
theorem sDoc_eq (n : Net) (L : Nat → Bool) (x : IDoc) : sDoc n L x = ⟨[.ref 0 0, .top, .top, .ref 1 0, .ref 2 0, opt (L 30) (.ref 4 0), .top, opt (L 0) (.ref 0 0), opt (L 1) (.raw (.int .i64 x.nu)), opt (L 2) (.raw (.int .i64 (1 + x.nu))), opt (L 3) (.ref 0 0), opt (L 4) (.raw (.int .i64 x.ki)), opt (L 5) (.raw (.int .i64 (1 + x.ki))), opt (L 6) (.ref 0 0), opt (L 7) (.raw (.int .i64 x.st)), opt (L 8) (.raw (.int .i64 (1 + x.st))), opt (L 9) (.ref 0 0), opt (L 10) (.raw (.int .i64 x.ro)), opt (L 11) (.ref 0 0), opt (L 12) (.agg [.lst 3 (n.nodes.map encNd), .lst 5 (n.devs.map encDv)]), opt (L 13) (.own 3 1 0 x.z.length), opt (L 14) (.ref 0 0), opt (L 15) (.raw (.int .i64 x.sa)), opt (L 16) (.raw (.int .i64 (1 + x.sa))), opt (L 17) (.lst 1 [[.raw (.string ⟨#[65, 49]⟩)], [.raw (.string ⟨#[65, 50]⟩)], [.raw (.string ⟨#[67, 49]⟩)]]), opt (L 18) (.ref 0 0), opt (L 19) (.raw (.int .i64 x.is)), opt (L 20) (.cptr [.raw (.string (issS x.is))]), opt (L 21) (.raw (.string (issS x.is))), opt (L 22) (.lst 1 [[.raw (.string ⟨#[66, 49]⟩)], [.raw (.string ⟨#[66, 50]⟩)], [.raw (.string ⟨#[67, 50]⟩)]]), opt (L 23) (.ref 0 0), opt (L 24) (.raw (.int .i64 x.ho)), opt (L 25) (.cptr [.raw (.string (holS x.ho))]), opt (L 26) (.raw (.string (holS x.ho))), opt (L 27) (.ref 0 0), opt (L 28) (.agg [.raw (.int .i64 x.fr), .raw (.int .i64 x.un)]), opt (L 29) (.agg [.raw (.int .i64 (1 + x.nu)), .raw (.int .i64 (1 + x.ki)), .raw (.int .i64 (1 + x.st)), .raw (.int .i64 x.ro), .own 3 1 0 x.z.length, .raw (.int .i64 (1 + x.sa)), .raw (.slice none 0 0), .raw (.string (issS x.is)), .raw (.string (holS x.ho)), .raw (.int .i64 x.fr), .raw (.int .i64 x.un), .raw (.slice none 0 0)]), .top, .top, .top, .top, .top, .top, .top, .top, .top, .top, .top, .top, .top, .top, .top, .top, .top, .top, .top, .top, .top, .top, .top, .top, .top, .top, .top, .top, .top, .top, .top, .top, .top, .top, .top, .top, .top, .top, .top, .top, .top, .top, .top, .top, .top, .top, .top, .top, .top, .top, .top, .top, .top, .top, .top, .top, .top, .top, .top, .top, .top, .top, .top, .top, .top, .top, .top, .top, .top, .top, .top, .top, .top, .top, .top, .top], [.box (encDk x.d), .box [.lst 3 (n.nodes.map encNd), .lst 5 (n.devs.map encDv)], .box [.raw (.int .i64 0), .raw (.int .i64 0), .raw (.int .i64 0), .raw (.int .i64 0), .raw (.slice none 0 0), .raw (.int .i64 0), .raw (.slice none 0 0), .raw (.string ⟨#[]⟩), .raw (.string ⟨#[]⟩), .raw (.int .i64 0), .raw (.int .i64 0), .raw (.slice none 0 0)], optO (L 13) (.arr 1 (x.z.map encN)), optO (L 30) (.box (cond (L 31) [.raw (.int .i64 (1 + x.nu)), .raw (.int .i64 (1 + x.ki)), .raw (.int .i64 (1 + x.st)), .raw (.int .i64 x.ro), .own 3 1 0 x.z.length, .raw (.int .i64 (1 + x.sa)), .raw (.slice none 0 0), .raw (.string (issS x.is)), .raw (.string (holS x.ho)), .raw (.int .i64 x.fr), .raw (.int .i64 x.un), .raw (.slice none 0 0)] [.raw (.int .i64 0), .raw (.int .i64 0), .raw (.int .i64 0), .raw (.int .i64 0), .raw (.slice none 0 0), .raw (.int .i64 0), .raw (.slice none 0 0), .raw (.string ⟨#[]⟩), .raw (.string ⟨#[]⟩), .raw (.int .i64 0), .raw (.int .i64 0), .raw (.slice none 0 0)]))]⟩ := rfl
theorem mapS {l : List Int} {y : Int} : l.map encN ++ [[.raw (.int .i64 y)]] = (l ++ [y]).map encN := by simp [encN]
theorem pick2 {a b y : Int} (h0 : 0 ≤ y) (h1 : y < 2) : ([[.raw (.int .i64 a)], [.raw (.int .i64 b)]] : List (List AV)).getD y.toNat [] = [.raw (.int .i64 (if y = 0 then a else b))] := by
  rcases (show y = 0 ∨ y = 1 by omega) with rfl | rfl <;> rfl
/-- A document that was drawn. -/
structure Doc.small (n : Net) (x : Doc) : Prop where
  zl : x.zone.length ≤ 40
  lk : Locks n x.locks
  ky : ∀ k, k ∈ x.locks → 10 ≤ k.key ∧ k.key ≤ 27
  cl : x.certs.length ≤ 8
  il : x.iss.size ≤ 2
  hl : x.hol.size ≤ 2
def DrawnDoc (n : Net) (r : AV) (os : List Obj) : Prop := ∃ (x : Doc) (d : Dk), d.ok ∧ x.small n ∧ r = .agg (encDoc x) ∧ os = [.box (encDk d)]
theorem docEnd {n : Net} {d : Dk} {num kind state round safe frm til : Int} (z c : List Int) {lk : List Lk} {iss hol : ByteArray} {zs cs : List (List AV)} (hd : d.ok) (hlk : Locks n lk) (hky : ∀ k, k ∈ lk → 10 ≤ k.key ∧ k.key ≤ 27) (hz : zs = z.map encN) (hc : cs = c.map encN) (hzl : z.length ≤ 40) (hcl : c.length ≤ 8) (hi : iss.size ≤ 2) (hh : hol.size ≤ 2) :
    DrawnDoc n (.agg [.raw (.int .i64 num), .raw (.int .i64 kind), .raw (.int .i64 state), .raw (.int .i64 round), .lst 1 zs, .raw (.int .i64 safe), .lst 3 (lk.map encLk), .raw (.string iss), .raw (.string hol), .raw (.int .i64 frm), .raw (.int .i64 til), .lst 1 cs]) [.box (encDk d)] :=
  ⟨⟨num, kind, state, round, z, safe, lk, iss, hol, frm, til, c⟩, d, hd, ⟨hzl, hlk, hky, hcl, hi, hh⟩, by subst hz; subst hc; rfl, rfl⟩

set_option maxHeartbeats 16000000 in
theorem docD (d : Dk) (hd : d.ok) (n : Net) (hn : n.ok) (h1 : 1 ≤ n.nodes.length) (h32 : n.nodes.length ≤ 32) : Holds Tryd.prog GT0 18 [.ref 0 0, .agg (encNet n)] [.box (encDk d)] (DrawnDoc n) := by
  have nx := fun (d : Dk) (hd : d.ok) (k : Int) (hk : inI k) => next d hd k hk
  have x2 := fun (d : Dk) (hd : d.ok) => next d hd 2 (by decide)
  have x3 := fun (d : Dk) (hd : d.ok) => next d hd 3 (by decide)
  have x5 := fun (d : Dk) (hd : d.ok) => next d hd 5 (by decide)
  have x6 := fun (d : Dk) (hd : d.ok) => next d hd 6 (by decide)
  have x8 := fun (d : Dk) (hd : d.ok) => next d hd 8 (by decide)
  have x9 := fun (d : Dk) (hd : d.ok) => next d hd 9 (by decide)
  have x20 := fun (d : Dk) (hd : d.ok) => next d hd 20 (by decide)
  have cl := fun (d : Dk) (hd : d.ok) => Holds.args (locksK d hd n hn [] (by simp) 5 (by decide) (by decide)) (args := [.ref 0 0, .agg (encNet n), .raw (.slice none 0 0), .raw (.int .i64 5)]) (.cons (VLe.refl _) (.cons (VLe.refl _) (.cons (VLe.nilLst 1) (VLes.refl _))))
  refine holds_of Tryd.func18 rfl rfl ?_
  refine J_run 200 ?_
  delta Tryd.f18
  simp only [encNet] at cl ⊢
  iterate 8 (all_goals (try (first
    | (simp (maxSteps := 1000000) (disch := omega) only [go_sem])
    | ((with_reducible first | refine gDt ?_ ?_ | refine gDf ?_ ?_ | refine gNt ?_ ?_ | refine gNf ?_ ?_ | refine cD ?_ ?_ | refine cN ?_ ?_ | refine cB ?_ ?_ | refine gB ?_ ?_) <;> intro h)
    | with_reducible first | refine And.intro ?_ ?_ | refine J_seq ?_ | refine J_block ?_ | refine J_inBlock ?_ | refine rC ?_ | refine rR ?_ | refine rE ?_ | refine rG ?_)))
  first | refine J_seq ?_ | skip
  refine J_inv2 (by kernel_rfl) [1, 4, 7, 10, 13, 15, 19, 24, 28] (sDoc n) (fun x : IDoc => x.Ok) ⟨d, 0, 0, 0, 0, [], 0, 0, 0, 0, 0⟩ 32 rfl (by kernel_rfl) ⟨hd, by simp, by simp, by simp, by simp, by simp, by simp, by simp, by simp, by simp, by simp, by simp, by simp, by simp, by simp, by simp⟩ ?_ ?_ ?_
  · rw [sDoc_eq]
    refine SemLe.trans (SemLe.pad 2) ?_
    refine .le ?_ ?_
    · simp [go_sem]
    · simp
  · clear hd d
    refine invSteps_cons 0 (fun L x hL hdep hcl hok K hK => ?_) ?_
    · have u1 : L 1 = false := hcl.no (i := 1) (j := 0) (by kernel_rfl) hL
      have u2 : L 2 = false := hcl.no (i := 2) (j := 1) (by kernel_rfl) u1
      have u29 : L 29 = false := hcl.no (i := 29) (j := 2) (by kernel_rfl) u2
      have u31 : L 31 = false := hcl.no (i := 31) (j := 29) (by kernel_rfl) u29
      have ok := hok
      have b0 := ok.nu0
      have b1 := ok.nu1
      have b2 := ok.ki0
      have b3 := ok.ki1
      have b4 := ok.st0
      have b5 := ok.st1
      have b6 := ok.ro0
      have b7 := ok.ro1
      have b8 := ok.sa0
      have b9 := ok.sa1
      have b10 := ok.is0
      have b11 := ok.is1
      have b12 := ok.ho0
      have b13 := ok.ho1
      have b14 := ok.zl
      have hi3 := iss_get ok.is0 ok.is1
      have hh3 := hol_get ok.ho0 ok.ho1
      have t29 : L 13 = false → L 29 = false := fun h => hcl.no (i := 29) (j := 13) (by kernel_rfl) h
      have t31 : L 13 = false → L 31 = false := fun h => hcl.no (i := 31) (j := 29) (by kernel_rfl) (t29 h)
      rw [sDoc_eq]
      simp (maxSteps := 1000000) (disch := omega) only [go_sem, Nat.reduceLT, hL, opt_true, opt_false, optO_true, optO_false, cond_true, cond_false, u1, u2, u29, u31, hi3, hh3, encNet]
      refine hK x _ hok ?_
      rw [sDoc_eq]
      refine .le ?_ ?_
      · cases h13 : L 13 <;> cases h30 : L 30 <;> cases h31 : L 31 <;> simp_all [go_sem, upd]
      · simp
    refine invSteps_cons 1 (fun L x hL hdep hcl hok K hK => ?_) ?_
    · have d0 : L 0 = true := hdep 0 (by kernel_rfl)
      have u2 : L 2 = false := hcl.no (i := 2) (j := 1) (by kernel_rfl) hL
      have u29 : L 29 = false := hcl.no (i := 29) (j := 2) (by kernel_rfl) u2
      have u31 : L 31 = false := hcl.no (i := 31) (j := 29) (by kernel_rfl) u29
      have ok := hok
      have b0 := ok.nu0
      have b1 := ok.nu1
      have b2 := ok.ki0
      have b3 := ok.ki1
      have b4 := ok.st0
      have b5 := ok.st1
      have b6 := ok.ro0
      have b7 := ok.ro1
      have b8 := ok.sa0
      have b9 := ok.sa1
      have b10 := ok.is0
      have b11 := ok.is1
      have b12 := ok.ho0
      have b13 := ok.ho1
      have b14 := ok.zl
      have hi3 := iss_get ok.is0 ok.is1
      have hh3 := hol_get ok.ho0 ok.ho1
      have t29 : L 13 = false → L 29 = false := fun h => hcl.no (i := 29) (j := 13) (by kernel_rfl) h
      have t31 : L 13 = false → L 31 = false := fun h => hcl.no (i := 31) (j := 29) (by kernel_rfl) (t29 h)
      rw [sDoc_eq]
      simp (maxSteps := 1000000) (disch := omega) only [go_sem, Nat.reduceLT, hL, opt_true, opt_false, optO_true, optO_false, cond_true, cond_false, d0, u2, u29, u31, hi3, hh3, encNet]
      refine CallA.mut [0] ?_ ?_ ?_ ?_ (nx x.d ok.hd 60 (by decide)) ?_
      · simp (disch := omega) only [go_sem, hi3, hh3, encNet]
      · simp (disch := omega) only [go_sem, hi3, hh3, encNet]
      · simp (disch := omega) only [go_sem, hi3, hh3, encNet]
      · simp (disch := omega) only [go_sem, hi3, hh3, encNet]
      rintro _ _ ⟨y, d2, hd2, hy0, hy1, rfl, rfl⟩
      simp (maxSteps := 1000000) (disch := omega) only [go_sem, Nat.reduceLT, hi3, hh3, encNet]
      refine hK (⟨d2, y, x.ki, x.st, x.ro, x.z, x.sa, x.is, x.ho, x.fr, x.un⟩) _ ({ ok with hd := hd2, nu0 := hy0, nu1 := by simp only; omega }) ?_
      rw [sDoc_eq]
      refine .le ?_ ?_
      · cases h13 : L 13 <;> cases h30 : L 30 <;> cases h31 : L 31 <;> simp_all [go_sem, upd]
      · simp
    refine invSteps_cons 2 (fun L x hL hdep hcl hok K hK => ?_) ?_
    · have d1 : L 1 = true := hdep 1 (by kernel_rfl)
      have d0 : L 0 = true := hcl 1 0 (by kernel_rfl) d1
      have u29 : L 29 = false := hcl.no (i := 29) (j := 2) (by kernel_rfl) hL
      have u31 : L 31 = false := hcl.no (i := 31) (j := 29) (by kernel_rfl) u29
      have ok := hok
      have b0 := ok.nu0
      have b1 := ok.nu1
      have b2 := ok.ki0
      have b3 := ok.ki1
      have b4 := ok.st0
      have b5 := ok.st1
      have b6 := ok.ro0
      have b7 := ok.ro1
      have b8 := ok.sa0
      have b9 := ok.sa1
      have b10 := ok.is0
      have b11 := ok.is1
      have b12 := ok.ho0
      have b13 := ok.ho1
      have b14 := ok.zl
      have hi3 := iss_get ok.is0 ok.is1
      have hh3 := hol_get ok.ho0 ok.ho1
      have t29 : L 13 = false → L 29 = false := fun h => hcl.no (i := 29) (j := 13) (by kernel_rfl) h
      have t31 : L 13 = false → L 31 = false := fun h => hcl.no (i := 31) (j := 29) (by kernel_rfl) (t29 h)
      rw [sDoc_eq]
      simp (maxSteps := 1000000) (disch := omega) only [go_sem, Nat.reduceLT, hL, opt_true, opt_false, optO_true, optO_false, cond_true, cond_false, d1, d0, u29, u31, hi3, hh3, encNet]
      refine hK x _ hok ?_
      rw [sDoc_eq]
      refine .le ?_ ?_
      · cases h13 : L 13 <;> cases h30 : L 30 <;> cases h31 : L 31 <;> simp_all [go_sem, upd]
      · simp
    refine invSteps_cons 3 (fun L x hL hdep hcl hok K hK => ?_) ?_
    · have u4 : L 4 = false := hcl.no (i := 4) (j := 3) (by kernel_rfl) hL
      have u5 : L 5 = false := hcl.no (i := 5) (j := 4) (by kernel_rfl) u4
      have u29 : L 29 = false := hcl.no (i := 29) (j := 5) (by kernel_rfl) u5
      have u31 : L 31 = false := hcl.no (i := 31) (j := 29) (by kernel_rfl) u29
      have ok := hok
      have b0 := ok.nu0
      have b1 := ok.nu1
      have b2 := ok.ki0
      have b3 := ok.ki1
      have b4 := ok.st0
      have b5 := ok.st1
      have b6 := ok.ro0
      have b7 := ok.ro1
      have b8 := ok.sa0
      have b9 := ok.sa1
      have b10 := ok.is0
      have b11 := ok.is1
      have b12 := ok.ho0
      have b13 := ok.ho1
      have b14 := ok.zl
      have hi3 := iss_get ok.is0 ok.is1
      have hh3 := hol_get ok.ho0 ok.ho1
      have t29 : L 13 = false → L 29 = false := fun h => hcl.no (i := 29) (j := 13) (by kernel_rfl) h
      have t31 : L 13 = false → L 31 = false := fun h => hcl.no (i := 31) (j := 29) (by kernel_rfl) (t29 h)
      rw [sDoc_eq]
      simp (maxSteps := 1000000) (disch := omega) only [go_sem, Nat.reduceLT, hL, opt_true, opt_false, optO_true, optO_false, cond_true, cond_false, u4, u5, u29, u31, hi3, hh3, encNet]
      refine hK x _ hok ?_
      rw [sDoc_eq]
      refine .le ?_ ?_
      · cases h13 : L 13 <;> cases h30 : L 30 <;> cases h31 : L 31 <;> simp_all [go_sem, upd]
      · simp
    refine invSteps_cons 4 (fun L x hL hdep hcl hok K hK => ?_) ?_
    · have d3 : L 3 = true := hdep 3 (by kernel_rfl)
      have u5 : L 5 = false := hcl.no (i := 5) (j := 4) (by kernel_rfl) hL
      have u29 : L 29 = false := hcl.no (i := 29) (j := 5) (by kernel_rfl) u5
      have u31 : L 31 = false := hcl.no (i := 31) (j := 29) (by kernel_rfl) u29
      have ok := hok
      have b0 := ok.nu0
      have b1 := ok.nu1
      have b2 := ok.ki0
      have b3 := ok.ki1
      have b4 := ok.st0
      have b5 := ok.st1
      have b6 := ok.ro0
      have b7 := ok.ro1
      have b8 := ok.sa0
      have b9 := ok.sa1
      have b10 := ok.is0
      have b11 := ok.is1
      have b12 := ok.ho0
      have b13 := ok.ho1
      have b14 := ok.zl
      have hi3 := iss_get ok.is0 ok.is1
      have hh3 := hol_get ok.ho0 ok.ho1
      have t29 : L 13 = false → L 29 = false := fun h => hcl.no (i := 29) (j := 13) (by kernel_rfl) h
      have t31 : L 13 = false → L 31 = false := fun h => hcl.no (i := 31) (j := 29) (by kernel_rfl) (t29 h)
      rw [sDoc_eq]
      simp (maxSteps := 1000000) (disch := omega) only [go_sem, Nat.reduceLT, hL, opt_true, opt_false, optO_true, optO_false, cond_true, cond_false, d3, u5, u29, u31, hi3, hh3, encNet]
      refine CallA.mut [0] ?_ ?_ ?_ ?_ (nx x.d ok.hd 3 (by decide)) ?_
      · simp (disch := omega) only [go_sem, hi3, hh3, encNet]
      · simp (disch := omega) only [go_sem, hi3, hh3, encNet]
      · simp (disch := omega) only [go_sem, hi3, hh3, encNet]
      · simp (disch := omega) only [go_sem, hi3, hh3, encNet]
      rintro _ _ ⟨y, d2, hd2, hy0, hy1, rfl, rfl⟩
      simp (maxSteps := 1000000) (disch := omega) only [go_sem, Nat.reduceLT, hi3, hh3, encNet]
      refine hK (⟨d2, x.nu, y, x.st, x.ro, x.z, x.sa, x.is, x.ho, x.fr, x.un⟩) _ ({ ok with hd := hd2, ki0 := hy0, ki1 := by simp only; omega }) ?_
      rw [sDoc_eq]
      refine .le ?_ ?_
      · cases h13 : L 13 <;> cases h30 : L 30 <;> cases h31 : L 31 <;> simp_all [go_sem, upd]
      · simp
    refine invSteps_cons 5 (fun L x hL hdep hcl hok K hK => ?_) ?_
    · have d4 : L 4 = true := hdep 4 (by kernel_rfl)
      have d3 : L 3 = true := hcl 4 3 (by kernel_rfl) d4
      have u29 : L 29 = false := hcl.no (i := 29) (j := 5) (by kernel_rfl) hL
      have u31 : L 31 = false := hcl.no (i := 31) (j := 29) (by kernel_rfl) u29
      have ok := hok
      have b0 := ok.nu0
      have b1 := ok.nu1
      have b2 := ok.ki0
      have b3 := ok.ki1
      have b4 := ok.st0
      have b5 := ok.st1
      have b6 := ok.ro0
      have b7 := ok.ro1
      have b8 := ok.sa0
      have b9 := ok.sa1
      have b10 := ok.is0
      have b11 := ok.is1
      have b12 := ok.ho0
      have b13 := ok.ho1
      have b14 := ok.zl
      have hi3 := iss_get ok.is0 ok.is1
      have hh3 := hol_get ok.ho0 ok.ho1
      have t29 : L 13 = false → L 29 = false := fun h => hcl.no (i := 29) (j := 13) (by kernel_rfl) h
      have t31 : L 13 = false → L 31 = false := fun h => hcl.no (i := 31) (j := 29) (by kernel_rfl) (t29 h)
      rw [sDoc_eq]
      simp (maxSteps := 1000000) (disch := omega) only [go_sem, Nat.reduceLT, hL, opt_true, opt_false, optO_true, optO_false, cond_true, cond_false, d4, d3, u29, u31, hi3, hh3, encNet]
      refine hK x _ hok ?_
      rw [sDoc_eq]
      refine .le ?_ ?_
      · cases h13 : L 13 <;> cases h30 : L 30 <;> cases h31 : L 31 <;> simp_all [go_sem, upd]
      · simp
    refine invSteps_cons 6 (fun L x hL hdep hcl hok K hK => ?_) ?_
    · have u7 : L 7 = false := hcl.no (i := 7) (j := 6) (by kernel_rfl) hL
      have u8 : L 8 = false := hcl.no (i := 8) (j := 7) (by kernel_rfl) u7
      have u29 : L 29 = false := hcl.no (i := 29) (j := 8) (by kernel_rfl) u8
      have u31 : L 31 = false := hcl.no (i := 31) (j := 29) (by kernel_rfl) u29
      have ok := hok
      have b0 := ok.nu0
      have b1 := ok.nu1
      have b2 := ok.ki0
      have b3 := ok.ki1
      have b4 := ok.st0
      have b5 := ok.st1
      have b6 := ok.ro0
      have b7 := ok.ro1
      have b8 := ok.sa0
      have b9 := ok.sa1
      have b10 := ok.is0
      have b11 := ok.is1
      have b12 := ok.ho0
      have b13 := ok.ho1
      have b14 := ok.zl
      have hi3 := iss_get ok.is0 ok.is1
      have hh3 := hol_get ok.ho0 ok.ho1
      have t29 : L 13 = false → L 29 = false := fun h => hcl.no (i := 29) (j := 13) (by kernel_rfl) h
      have t31 : L 13 = false → L 31 = false := fun h => hcl.no (i := 31) (j := 29) (by kernel_rfl) (t29 h)
      rw [sDoc_eq]
      simp (maxSteps := 1000000) (disch := omega) only [go_sem, Nat.reduceLT, hL, opt_true, opt_false, optO_true, optO_false, cond_true, cond_false, u7, u8, u29, u31, hi3, hh3, encNet]
      refine hK x _ hok ?_
      rw [sDoc_eq]
      refine .le ?_ ?_
      · cases h13 : L 13 <;> cases h30 : L 30 <;> cases h31 : L 31 <;> simp_all [go_sem, upd]
      · simp
    refine invSteps_cons 7 (fun L x hL hdep hcl hok K hK => ?_) ?_
    · have d6 : L 6 = true := hdep 6 (by kernel_rfl)
      have u8 : L 8 = false := hcl.no (i := 8) (j := 7) (by kernel_rfl) hL
      have u29 : L 29 = false := hcl.no (i := 29) (j := 8) (by kernel_rfl) u8
      have u31 : L 31 = false := hcl.no (i := 31) (j := 29) (by kernel_rfl) u29
      have ok := hok
      have b0 := ok.nu0
      have b1 := ok.nu1
      have b2 := ok.ki0
      have b3 := ok.ki1
      have b4 := ok.st0
      have b5 := ok.st1
      have b6 := ok.ro0
      have b7 := ok.ro1
      have b8 := ok.sa0
      have b9 := ok.sa1
      have b10 := ok.is0
      have b11 := ok.is1
      have b12 := ok.ho0
      have b13 := ok.ho1
      have b14 := ok.zl
      have hi3 := iss_get ok.is0 ok.is1
      have hh3 := hol_get ok.ho0 ok.ho1
      have t29 : L 13 = false → L 29 = false := fun h => hcl.no (i := 29) (j := 13) (by kernel_rfl) h
      have t31 : L 13 = false → L 31 = false := fun h => hcl.no (i := 31) (j := 29) (by kernel_rfl) (t29 h)
      rw [sDoc_eq]
      simp (maxSteps := 1000000) (disch := omega) only [go_sem, Nat.reduceLT, hL, opt_true, opt_false, optO_true, optO_false, cond_true, cond_false, d6, u8, u29, u31, hi3, hh3, encNet]
      refine CallA.mut [0] ?_ ?_ ?_ ?_ (nx x.d ok.hd 5 (by decide)) ?_
      · simp (disch := omega) only [go_sem, hi3, hh3, encNet]
      · simp (disch := omega) only [go_sem, hi3, hh3, encNet]
      · simp (disch := omega) only [go_sem, hi3, hh3, encNet]
      · simp (disch := omega) only [go_sem, hi3, hh3, encNet]
      rintro _ _ ⟨y, d2, hd2, hy0, hy1, rfl, rfl⟩
      simp (maxSteps := 1000000) (disch := omega) only [go_sem, Nat.reduceLT, hi3, hh3, encNet]
      refine hK (⟨d2, x.nu, x.ki, y, x.ro, x.z, x.sa, x.is, x.ho, x.fr, x.un⟩) _ ({ ok with hd := hd2, st0 := hy0, st1 := by simp only; omega }) ?_
      rw [sDoc_eq]
      refine .le ?_ ?_
      · cases h13 : L 13 <;> cases h30 : L 30 <;> cases h31 : L 31 <;> simp_all [go_sem, upd]
      · simp
    refine invSteps_cons 8 (fun L x hL hdep hcl hok K hK => ?_) ?_
    · have d7 : L 7 = true := hdep 7 (by kernel_rfl)
      have d6 : L 6 = true := hcl 7 6 (by kernel_rfl) d7
      have u29 : L 29 = false := hcl.no (i := 29) (j := 8) (by kernel_rfl) hL
      have u31 : L 31 = false := hcl.no (i := 31) (j := 29) (by kernel_rfl) u29
      have ok := hok
      have b0 := ok.nu0
      have b1 := ok.nu1
      have b2 := ok.ki0
      have b3 := ok.ki1
      have b4 := ok.st0
      have b5 := ok.st1
      have b6 := ok.ro0
      have b7 := ok.ro1
      have b8 := ok.sa0
      have b9 := ok.sa1
      have b10 := ok.is0
      have b11 := ok.is1
      have b12 := ok.ho0
      have b13 := ok.ho1
      have b14 := ok.zl
      have hi3 := iss_get ok.is0 ok.is1
      have hh3 := hol_get ok.ho0 ok.ho1
      have t29 : L 13 = false → L 29 = false := fun h => hcl.no (i := 29) (j := 13) (by kernel_rfl) h
      have t31 : L 13 = false → L 31 = false := fun h => hcl.no (i := 31) (j := 29) (by kernel_rfl) (t29 h)
      rw [sDoc_eq]
      simp (maxSteps := 1000000) (disch := omega) only [go_sem, Nat.reduceLT, hL, opt_true, opt_false, optO_true, optO_false, cond_true, cond_false, d7, d6, u29, u31, hi3, hh3, encNet]
      refine hK x _ hok ?_
      rw [sDoc_eq]
      refine .le ?_ ?_
      · cases h13 : L 13 <;> cases h30 : L 30 <;> cases h31 : L 31 <;> simp_all [go_sem, upd]
      · simp
    refine invSteps_cons 9 (fun L x hL hdep hcl hok K hK => ?_) ?_
    · have u10 : L 10 = false := hcl.no (i := 10) (j := 9) (by kernel_rfl) hL
      have u29 : L 29 = false := hcl.no (i := 29) (j := 10) (by kernel_rfl) u10
      have u31 : L 31 = false := hcl.no (i := 31) (j := 29) (by kernel_rfl) u29
      have ok := hok
      have b0 := ok.nu0
      have b1 := ok.nu1
      have b2 := ok.ki0
      have b3 := ok.ki1
      have b4 := ok.st0
      have b5 := ok.st1
      have b6 := ok.ro0
      have b7 := ok.ro1
      have b8 := ok.sa0
      have b9 := ok.sa1
      have b10 := ok.is0
      have b11 := ok.is1
      have b12 := ok.ho0
      have b13 := ok.ho1
      have b14 := ok.zl
      have hi3 := iss_get ok.is0 ok.is1
      have hh3 := hol_get ok.ho0 ok.ho1
      have t29 : L 13 = false → L 29 = false := fun h => hcl.no (i := 29) (j := 13) (by kernel_rfl) h
      have t31 : L 13 = false → L 31 = false := fun h => hcl.no (i := 31) (j := 29) (by kernel_rfl) (t29 h)
      rw [sDoc_eq]
      simp (maxSteps := 1000000) (disch := omega) only [go_sem, Nat.reduceLT, hL, opt_true, opt_false, optO_true, optO_false, cond_true, cond_false, u10, u29, u31, hi3, hh3, encNet]
      refine hK x _ hok ?_
      rw [sDoc_eq]
      refine .le ?_ ?_
      · cases h13 : L 13 <;> cases h30 : L 30 <;> cases h31 : L 31 <;> simp_all [go_sem, upd]
      · simp
    refine invSteps_cons 10 (fun L x hL hdep hcl hok K hK => ?_) ?_
    · have d9 : L 9 = true := hdep 9 (by kernel_rfl)
      have u29 : L 29 = false := hcl.no (i := 29) (j := 10) (by kernel_rfl) hL
      have u31 : L 31 = false := hcl.no (i := 31) (j := 29) (by kernel_rfl) u29
      have ok := hok
      have b0 := ok.nu0
      have b1 := ok.nu1
      have b2 := ok.ki0
      have b3 := ok.ki1
      have b4 := ok.st0
      have b5 := ok.st1
      have b6 := ok.ro0
      have b7 := ok.ro1
      have b8 := ok.sa0
      have b9 := ok.sa1
      have b10 := ok.is0
      have b11 := ok.is1
      have b12 := ok.ho0
      have b13 := ok.ho1
      have b14 := ok.zl
      have hi3 := iss_get ok.is0 ok.is1
      have hh3 := hol_get ok.ho0 ok.ho1
      have t29 : L 13 = false → L 29 = false := fun h => hcl.no (i := 29) (j := 13) (by kernel_rfl) h
      have t31 : L 13 = false → L 31 = false := fun h => hcl.no (i := 31) (j := 29) (by kernel_rfl) (t29 h)
      rw [sDoc_eq]
      simp (maxSteps := 1000000) (disch := omega) only [go_sem, Nat.reduceLT, hL, opt_true, opt_false, optO_true, optO_false, cond_true, cond_false, d9, u29, u31, hi3, hh3, encNet]
      refine CallA.mut [0] ?_ ?_ ?_ ?_ (nx x.d ok.hd 3 (by decide)) ?_
      · simp (disch := omega) only [go_sem, hi3, hh3, encNet]
      · simp (disch := omega) only [go_sem, hi3, hh3, encNet]
      · simp (disch := omega) only [go_sem, hi3, hh3, encNet]
      · simp (disch := omega) only [go_sem, hi3, hh3, encNet]
      rintro _ _ ⟨y, d2, hd2, hy0, hy1, rfl, rfl⟩
      simp (maxSteps := 1000000) (disch := omega) only [go_sem, Nat.reduceLT, hi3, hh3, encNet]
      refine hK (⟨d2, x.nu, x.ki, x.st, y, x.z, x.sa, x.is, x.ho, x.fr, x.un⟩) _ ({ ok with hd := hd2, ro0 := hy0, ro1 := by simp only; omega }) ?_
      rw [sDoc_eq]
      refine .le ?_ ?_
      · cases h13 : L 13 <;> cases h30 : L 30 <;> cases h31 : L 31 <;> simp_all [go_sem, upd]
      · simp
    refine invSteps_cons 11 (fun L x hL hdep hcl hok K hK => ?_) ?_
    · have u13 : L 13 = false := hcl.no (i := 13) (j := 11) (by kernel_rfl) hL
      have u29 : L 29 = false := hcl.no (i := 29) (j := 13) (by kernel_rfl) u13
      have u31 : L 31 = false := hcl.no (i := 31) (j := 29) (by kernel_rfl) u29
      have ok := hok
      have b0 := ok.nu0
      have b1 := ok.nu1
      have b2 := ok.ki0
      have b3 := ok.ki1
      have b4 := ok.st0
      have b5 := ok.st1
      have b6 := ok.ro0
      have b7 := ok.ro1
      have b8 := ok.sa0
      have b9 := ok.sa1
      have b10 := ok.is0
      have b11 := ok.is1
      have b12 := ok.ho0
      have b13 := ok.ho1
      have b14 := ok.zl
      have hi3 := iss_get ok.is0 ok.is1
      have hh3 := hol_get ok.ho0 ok.ho1
      have t29 : L 13 = false → L 29 = false := fun h => hcl.no (i := 29) (j := 13) (by kernel_rfl) h
      have t31 : L 13 = false → L 31 = false := fun h => hcl.no (i := 31) (j := 29) (by kernel_rfl) (t29 h)
      rw [sDoc_eq]
      simp (maxSteps := 1000000) (disch := omega) only [go_sem, Nat.reduceLT, hL, opt_true, opt_false, optO_true, optO_false, cond_true, cond_false, u13, u29, u31, hi3, hh3, encNet]
      refine hK x _ hok ?_
      rw [sDoc_eq]
      refine .le ?_ ?_
      · cases h13 : L 13 <;> cases h30 : L 30 <;> cases h31 : L 31 <;> simp_all [go_sem, upd]
      · simp
    refine invSteps_cons 12 (fun L x hL hdep hcl hok K hK => ?_) ?_
    · have u13 : L 13 = false := hcl.no (i := 13) (j := 12) (by kernel_rfl) hL
      have u29 : L 29 = false := hcl.no (i := 29) (j := 13) (by kernel_rfl) u13
      have u31 : L 31 = false := hcl.no (i := 31) (j := 29) (by kernel_rfl) u29
      have ok := hok
      have b0 := ok.nu0
      have b1 := ok.nu1
      have b2 := ok.ki0
      have b3 := ok.ki1
      have b4 := ok.st0
      have b5 := ok.st1
      have b6 := ok.ro0
      have b7 := ok.ro1
      have b8 := ok.sa0
      have b9 := ok.sa1
      have b10 := ok.is0
      have b11 := ok.is1
      have b12 := ok.ho0
      have b13 := ok.ho1
      have b14 := ok.zl
      have hi3 := iss_get ok.is0 ok.is1
      have hh3 := hol_get ok.ho0 ok.ho1
      have t29 : L 13 = false → L 29 = false := fun h => hcl.no (i := 29) (j := 13) (by kernel_rfl) h
      have t31 : L 13 = false → L 31 = false := fun h => hcl.no (i := 31) (j := 29) (by kernel_rfl) (t29 h)
      rw [sDoc_eq]
      simp (maxSteps := 1000000) (disch := omega) only [go_sem, Nat.reduceLT, hL, opt_true, opt_false, optO_true, optO_false, cond_true, cond_false, u13, u29, u31, hi3, hh3, encNet]
      refine hK x _ hok ?_
      rw [sDoc_eq]
      refine .le ?_ ?_
      · cases h13 : L 13 <;> cases h30 : L 30 <;> cases h31 : L 31 <;> simp_all [go_sem, upd]
      · simp
    refine invSteps_cons 13 (fun L x hL hdep hcl hok K hK => ?_) ?_
    · have d11 : L 11 = true := hdep 11 (by kernel_rfl)
      have d12 : L 12 = true := hdep 12 (by kernel_rfl)
      have u29 : L 29 = false := hcl.no (i := 29) (j := 13) (by kernel_rfl) hL
      have u31 : L 31 = false := hcl.no (i := 31) (j := 29) (by kernel_rfl) u29
      have ok := hok
      have b0 := ok.nu0
      have b1 := ok.nu1
      have b2 := ok.ki0
      have b3 := ok.ki1
      have b4 := ok.st0
      have b5 := ok.st1
      have b6 := ok.ro0
      have b7 := ok.ro1
      have b8 := ok.sa0
      have b9 := ok.sa1
      have b10 := ok.is0
      have b11 := ok.is1
      have b12 := ok.ho0
      have b13 := ok.ho1
      have b14 := ok.zl
      have hi3 := iss_get ok.is0 ok.is1
      have hh3 := hol_get ok.ho0 ok.ho1
      have t29 : L 13 = false → L 29 = false := fun h => hcl.no (i := 29) (j := 13) (by kernel_rfl) h
      have t31 : L 13 = false → L 31 = false := fun h => hcl.no (i := 31) (j := 29) (by kernel_rfl) (t29 h)
      rw [sDoc_eq]
      simp (maxSteps := 1000000) (disch := omega) only [go_sem, Nat.reduceLT, hL, opt_true, opt_false, optO_true, optO_false, cond_true, cond_false, d11, d12, u29, u31, hi3, hh3, encNet]
      refine CallA.mut [0] ?_ ?_ ?_ ?_ (zoneO x.d ok.hd n h1 h32) ?_
      · simp (disch := omega) only [go_sem, hi3, hh3, encNet]
      · simp (disch := omega) only [go_sem, hi3, hh3, encNet]
      · simp (disch := omega) only [go_sem, hi3, hh3, encNet]
      · simp (disch := omega) only [go_sem, hi3, hh3, encNet]
      rintro _ _ ⟨y, d2, hd2, hyl, rfl, rfl⟩
      simp (maxSteps := 1000000) (disch := omega) only [go_sem, Nat.reduceLT, hi3, hh3, encNet]
      refine hK (⟨d2, x.nu, x.ki, x.st, x.ro, y, x.sa, x.is, x.ho, x.fr, x.un⟩) _ ({ ok with hd := hd2, zl := hyl }) ?_
      refine SemLe.trans (SemLe.reloc (i := 3) (j := 5) ?_ (by decide) ?_ ?_ (by decide) (by decide)) ?_
      · simp [go_sem, hL, optO]
      · simp
      · simp
      simp (maxSteps := 1000000) only [go_sem, St.reloc, d11, d12, u29, u31]
      rw [sDoc_eq]
      refine .le ?_ ?_
      · cases h13 : L 13 <;> cases h30 : L 30 <;> cases h31 : L 31 <;> simp_all [go_sem, upd]
      · simp
    refine invSteps_cons 14 (fun L x hL hdep hcl hok K hK => ?_) ?_
    · have u15 : L 15 = false := hcl.no (i := 15) (j := 14) (by kernel_rfl) hL
      have u16 : L 16 = false := hcl.no (i := 16) (j := 15) (by kernel_rfl) u15
      have u29 : L 29 = false := hcl.no (i := 29) (j := 16) (by kernel_rfl) u16
      have u31 : L 31 = false := hcl.no (i := 31) (j := 29) (by kernel_rfl) u29
      have ok := hok
      have b0 := ok.nu0
      have b1 := ok.nu1
      have b2 := ok.ki0
      have b3 := ok.ki1
      have b4 := ok.st0
      have b5 := ok.st1
      have b6 := ok.ro0
      have b7 := ok.ro1
      have b8 := ok.sa0
      have b9 := ok.sa1
      have b10 := ok.is0
      have b11 := ok.is1
      have b12 := ok.ho0
      have b13 := ok.ho1
      have b14 := ok.zl
      have hi3 := iss_get ok.is0 ok.is1
      have hh3 := hol_get ok.ho0 ok.ho1
      have t29 : L 13 = false → L 29 = false := fun h => hcl.no (i := 29) (j := 13) (by kernel_rfl) h
      have t31 : L 13 = false → L 31 = false := fun h => hcl.no (i := 31) (j := 29) (by kernel_rfl) (t29 h)
      rw [sDoc_eq]
      simp (maxSteps := 1000000) (disch := omega) only [go_sem, Nat.reduceLT, hL, opt_true, opt_false, optO_true, optO_false, cond_true, cond_false, u15, u16, u29, u31, hi3, hh3, encNet]
      refine hK x _ hok ?_
      rw [sDoc_eq]
      refine .le ?_ ?_
      · cases h13 : L 13 <;> cases h30 : L 30 <;> cases h31 : L 31 <;> simp_all [go_sem, upd]
      · simp
    refine invSteps_cons 15 (fun L x hL hdep hcl hok K hK => ?_) ?_
    · have d14 : L 14 = true := hdep 14 (by kernel_rfl)
      have u16 : L 16 = false := hcl.no (i := 16) (j := 15) (by kernel_rfl) hL
      have u29 : L 29 = false := hcl.no (i := 29) (j := 16) (by kernel_rfl) u16
      have u31 : L 31 = false := hcl.no (i := 31) (j := 29) (by kernel_rfl) u29
      have ok := hok
      have b0 := ok.nu0
      have b1 := ok.nu1
      have b2 := ok.ki0
      have b3 := ok.ki1
      have b4 := ok.st0
      have b5 := ok.st1
      have b6 := ok.ro0
      have b7 := ok.ro1
      have b8 := ok.sa0
      have b9 := ok.sa1
      have b10 := ok.is0
      have b11 := ok.is1
      have b12 := ok.ho0
      have b13 := ok.ho1
      have b14 := ok.zl
      have hi3 := iss_get ok.is0 ok.is1
      have hh3 := hol_get ok.ho0 ok.ho1
      have t29 : L 13 = false → L 29 = false := fun h => hcl.no (i := 29) (j := 13) (by kernel_rfl) h
      have t31 : L 13 = false → L 31 = false := fun h => hcl.no (i := 31) (j := 29) (by kernel_rfl) (t29 h)
      rw [sDoc_eq]
      simp (maxSteps := 1000000) (disch := omega) only [go_sem, Nat.reduceLT, hL, opt_true, opt_false, optO_true, optO_false, cond_true, cond_false, d14, u16, u29, u31, hi3, hh3, encNet]
      refine CallA.mut [0] ?_ ?_ ?_ ?_ (nx x.d ok.hd 4 (by decide)) ?_
      · simp (disch := omega) only [go_sem, hi3, hh3, encNet]
      · simp (disch := omega) only [go_sem, hi3, hh3, encNet]
      · simp (disch := omega) only [go_sem, hi3, hh3, encNet]
      · simp (disch := omega) only [go_sem, hi3, hh3, encNet]
      rintro _ _ ⟨y, d2, hd2, hy0, hy1, rfl, rfl⟩
      simp (maxSteps := 1000000) (disch := omega) only [go_sem, Nat.reduceLT, hi3, hh3, encNet]
      refine hK (⟨d2, x.nu, x.ki, x.st, x.ro, x.z, y, x.is, x.ho, x.fr, x.un⟩) _ ({ ok with hd := hd2, sa0 := hy0, sa1 := by simp only; omega }) ?_
      rw [sDoc_eq]
      refine .le ?_ ?_
      · cases h13 : L 13 <;> cases h30 : L 30 <;> cases h31 : L 31 <;> simp_all [go_sem, upd]
      · simp
    refine invSteps_cons 16 (fun L x hL hdep hcl hok K hK => ?_) ?_
    · have d15 : L 15 = true := hdep 15 (by kernel_rfl)
      have d14 : L 14 = true := hcl 15 14 (by kernel_rfl) d15
      have u29 : L 29 = false := hcl.no (i := 29) (j := 16) (by kernel_rfl) hL
      have u31 : L 31 = false := hcl.no (i := 31) (j := 29) (by kernel_rfl) u29
      have ok := hok
      have b0 := ok.nu0
      have b1 := ok.nu1
      have b2 := ok.ki0
      have b3 := ok.ki1
      have b4 := ok.st0
      have b5 := ok.st1
      have b6 := ok.ro0
      have b7 := ok.ro1
      have b8 := ok.sa0
      have b9 := ok.sa1
      have b10 := ok.is0
      have b11 := ok.is1
      have b12 := ok.ho0
      have b13 := ok.ho1
      have b14 := ok.zl
      have hi3 := iss_get ok.is0 ok.is1
      have hh3 := hol_get ok.ho0 ok.ho1
      have t29 : L 13 = false → L 29 = false := fun h => hcl.no (i := 29) (j := 13) (by kernel_rfl) h
      have t31 : L 13 = false → L 31 = false := fun h => hcl.no (i := 31) (j := 29) (by kernel_rfl) (t29 h)
      rw [sDoc_eq]
      simp (maxSteps := 1000000) (disch := omega) only [go_sem, Nat.reduceLT, hL, opt_true, opt_false, optO_true, optO_false, cond_true, cond_false, d15, d14, u29, u31, hi3, hh3, encNet]
      refine hK x _ hok ?_
      rw [sDoc_eq]
      refine .le ?_ ?_
      · cases h13 : L 13 <;> cases h30 : L 30 <;> cases h31 : L 31 <;> simp_all [go_sem, upd]
      · simp
    refine invSteps_cons 17 (fun L x hL hdep hcl hok K hK => ?_) ?_
    · have u20 : L 20 = false := hcl.no (i := 20) (j := 17) (by kernel_rfl) hL
      have u21 : L 21 = false := hcl.no (i := 21) (j := 20) (by kernel_rfl) u20
      have u29 : L 29 = false := hcl.no (i := 29) (j := 21) (by kernel_rfl) u21
      have u31 : L 31 = false := hcl.no (i := 31) (j := 29) (by kernel_rfl) u29
      have ok := hok
      have b0 := ok.nu0
      have b1 := ok.nu1
      have b2 := ok.ki0
      have b3 := ok.ki1
      have b4 := ok.st0
      have b5 := ok.st1
      have b6 := ok.ro0
      have b7 := ok.ro1
      have b8 := ok.sa0
      have b9 := ok.sa1
      have b10 := ok.is0
      have b11 := ok.is1
      have b12 := ok.ho0
      have b13 := ok.ho1
      have b14 := ok.zl
      have hi3 := iss_get ok.is0 ok.is1
      have hh3 := hol_get ok.ho0 ok.ho1
      have t29 : L 13 = false → L 29 = false := fun h => hcl.no (i := 29) (j := 13) (by kernel_rfl) h
      have t31 : L 13 = false → L 31 = false := fun h => hcl.no (i := 31) (j := 29) (by kernel_rfl) (t29 h)
      rw [sDoc_eq]
      simp (maxSteps := 1000000) (disch := omega) only [go_sem, Nat.reduceLT, hL, opt_true, opt_false, optO_true, optO_false, cond_true, cond_false, u20, u21, u29, u31, hi3, hh3, encNet]
      refine hK x _ hok ?_
      refine SemLe.trans (SemLe.frz _ _ [5]) ?_
      simp (maxSteps := 1000000) only [go_sem, u20, u21, u29, u31]
      rw [sDoc_eq]
      refine .le ?_ ?_
      · cases h13 : L 13 <;> cases h30 : L 30 <;> cases h31 : L 31 <;> simp_all [go_sem, upd]
      · simp
    refine invSteps_cons 18 (fun L x hL hdep hcl hok K hK => ?_) ?_
    · have u19 : L 19 = false := hcl.no (i := 19) (j := 18) (by kernel_rfl) hL
      have u20 : L 20 = false := hcl.no (i := 20) (j := 19) (by kernel_rfl) u19
      have u21 : L 21 = false := hcl.no (i := 21) (j := 20) (by kernel_rfl) u20
      have u29 : L 29 = false := hcl.no (i := 29) (j := 21) (by kernel_rfl) u21
      have u31 : L 31 = false := hcl.no (i := 31) (j := 29) (by kernel_rfl) u29
      have ok := hok
      have b0 := ok.nu0
      have b1 := ok.nu1
      have b2 := ok.ki0
      have b3 := ok.ki1
      have b4 := ok.st0
      have b5 := ok.st1
      have b6 := ok.ro0
      have b7 := ok.ro1
      have b8 := ok.sa0
      have b9 := ok.sa1
      have b10 := ok.is0
      have b11 := ok.is1
      have b12 := ok.ho0
      have b13 := ok.ho1
      have b14 := ok.zl
      have hi3 := iss_get ok.is0 ok.is1
      have hh3 := hol_get ok.ho0 ok.ho1
      have t29 : L 13 = false → L 29 = false := fun h => hcl.no (i := 29) (j := 13) (by kernel_rfl) h
      have t31 : L 13 = false → L 31 = false := fun h => hcl.no (i := 31) (j := 29) (by kernel_rfl) (t29 h)
      rw [sDoc_eq]
      simp (maxSteps := 1000000) (disch := omega) only [go_sem, Nat.reduceLT, hL, opt_true, opt_false, optO_true, optO_false, cond_true, cond_false, u19, u20, u21, u29, u31, hi3, hh3, encNet]
      refine hK x _ hok ?_
      rw [sDoc_eq]
      refine .le ?_ ?_
      · cases h13 : L 13 <;> cases h30 : L 30 <;> cases h31 : L 31 <;> simp_all [go_sem, upd]
      · simp
    refine invSteps_cons 19 (fun L x hL hdep hcl hok K hK => ?_) ?_
    · have d18 : L 18 = true := hdep 18 (by kernel_rfl)
      have u20 : L 20 = false := hcl.no (i := 20) (j := 19) (by kernel_rfl) hL
      have u21 : L 21 = false := hcl.no (i := 21) (j := 20) (by kernel_rfl) u20
      have u29 : L 29 = false := hcl.no (i := 29) (j := 21) (by kernel_rfl) u21
      have u31 : L 31 = false := hcl.no (i := 31) (j := 29) (by kernel_rfl) u29
      have ok := hok
      have b0 := ok.nu0
      have b1 := ok.nu1
      have b2 := ok.ki0
      have b3 := ok.ki1
      have b4 := ok.st0
      have b5 := ok.st1
      have b6 := ok.ro0
      have b7 := ok.ro1
      have b8 := ok.sa0
      have b9 := ok.sa1
      have b10 := ok.is0
      have b11 := ok.is1
      have b12 := ok.ho0
      have b13 := ok.ho1
      have b14 := ok.zl
      have hi3 := iss_get ok.is0 ok.is1
      have hh3 := hol_get ok.ho0 ok.ho1
      have t29 : L 13 = false → L 29 = false := fun h => hcl.no (i := 29) (j := 13) (by kernel_rfl) h
      have t31 : L 13 = false → L 31 = false := fun h => hcl.no (i := 31) (j := 29) (by kernel_rfl) (t29 h)
      rw [sDoc_eq]
      simp (maxSteps := 1000000) (disch := omega) only [go_sem, Nat.reduceLT, hL, opt_true, opt_false, optO_true, optO_false, cond_true, cond_false, d18, u20, u21, u29, u31, hi3, hh3, encNet]
      refine CallA.mut [0] ?_ ?_ ?_ ?_ (nx x.d ok.hd 3 (by decide)) ?_
      · simp (disch := omega) only [go_sem, hi3, hh3, encNet]
      · simp (disch := omega) only [go_sem, hi3, hh3, encNet]
      · simp (disch := omega) only [go_sem, hi3, hh3, encNet]
      · simp (disch := omega) only [go_sem, hi3, hh3, encNet]
      rintro _ _ ⟨y, d2, hd2, hy0, hy1, rfl, rfl⟩
      simp (maxSteps := 1000000) (disch := omega) only [go_sem, Nat.reduceLT, hi3, hh3, encNet]
      refine hK (⟨d2, x.nu, x.ki, x.st, x.ro, x.z, x.sa, y, x.ho, x.fr, x.un⟩) _ ({ ok with hd := hd2, is0 := hy0, is1 := by simp only; omega }) ?_
      rw [sDoc_eq]
      refine .le ?_ ?_
      · cases h13 : L 13 <;> cases h30 : L 30 <;> cases h31 : L 31 <;> simp_all [go_sem, upd]
      · simp
    refine invSteps_cons 20 (fun L x hL hdep hcl hok K hK => ?_) ?_
    · have d17 : L 17 = true := hdep 17 (by kernel_rfl)
      have d19 : L 19 = true := hdep 19 (by kernel_rfl)
      have d18 : L 18 = true := hcl 19 18 (by kernel_rfl) d19
      have u21 : L 21 = false := hcl.no (i := 21) (j := 20) (by kernel_rfl) hL
      have u29 : L 29 = false := hcl.no (i := 29) (j := 21) (by kernel_rfl) u21
      have u31 : L 31 = false := hcl.no (i := 31) (j := 29) (by kernel_rfl) u29
      have ok := hok
      have b0 := ok.nu0
      have b1 := ok.nu1
      have b2 := ok.ki0
      have b3 := ok.ki1
      have b4 := ok.st0
      have b5 := ok.st1
      have b6 := ok.ro0
      have b7 := ok.ro1
      have b8 := ok.sa0
      have b9 := ok.sa1
      have b10 := ok.is0
      have b11 := ok.is1
      have b12 := ok.ho0
      have b13 := ok.ho1
      have b14 := ok.zl
      have hi3 := iss_get ok.is0 ok.is1
      have hh3 := hol_get ok.ho0 ok.ho1
      have t29 : L 13 = false → L 29 = false := fun h => hcl.no (i := 29) (j := 13) (by kernel_rfl) h
      have t31 : L 13 = false → L 31 = false := fun h => hcl.no (i := 31) (j := 29) (by kernel_rfl) (t29 h)
      rw [sDoc_eq]
      simp (maxSteps := 1000000) (disch := omega) only [go_sem, Nat.reduceLT, hL, opt_true, opt_false, optO_true, optO_false, cond_true, cond_false, d17, d19, d18, u21, u29, u31, hi3, hh3, encNet]
      refine hK x _ hok ?_
      rw [sDoc_eq]
      refine .le ?_ ?_
      · cases h13 : L 13 <;> cases h30 : L 30 <;> cases h31 : L 31 <;> simp_all [go_sem, upd]
      · simp
    refine invSteps_cons 21 (fun L x hL hdep hcl hok K hK => ?_) ?_
    · have d20 : L 20 = true := hdep 20 (by kernel_rfl)
      have d17 : L 17 = true := hcl 20 17 (by kernel_rfl) d20
      have d19 : L 19 = true := hcl 20 19 (by kernel_rfl) d20
      have d18 : L 18 = true := hcl 19 18 (by kernel_rfl) d19
      have u29 : L 29 = false := hcl.no (i := 29) (j := 21) (by kernel_rfl) hL
      have u31 : L 31 = false := hcl.no (i := 31) (j := 29) (by kernel_rfl) u29
      have ok := hok
      have b0 := ok.nu0
      have b1 := ok.nu1
      have b2 := ok.ki0
      have b3 := ok.ki1
      have b4 := ok.st0
      have b5 := ok.st1
      have b6 := ok.ro0
      have b7 := ok.ro1
      have b8 := ok.sa0
      have b9 := ok.sa1
      have b10 := ok.is0
      have b11 := ok.is1
      have b12 := ok.ho0
      have b13 := ok.ho1
      have b14 := ok.zl
      have hi3 := iss_get ok.is0 ok.is1
      have hh3 := hol_get ok.ho0 ok.ho1
      have t29 : L 13 = false → L 29 = false := fun h => hcl.no (i := 29) (j := 13) (by kernel_rfl) h
      have t31 : L 13 = false → L 31 = false := fun h => hcl.no (i := 31) (j := 29) (by kernel_rfl) (t29 h)
      rw [sDoc_eq]
      simp (maxSteps := 1000000) (disch := omega) only [go_sem, Nat.reduceLT, hL, opt_true, opt_false, optO_true, optO_false, cond_true, cond_false, d20, d17, d19, d18, u29, u31, hi3, hh3, encNet]
      refine hK x _ hok ?_
      rw [sDoc_eq]
      refine .le ?_ ?_
      · cases h13 : L 13 <;> cases h30 : L 30 <;> cases h31 : L 31 <;> simp_all [go_sem, upd]
      · simp
    refine invSteps_cons 22 (fun L x hL hdep hcl hok K hK => ?_) ?_
    · have u25 : L 25 = false := hcl.no (i := 25) (j := 22) (by kernel_rfl) hL
      have u26 : L 26 = false := hcl.no (i := 26) (j := 25) (by kernel_rfl) u25
      have u29 : L 29 = false := hcl.no (i := 29) (j := 26) (by kernel_rfl) u26
      have u31 : L 31 = false := hcl.no (i := 31) (j := 29) (by kernel_rfl) u29
      have ok := hok
      have b0 := ok.nu0
      have b1 := ok.nu1
      have b2 := ok.ki0
      have b3 := ok.ki1
      have b4 := ok.st0
      have b5 := ok.st1
      have b6 := ok.ro0
      have b7 := ok.ro1
      have b8 := ok.sa0
      have b9 := ok.sa1
      have b10 := ok.is0
      have b11 := ok.is1
      have b12 := ok.ho0
      have b13 := ok.ho1
      have b14 := ok.zl
      have hi3 := iss_get ok.is0 ok.is1
      have hh3 := hol_get ok.ho0 ok.ho1
      have t29 : L 13 = false → L 29 = false := fun h => hcl.no (i := 29) (j := 13) (by kernel_rfl) h
      have t31 : L 13 = false → L 31 = false := fun h => hcl.no (i := 31) (j := 29) (by kernel_rfl) (t29 h)
      rw [sDoc_eq]
      simp (maxSteps := 1000000) (disch := omega) only [go_sem, Nat.reduceLT, hL, opt_true, opt_false, optO_true, optO_false, cond_true, cond_false, u25, u26, u29, u31, hi3, hh3, encNet]
      refine hK x _ hok ?_
      refine SemLe.trans (SemLe.frz _ _ [5]) ?_
      simp (maxSteps := 1000000) only [go_sem, u25, u26, u29, u31]
      rw [sDoc_eq]
      refine .le ?_ ?_
      · cases h13 : L 13 <;> cases h30 : L 30 <;> cases h31 : L 31 <;> simp_all [go_sem, upd]
      · simp
    refine invSteps_cons 23 (fun L x hL hdep hcl hok K hK => ?_) ?_
    · have u24 : L 24 = false := hcl.no (i := 24) (j := 23) (by kernel_rfl) hL
      have u25 : L 25 = false := hcl.no (i := 25) (j := 24) (by kernel_rfl) u24
      have u26 : L 26 = false := hcl.no (i := 26) (j := 25) (by kernel_rfl) u25
      have u29 : L 29 = false := hcl.no (i := 29) (j := 26) (by kernel_rfl) u26
      have u31 : L 31 = false := hcl.no (i := 31) (j := 29) (by kernel_rfl) u29
      have ok := hok
      have b0 := ok.nu0
      have b1 := ok.nu1
      have b2 := ok.ki0
      have b3 := ok.ki1
      have b4 := ok.st0
      have b5 := ok.st1
      have b6 := ok.ro0
      have b7 := ok.ro1
      have b8 := ok.sa0
      have b9 := ok.sa1
      have b10 := ok.is0
      have b11 := ok.is1
      have b12 := ok.ho0
      have b13 := ok.ho1
      have b14 := ok.zl
      have hi3 := iss_get ok.is0 ok.is1
      have hh3 := hol_get ok.ho0 ok.ho1
      have t29 : L 13 = false → L 29 = false := fun h => hcl.no (i := 29) (j := 13) (by kernel_rfl) h
      have t31 : L 13 = false → L 31 = false := fun h => hcl.no (i := 31) (j := 29) (by kernel_rfl) (t29 h)
      rw [sDoc_eq]
      simp (maxSteps := 1000000) (disch := omega) only [go_sem, Nat.reduceLT, hL, opt_true, opt_false, optO_true, optO_false, cond_true, cond_false, u24, u25, u26, u29, u31, hi3, hh3, encNet]
      refine hK x _ hok ?_
      rw [sDoc_eq]
      refine .le ?_ ?_
      · cases h13 : L 13 <;> cases h30 : L 30 <;> cases h31 : L 31 <;> simp_all [go_sem, upd]
      · simp
    refine invSteps_cons 24 (fun L x hL hdep hcl hok K hK => ?_) ?_
    · have d23 : L 23 = true := hdep 23 (by kernel_rfl)
      have u25 : L 25 = false := hcl.no (i := 25) (j := 24) (by kernel_rfl) hL
      have u26 : L 26 = false := hcl.no (i := 26) (j := 25) (by kernel_rfl) u25
      have u29 : L 29 = false := hcl.no (i := 29) (j := 26) (by kernel_rfl) u26
      have u31 : L 31 = false := hcl.no (i := 31) (j := 29) (by kernel_rfl) u29
      have ok := hok
      have b0 := ok.nu0
      have b1 := ok.nu1
      have b2 := ok.ki0
      have b3 := ok.ki1
      have b4 := ok.st0
      have b5 := ok.st1
      have b6 := ok.ro0
      have b7 := ok.ro1
      have b8 := ok.sa0
      have b9 := ok.sa1
      have b10 := ok.is0
      have b11 := ok.is1
      have b12 := ok.ho0
      have b13 := ok.ho1
      have b14 := ok.zl
      have hi3 := iss_get ok.is0 ok.is1
      have hh3 := hol_get ok.ho0 ok.ho1
      have t29 : L 13 = false → L 29 = false := fun h => hcl.no (i := 29) (j := 13) (by kernel_rfl) h
      have t31 : L 13 = false → L 31 = false := fun h => hcl.no (i := 31) (j := 29) (by kernel_rfl) (t29 h)
      rw [sDoc_eq]
      simp (maxSteps := 1000000) (disch := omega) only [go_sem, Nat.reduceLT, hL, opt_true, opt_false, optO_true, optO_false, cond_true, cond_false, d23, u25, u26, u29, u31, hi3, hh3, encNet]
      refine CallA.mut [0] ?_ ?_ ?_ ?_ (nx x.d ok.hd 3 (by decide)) ?_
      · simp (disch := omega) only [go_sem, hi3, hh3, encNet]
      · simp (disch := omega) only [go_sem, hi3, hh3, encNet]
      · simp (disch := omega) only [go_sem, hi3, hh3, encNet]
      · simp (disch := omega) only [go_sem, hi3, hh3, encNet]
      rintro _ _ ⟨y, d2, hd2, hy0, hy1, rfl, rfl⟩
      simp (maxSteps := 1000000) (disch := omega) only [go_sem, Nat.reduceLT, hi3, hh3, encNet]
      refine hK (⟨d2, x.nu, x.ki, x.st, x.ro, x.z, x.sa, x.is, y, x.fr, x.un⟩) _ ({ ok with hd := hd2, ho0 := hy0, ho1 := by simp only; omega }) ?_
      rw [sDoc_eq]
      refine .le ?_ ?_
      · cases h13 : L 13 <;> cases h30 : L 30 <;> cases h31 : L 31 <;> simp_all [go_sem, upd]
      · simp
    refine invSteps_cons 25 (fun L x hL hdep hcl hok K hK => ?_) ?_
    · have d22 : L 22 = true := hdep 22 (by kernel_rfl)
      have d24 : L 24 = true := hdep 24 (by kernel_rfl)
      have d23 : L 23 = true := hcl 24 23 (by kernel_rfl) d24
      have u26 : L 26 = false := hcl.no (i := 26) (j := 25) (by kernel_rfl) hL
      have u29 : L 29 = false := hcl.no (i := 29) (j := 26) (by kernel_rfl) u26
      have u31 : L 31 = false := hcl.no (i := 31) (j := 29) (by kernel_rfl) u29
      have ok := hok
      have b0 := ok.nu0
      have b1 := ok.nu1
      have b2 := ok.ki0
      have b3 := ok.ki1
      have b4 := ok.st0
      have b5 := ok.st1
      have b6 := ok.ro0
      have b7 := ok.ro1
      have b8 := ok.sa0
      have b9 := ok.sa1
      have b10 := ok.is0
      have b11 := ok.is1
      have b12 := ok.ho0
      have b13 := ok.ho1
      have b14 := ok.zl
      have hi3 := iss_get ok.is0 ok.is1
      have hh3 := hol_get ok.ho0 ok.ho1
      have t29 : L 13 = false → L 29 = false := fun h => hcl.no (i := 29) (j := 13) (by kernel_rfl) h
      have t31 : L 13 = false → L 31 = false := fun h => hcl.no (i := 31) (j := 29) (by kernel_rfl) (t29 h)
      rw [sDoc_eq]
      simp (maxSteps := 1000000) (disch := omega) only [go_sem, Nat.reduceLT, hL, opt_true, opt_false, optO_true, optO_false, cond_true, cond_false, d22, d24, d23, u26, u29, u31, hi3, hh3, encNet]
      refine hK x _ hok ?_
      rw [sDoc_eq]
      refine .le ?_ ?_
      · cases h13 : L 13 <;> cases h30 : L 30 <;> cases h31 : L 31 <;> simp_all [go_sem, upd]
      · simp
    refine invSteps_cons 26 (fun L x hL hdep hcl hok K hK => ?_) ?_
    · have d25 : L 25 = true := hdep 25 (by kernel_rfl)
      have d22 : L 22 = true := hcl 25 22 (by kernel_rfl) d25
      have d24 : L 24 = true := hcl 25 24 (by kernel_rfl) d25
      have d23 : L 23 = true := hcl 24 23 (by kernel_rfl) d24
      have u29 : L 29 = false := hcl.no (i := 29) (j := 26) (by kernel_rfl) hL
      have u31 : L 31 = false := hcl.no (i := 31) (j := 29) (by kernel_rfl) u29
      have ok := hok
      have b0 := ok.nu0
      have b1 := ok.nu1
      have b2 := ok.ki0
      have b3 := ok.ki1
      have b4 := ok.st0
      have b5 := ok.st1
      have b6 := ok.ro0
      have b7 := ok.ro1
      have b8 := ok.sa0
      have b9 := ok.sa1
      have b10 := ok.is0
      have b11 := ok.is1
      have b12 := ok.ho0
      have b13 := ok.ho1
      have b14 := ok.zl
      have hi3 := iss_get ok.is0 ok.is1
      have hh3 := hol_get ok.ho0 ok.ho1
      have t29 : L 13 = false → L 29 = false := fun h => hcl.no (i := 29) (j := 13) (by kernel_rfl) h
      have t31 : L 13 = false → L 31 = false := fun h => hcl.no (i := 31) (j := 29) (by kernel_rfl) (t29 h)
      rw [sDoc_eq]
      simp (maxSteps := 1000000) (disch := omega) only [go_sem, Nat.reduceLT, hL, opt_true, opt_false, optO_true, optO_false, cond_true, cond_false, d25, d22, d24, d23, u29, u31, hi3, hh3, encNet]
      refine hK x _ hok ?_
      rw [sDoc_eq]
      refine .le ?_ ?_
      · cases h13 : L 13 <;> cases h30 : L 30 <;> cases h31 : L 31 <;> simp_all [go_sem, upd]
      · simp
    refine invSteps_cons 27 (fun L x hL hdep hcl hok K hK => ?_) ?_
    · have u28 : L 28 = false := hcl.no (i := 28) (j := 27) (by kernel_rfl) hL
      have u29 : L 29 = false := hcl.no (i := 29) (j := 28) (by kernel_rfl) u28
      have u31 : L 31 = false := hcl.no (i := 31) (j := 29) (by kernel_rfl) u29
      have ok := hok
      have b0 := ok.nu0
      have b1 := ok.nu1
      have b2 := ok.ki0
      have b3 := ok.ki1
      have b4 := ok.st0
      have b5 := ok.st1
      have b6 := ok.ro0
      have b7 := ok.ro1
      have b8 := ok.sa0
      have b9 := ok.sa1
      have b10 := ok.is0
      have b11 := ok.is1
      have b12 := ok.ho0
      have b13 := ok.ho1
      have b14 := ok.zl
      have hi3 := iss_get ok.is0 ok.is1
      have hh3 := hol_get ok.ho0 ok.ho1
      have t29 : L 13 = false → L 29 = false := fun h => hcl.no (i := 29) (j := 13) (by kernel_rfl) h
      have t31 : L 13 = false → L 31 = false := fun h => hcl.no (i := 31) (j := 29) (by kernel_rfl) (t29 h)
      rw [sDoc_eq]
      simp (maxSteps := 1000000) (disch := omega) only [go_sem, Nat.reduceLT, hL, opt_true, opt_false, optO_true, optO_false, cond_true, cond_false, u28, u29, u31, hi3, hh3, encNet]
      refine hK x _ hok ?_
      rw [sDoc_eq]
      refine .le ?_ ?_
      · cases h13 : L 13 <;> cases h30 : L 30 <;> cases h31 : L 31 <;> simp_all [go_sem, upd]
      · simp
    refine invSteps_cons 28 (fun L x hL hdep hcl hok K hK => ?_) ?_
    · have d27 : L 27 = true := hdep 27 (by kernel_rfl)
      have u29 : L 29 = false := hcl.no (i := 29) (j := 28) (by kernel_rfl) hL
      have u31 : L 31 = false := hcl.no (i := 31) (j := 29) (by kernel_rfl) u29
      have ok := hok
      have b0 := ok.nu0
      have b1 := ok.nu1
      have b2 := ok.ki0
      have b3 := ok.ki1
      have b4 := ok.st0
      have b5 := ok.st1
      have b6 := ok.ro0
      have b7 := ok.ro1
      have b8 := ok.sa0
      have b9 := ok.sa1
      have b10 := ok.is0
      have b11 := ok.is1
      have b12 := ok.ho0
      have b13 := ok.ho1
      have b14 := ok.zl
      have hi3 := iss_get ok.is0 ok.is1
      have hh3 := hol_get ok.ho0 ok.ho1
      have t29 : L 13 = false → L 29 = false := fun h => hcl.no (i := 29) (j := 13) (by kernel_rfl) h
      have t31 : L 13 = false → L 31 = false := fun h => hcl.no (i := 31) (j := 29) (by kernel_rfl) (t29 h)
      rw [sDoc_eq]
      simp (maxSteps := 1000000) (disch := omega) only [go_sem, Nat.reduceLT, hL, opt_true, opt_false, optO_true, optO_false, cond_true, cond_false, d27, u29, u31, hi3, hh3, encNet]
      refine CallA.mut [0] ?_ ?_ ?_ ?_ (spanD x.d ok.hd 100 (by decide) (by decide)) ?_
      · simp (disch := omega) only [go_sem, hi3, hh3, encNet]
      · simp (disch := omega) only [go_sem, hi3, hh3, encNet]
      · simp (disch := omega) only [go_sem, hi3, hh3, encNet]
      · simp (disch := omega) only [go_sem, hi3, hh3, encNet]
      rintro _ _ ⟨y, y2, d2, hd2, rfl, rfl⟩
      simp (maxSteps := 1000000) (disch := omega) only [go_sem, Nat.reduceLT, hi3, hh3, encNet]
      refine hK (⟨d2, x.nu, x.ki, x.st, x.ro, x.z, x.sa, x.is, x.ho, y, y2⟩) _ ({ ok with hd := hd2 }) ?_
      rw [sDoc_eq]
      refine .le ?_ ?_
      · cases h13 : L 13 <;> cases h30 : L 30 <;> cases h31 : L 31 <;> simp_all [go_sem, upd]
      · simp
    refine invSteps_cons 29 (fun L x hL hdep hcl hok K hK => ?_) ?_
    · have d2 : L 2 = true := hdep 2 (by kernel_rfl)
      have d5 : L 5 = true := hdep 5 (by kernel_rfl)
      have d8 : L 8 = true := hdep 8 (by kernel_rfl)
      have d10 : L 10 = true := hdep 10 (by kernel_rfl)
      have d13 : L 13 = true := hdep 13 (by kernel_rfl)
      have d16 : L 16 = true := hdep 16 (by kernel_rfl)
      have d21 : L 21 = true := hdep 21 (by kernel_rfl)
      have d26 : L 26 = true := hdep 26 (by kernel_rfl)
      have d28 : L 28 = true := hdep 28 (by kernel_rfl)
      have d27 : L 27 = true := hcl 28 27 (by kernel_rfl) d28
      have d25 : L 25 = true := hcl 26 25 (by kernel_rfl) d26
      have d22 : L 22 = true := hcl 25 22 (by kernel_rfl) d25
      have d24 : L 24 = true := hcl 25 24 (by kernel_rfl) d25
      have d23 : L 23 = true := hcl 24 23 (by kernel_rfl) d24
      have d20 : L 20 = true := hcl 21 20 (by kernel_rfl) d21
      have d17 : L 17 = true := hcl 20 17 (by kernel_rfl) d20
      have d19 : L 19 = true := hcl 20 19 (by kernel_rfl) d20
      have d18 : L 18 = true := hcl 19 18 (by kernel_rfl) d19
      have d15 : L 15 = true := hcl 16 15 (by kernel_rfl) d16
      have d14 : L 14 = true := hcl 15 14 (by kernel_rfl) d15
      have d11 : L 11 = true := hcl 13 11 (by kernel_rfl) d13
      have d12 : L 12 = true := hcl 13 12 (by kernel_rfl) d13
      have d9 : L 9 = true := hcl 10 9 (by kernel_rfl) d10
      have d7 : L 7 = true := hcl 8 7 (by kernel_rfl) d8
      have d6 : L 6 = true := hcl 7 6 (by kernel_rfl) d7
      have d4 : L 4 = true := hcl 5 4 (by kernel_rfl) d5
      have d3 : L 3 = true := hcl 4 3 (by kernel_rfl) d4
      have d1 : L 1 = true := hcl 2 1 (by kernel_rfl) d2
      have d0 : L 0 = true := hcl 1 0 (by kernel_rfl) d1
      have u31 : L 31 = false := hcl.no (i := 31) (j := 29) (by kernel_rfl) hL
      have ok := hok
      have b0 := ok.nu0
      have b1 := ok.nu1
      have b2 := ok.ki0
      have b3 := ok.ki1
      have b4 := ok.st0
      have b5 := ok.st1
      have b6 := ok.ro0
      have b7 := ok.ro1
      have b8 := ok.sa0
      have b9 := ok.sa1
      have b10 := ok.is0
      have b11 := ok.is1
      have b12 := ok.ho0
      have b13 := ok.ho1
      have b14 := ok.zl
      have hi3 := iss_get ok.is0 ok.is1
      have hh3 := hol_get ok.ho0 ok.ho1
      have t29 : L 13 = false → L 29 = false := fun h => hcl.no (i := 29) (j := 13) (by kernel_rfl) h
      have t31 : L 13 = false → L 31 = false := fun h => hcl.no (i := 31) (j := 29) (by kernel_rfl) (t29 h)
      rw [sDoc_eq]
      simp (maxSteps := 1000000) (disch := omega) only [go_sem, Nat.reduceLT, hL, opt_true, opt_false, optO_true, optO_false, cond_true, cond_false, d2, d5, d8, d10, d13, d16, d21, d26, d28, d27, d25, d22, d24, d23, d20, d17, d19, d18, d15, d14, d11, d12, d9, d7, d6, d4, d3, d1, d0, u31, hi3, hh3, encNet]
      refine hK x _ hok ?_
      rw [sDoc_eq]
      refine .le ?_ ?_
      · cases h13 : L 13 <;> cases h30 : L 30 <;> cases h31 : L 31 <;> simp_all [go_sem, upd]
      · simp
    refine invSteps_cons 30 (fun L x hL hdep hcl hok K hK => ?_) ?_
    · have u31 : L 31 = false := hcl.no (i := 31) (j := 30) (by kernel_rfl) hL
      have ok := hok
      have b0 := ok.nu0
      have b1 := ok.nu1
      have b2 := ok.ki0
      have b3 := ok.ki1
      have b4 := ok.st0
      have b5 := ok.st1
      have b6 := ok.ro0
      have b7 := ok.ro1
      have b8 := ok.sa0
      have b9 := ok.sa1
      have b10 := ok.is0
      have b11 := ok.is1
      have b12 := ok.ho0
      have b13 := ok.ho1
      have b14 := ok.zl
      have hi3 := iss_get ok.is0 ok.is1
      have hh3 := hol_get ok.ho0 ok.ho1
      have t29 : L 13 = false → L 29 = false := fun h => hcl.no (i := 29) (j := 13) (by kernel_rfl) h
      have t31 : L 13 = false → L 31 = false := fun h => hcl.no (i := 31) (j := 29) (by kernel_rfl) (t29 h)
      rw [sDoc_eq]
      simp (maxSteps := 1000000) (disch := omega) only [go_sem, Nat.reduceLT, hL, opt_true, opt_false, optO_true, optO_false, cond_true, cond_false, u31, hi3, hh3, encNet]
      refine hK x _ hok ?_
      refine SemLe.trans (SemLe.reloc (i := 4) (j := 5) ?_ (by decide) ?_ ?_ (by decide) (by decide)) ?_
      · simp [go_sem, hL, optO]
      · simp
      · simp
      simp (maxSteps := 1000000) only [go_sem, St.reloc, u31]
      rw [sDoc_eq]
      refine .le ?_ ?_
      · cases h13 : L 13 <;> cases h30 : L 30 <;> cases h31 : L 31 <;> simp_all [go_sem, upd]
      · simp
    refine invSteps_cons 31 (fun L x hL hdep hcl hok K hK => ?_) ?_
    · have d29 : L 29 = true := hdep 29 (by kernel_rfl)
      have d30 : L 30 = true := hdep 30 (by kernel_rfl)
      have d2 : L 2 = true := hcl 29 2 (by kernel_rfl) d29
      have d5 : L 5 = true := hcl 29 5 (by kernel_rfl) d29
      have d8 : L 8 = true := hcl 29 8 (by kernel_rfl) d29
      have d10 : L 10 = true := hcl 29 10 (by kernel_rfl) d29
      have d13 : L 13 = true := hcl 29 13 (by kernel_rfl) d29
      have d16 : L 16 = true := hcl 29 16 (by kernel_rfl) d29
      have d21 : L 21 = true := hcl 29 21 (by kernel_rfl) d29
      have d26 : L 26 = true := hcl 29 26 (by kernel_rfl) d29
      have d28 : L 28 = true := hcl 29 28 (by kernel_rfl) d29
      have d27 : L 27 = true := hcl 28 27 (by kernel_rfl) d28
      have d25 : L 25 = true := hcl 26 25 (by kernel_rfl) d26
      have d22 : L 22 = true := hcl 25 22 (by kernel_rfl) d25
      have d24 : L 24 = true := hcl 25 24 (by kernel_rfl) d25
      have d23 : L 23 = true := hcl 24 23 (by kernel_rfl) d24
      have d20 : L 20 = true := hcl 21 20 (by kernel_rfl) d21
      have d17 : L 17 = true := hcl 20 17 (by kernel_rfl) d20
      have d19 : L 19 = true := hcl 20 19 (by kernel_rfl) d20
      have d18 : L 18 = true := hcl 19 18 (by kernel_rfl) d19
      have d15 : L 15 = true := hcl 16 15 (by kernel_rfl) d16
      have d14 : L 14 = true := hcl 15 14 (by kernel_rfl) d15
      have d11 : L 11 = true := hcl 13 11 (by kernel_rfl) d13
      have d12 : L 12 = true := hcl 13 12 (by kernel_rfl) d13
      have d9 : L 9 = true := hcl 10 9 (by kernel_rfl) d10
      have d7 : L 7 = true := hcl 8 7 (by kernel_rfl) d8
      have d6 : L 6 = true := hcl 7 6 (by kernel_rfl) d7
      have d4 : L 4 = true := hcl 5 4 (by kernel_rfl) d5
      have d3 : L 3 = true := hcl 4 3 (by kernel_rfl) d4
      have d1 : L 1 = true := hcl 2 1 (by kernel_rfl) d2
      have d0 : L 0 = true := hcl 1 0 (by kernel_rfl) d1
      have ok := hok
      have b0 := ok.nu0
      have b1 := ok.nu1
      have b2 := ok.ki0
      have b3 := ok.ki1
      have b4 := ok.st0
      have b5 := ok.st1
      have b6 := ok.ro0
      have b7 := ok.ro1
      have b8 := ok.sa0
      have b9 := ok.sa1
      have b10 := ok.is0
      have b11 := ok.is1
      have b12 := ok.ho0
      have b13 := ok.ho1
      have b14 := ok.zl
      have hi3 := iss_get ok.is0 ok.is1
      have hh3 := hol_get ok.ho0 ok.ho1
      have t29 : L 13 = false → L 29 = false := fun h => hcl.no (i := 29) (j := 13) (by kernel_rfl) h
      have t31 : L 13 = false → L 31 = false := fun h => hcl.no (i := 31) (j := 29) (by kernel_rfl) (t29 h)
      rw [sDoc_eq]
      simp (maxSteps := 1000000) (disch := omega) only [go_sem, Nat.reduceLT, hL, opt_true, opt_false, optO_true, optO_false, cond_true, cond_false, d29, d30, d2, d5, d8, d10, d13, d16, d21, d26, d28, d27, d25, d22, d24, d23, d20, d17, d19, d18, d15, d14, d11, d12, d9, d7, d6, d4, d3, d1, d0, hi3, hh3, encNet]
      refine hK x _ hok ?_
      rw [sDoc_eq]
      refine .le ?_ ?_
      · cases h13 : L 13 <;> cases h30 : L 30 <;> cases h31 : L 31 <;> simp_all [go_sem, upd]
      · simp
    exact trivial
  clear hd d
  rintro ⟨d, nu, ki, st, ro, z, sa, is, ho, fr, un⟩ ok
  have hd := ok.hd
  simp only at hd
  rw [sDoc_eq]
  simp only [go_sem, decide_true, Nat.reduceLT, opt_true, optO_true, cond_true]
  refine J_top (upto 7 37) ?_
  simp only [go_sem]
  refine J_run 200 ?_
  iterate 8 (all_goals (try (first
    | (simp (maxSteps := 1000000) (disch := omega) only [go_sem, Nat.reduceLT])
    | ((with_reducible refine CallA.mut [0] ?_ ?_ ?_ ?_ (cl d hd) ?_); (· simp (disch := omega) only [go_sem, Nat.reduceLT]); (· simp (disch := omega) only [go_sem, Nat.reduceLT]); (· simp (disch := omega) only [go_sem, Nat.reduceLT]); (· simp (disch := omega) only [go_sem, Nat.reduceLT]); rintro _ _ ⟨lk, d2, hd2, hlk, hky, rfl, rfl⟩)
    | ((with_reducible refine CallA.mut [0] ?_ ?_ ?_ ?_ (x3 _ hd2) ?_); (· simp (disch := omega) only [go_sem, Nat.reduceLT]); (· simp (disch := omega) only [go_sem, Nat.reduceLT]); (· simp (disch := omega) only [go_sem, Nat.reduceLT]); (· simp (disch := omega) only [go_sem, Nat.reduceLT]); rintro _ _ ⟨y3, d3, hd3, hk0, hk1, rfl, rfl⟩)
    | ((with_reducible first | refine gDt ?_ ?_ | refine gDf ?_ ?_ | refine gNt ?_ ?_ | refine gNf ?_ ?_ | refine cD ?_ ?_ | refine cN ?_ ?_ | refine cB ?_ ?_ | refine gB ?_ ?_) <;> intro h)
    | with_reducible first | refine And.intro ?_ ?_ | refine J_seq ?_ | refine J_block ?_ | refine J_inBlock ?_ | refine rC ?_ | refine rR ?_ | refine rE ?_ | refine rG ?_)))
  obtain ⟨k3, rfl⟩ := Int.eq_ofNat_of_zero_le hk0
  have hzl := ok.zl
  simp only at hzl
  refine J_sem (SemLe.nilBox 4 11 1 (cs := _) rfl rfl) ?_
  simp only [go_sem, St.nilBox]
  refine J_for (upto 43 57) (fun x : Nat × List Int × Dk => [(6, .raw (.int .i64 x.1))]) (fun x => [.box (encDk x.2.2), .box [.lst 3 (n.nodes.map encNd), .lst 5 (n.devs.map encDv)], .box [.raw (.int .i64 0), .raw (.int .i64 0), .raw (.int .i64 0), .raw (.int .i64 0), .raw (.slice none 0 0), .raw (.int .i64 0), .raw (.slice none 0 0), .raw (.string ⟨#[]⟩), .raw (.string ⟨#[]⟩), .raw (.int .i64 0), .raw (.int .i64 0), .raw (.slice none 0 0)], .arr 1 (z.map encN), .box [.raw (.int .i64 (1 + nu)), .raw (.int .i64 (1 + ki)), .raw (.int .i64 (1 + st)), .raw (.int .i64 ro), .own 3 1 0 z.length, .raw (.int .i64 (1 + sa)), .lst 3 (lk.map encLk), .raw (.string (issS is)), .raw (.string (holS ho)), .raw (.int .i64 fr), .raw (.int .i64 un), .own 5 1 0 x.2.1.length], .arr 1 (x.2.1.map encN)]) (fun x => x.1 + x.2.1.length ≤ 3 ∧ x.2.2.ok) (fun x => x.1) (k3, [], d3) ⟨by simp; omega, hd3⟩ (.le (by simp [go_sem]) (by simp)) ?_
  rintro ⟨k, c, d4⟩ ⟨hkc, hd4⟩
  simp only at hkc hd4 ⊢
  by_cases hk : 0 < k
  · have ek : ((k - 1 : Nat) : Int) = (k : Int) - 1 := by omega
    refine J_run 200 ?_
    iterate 16 (all_goals (try (first
      | ((with_reducible refine J_draw (id := 6) 200 [6] plan18_6_6 (by kernel_rfl) (by kernel_rfl) ?_); delta plan18_6_6)
      | (simp (maxSteps := 1000000) (disch := omega) only [go_sem, Nat.reduceLT])
      | ((with_reducible refine CallA.mut [0] ?_ ?_ ?_ ?_ (x9 _ hd4) ?_); (· simp (disch := omega) only [go_sem, Nat.reduceLT]); (· simp (disch := omega) only [go_sem, Nat.reduceLT]); (· simp (disch := omega) only [go_sem, Nat.reduceLT]); (· simp (disch := omega) only [go_sem, Nat.reduceLT]); rintro _ _ ⟨y9, d5, hd5, h90, h91, rfl, rfl⟩)
      | ((with_reducible first | refine gDt ?_ ?_ | refine gDf ?_ ?_ | refine gNt ?_ ?_ | refine gNf ?_ ?_ | refine cD ?_ ?_ | refine cN ?_ ?_ | refine cB ?_ ?_ | refine gB ?_ ?_ | refine stepGuard_dect ?_ ?_ | refine stepGuard_decf ?_ ?_ | refine stepGuard_ndect ?_ ?_ | refine stepGuard_ndecf ?_ ?_ | refine stepGuard_by ?_ ?_) <;> intro h)
      | with_reducible first | refine And.intro ?_ ?_ | refine J_seq ?_ | refine J_block ?_ | refine J_inBlock ?_ | refine rC ?_ | refine rR ?_ | refine rE ?_ | refine rG ?_)))
    all_goals
      refine .mk (k - 1, c ++ [10 * (4 - (k : Int)) + y9], d5) ⟨by simp only [List.length_append, List.length_cons, List.length_nil]; omega, hd5⟩ (by simp only; omega) ?_ ?_
      · simp [go_sem, encN, ek]
      · simp
  have tz : (z.map encN).take z.length = z.map encN := take_lm
  have tc : (c.map encN).take c.length = c.map encN := take_lm
  have tz1 : ∀ v, (z.map encN ++ [v]).take (z.length + 1) = z.map encN ++ [v] := fun v => List.take_of_length_le (by simp)
  have tc1 : ∀ v, (c.map encN ++ [v]).take (c.length + 1) = c.map encN ++ [v] := fun v => List.take_of_length_le (by simp)
  have hz40 : z.length ≤ 40 := by omega
  have hz41 : ∀ v : Int, (z ++ [v]).length ≤ 40 := fun v => by rw [List.length_append]; simp; omega
  have hc8 : c.length ≤ 8 := by omega
  have hc9 : ∀ v : Int, (c ++ [v]).length ≤ 8 := fun v => by rw [List.length_append]; simp; omega
  refine J_run 200 ?_
  iterate 30 (all_goals (try (first
    | ((with_reducible refine J_draw (id := 13) 200 [3] plan18_13_3 (by kernel_rfl) (by kernel_rfl) ?_); delta plan18_13_3)
    | (simp (maxSteps := 1000000) (disch := omega) only [go_sem, Nat.reduceLT, pick2])
    | ((with_reducible refine CallA.mut [0] ?_ ?_ ?_ ?_ (x20 _ hd4) ?_); (· simp (disch := omega) only [go_sem, Nat.reduceLT, pick2]); (· simp (disch := omega) only [go_sem, Nat.reduceLT, pick2]); (· simp (disch := omega) only [go_sem, Nat.reduceLT, pick2]); (· simp (disch := omega) only [go_sem, Nat.reduceLT, pick2]); rintro _ _ ⟨y20, d5, hd5, h90, h91, rfl, rfl⟩)
    | ((with_reducible refine CallA.mut [0] ?_ ?_ ?_ ?_ (x2 _ (by assumption)) ?_); (· simp (disch := omega) only [go_sem, Nat.reduceLT, pick2]); (· simp (disch := omega) only [go_sem, Nat.reduceLT, pick2]); (· simp (disch := omega) only [go_sem, Nat.reduceLT, pick2]); (· simp (disch := omega) only [go_sem, Nat.reduceLT, pick2]); rintro _ _ ⟨y2, d6, hd6, h20, h21, rfl, rfl⟩)
    | ((with_reducible refine CallA.mut [0] ?_ ?_ ?_ ?_ (x5 _ (by assumption)) ?_); (· simp (disch := omega) only [go_sem, Nat.reduceLT, pick2]); (· simp (disch := omega) only [go_sem, Nat.reduceLT, pick2]); (· simp (disch := omega) only [go_sem, Nat.reduceLT, pick2]); (· simp (disch := omega) only [go_sem, Nat.reduceLT, pick2]); rintro _ _ ⟨y5, d6, hd6, h50, h51, rfl, rfl⟩)
    | ((with_reducible refine CallA.mut [0] ?_ ?_ ?_ ?_ (x8 _ (by assumption)) ?_); (· simp (disch := omega) only [go_sem, Nat.reduceLT, pick2]); (· simp (disch := omega) only [go_sem, Nat.reduceLT, pick2]); (· simp (disch := omega) only [go_sem, Nat.reduceLT, pick2]); (· simp (disch := omega) only [go_sem, Nat.reduceLT, pick2]); rintro _ _ ⟨y8, d7, hd7, h80, h81, rfl, rfl⟩)
    | ((with_reducible refine CallA.mut [0] ?_ ?_ ?_ ?_ (x6 _ (by assumption)) ?_); (· simp (disch := omega) only [go_sem, Nat.reduceLT, pick2]); (· simp (disch := omega) only [go_sem, Nat.reduceLT, pick2]); (· simp (disch := omega) only [go_sem, Nat.reduceLT, pick2]); (· simp (disch := omega) only [go_sem, Nat.reduceLT, pick2]); rintro _ _ ⟨y6, d6, hd6, h60, h61, rfl, rfl⟩)
    | ((with_reducible first | refine gDt ?_ ?_ | refine gDf ?_ ?_ | refine gNt ?_ ?_ | refine gNf ?_ ?_ | refine cD ?_ ?_ | refine cN ?_ ?_ | refine cB ?_ ?_ | refine gB ?_ ?_ | refine stepGuard_dect ?_ ?_ | refine stepGuard_decf ?_ ?_ | refine stepGuard_ndect ?_ ?_ | refine stepGuard_ndecf ?_ ?_ | refine stepGuard_by ?_ ?_) <;> intro h)
    | with_reducible first | refine And.intro ?_ ?_ | refine J_seq ?_ | refine J_block ?_ | refine J_inBlock ?_ | refine rC ?_ | refine rR ?_ | refine rE ?_ | refine rG ?_)))
  all_goals
    refine .frz [3, 5] (.now ?_)
    simp only [go_sem, tz, tc, tz1, tc1]
  all_goals first
    | exact docEnd z c (by assumption) hlk hky rfl rfl hz40 hc8 (Nat.le_of_eq issS_size) (Nat.le_of_eq holS_size)
    | exact docEnd z c (by assumption) hlk hky rfl rfl hz40 hc8 (Nat.le_of_eq issS_size) (Nat.le_of_eq issS_size)
    | exact docEnd z c (by assumption) hlk hky rfl rfl hz40 hc8 (Nat.zero_le _) (Nat.le_of_eq holS_size)
    | exact docEnd (z ++ [_]) c (by assumption) hlk hky mapS rfl (hz41 _) hc8 (Nat.le_of_eq issS_size) (Nat.le_of_eq holS_size)
    | exact docEnd z (c ++ [_]) (by assumption) hlk hky rfl mapS hz40 (hc9 _) (Nat.le_of_eq issS_size) (Nat.le_of_eq holS_size)
    | trace_state
end Go.Proofs.YtfkiomkfoabnhaaDoor.Abs
