/- Why a document may not be issued. -/
import Derived.Test.YtmfgaefefgnhbaaGreatDoorQK
namespace Go.Proofs.YtmfgaefefgnhbaaGreatDoor.Abs
set_option linter.unusedSimpArgs false
set_option linter.unusedVariables false
set_option maxRecDepth 100000
open Go Go.RowKit

theorem reasE_off {n : Net} {r : List Pers} {o : Off} {d : Doc} (h : offChk n o ≠ 0) : reasR n r o d = ([], offChk n o) := by
  have e : reasE n r o d = offChk n o := if_pos h
  unfold reasR
  rw [e, if_pos h]
theorem reasE_reg {n : Net} {r : List Pers} {o : Off} {d : Doc} (h0 : offChk n o = 0) (h : regChk r ≠ 0) : reasR n r o d = ([], regChk r) := by
  have e : reasE n r o d = regChk r := by unfold reasE; rw [if_neg (by simp [h0]), if_pos h]
  unfold reasR
  rw [e, if_pos h]
theorem reasE_doc {n : Net} {r : List Pers} {o : Off} {d : Doc} (h0 : offChk n o = 0) (h1 : regChk r = 0) (h : docChk n d ≠ 0) : reasR n r o d = ([], docChk n d) := by
  have e : reasE n r o d = docChk n d := by unfold reasE; rw [if_neg (by simp [h0]), if_neg (by simp [h1])]
  unfold reasR
  rw [e, if_pos h]
theorem reasE_ok {n : Net} {r : List Pers} {o : Off} {d : Doc} (h0 : offChk n o = 0) (h1 : regChk r = 0) (h : docChk n d = 0) : reasR n r o d = (reasL n r o d, 0) := by
  have e : reasE n r o d = docChk n d := by unfold reasE; rw [if_neg (by simp [h0]), if_neg (by simp [h1])]
  unfold reasR
  rw [e, if_neg (by simp [h])]
/-- The first reasons. -/
noncomputable def reasTo (n : Net) (r : List Pers) (o : Off) (d : Doc) (i : Nat) : List Int := ((List.range i).filter fun k => noB n r o d (k + 1)).map fun k : Nat => (k : Int) + 1
theorem reasTo_next {n : Net} {r : List Pers} {o : Off} {d : Doc} {i : Nat} : reasTo n r o d (i + 1) = reasTo n r o d i ++ (if noB n r o d (i + 1) = true then [(i : Int) + 1] else []) := by
  unfold reasTo
  rw [List.range_succ, List.filter_append, List.map_append]
  congr 1
  simp only [List.filter_cons, List.filter_nil]
  split <;> rfl
theorem reasTo_len {n : Net} {r : List Pers} {o : Off} {d : Doc} {i : Nat} : (reasTo n r o d i).length ≤ i := by
  unfold reasTo
  rw [List.length_map]
  exact Nat.le_trans (List.length_filter_le _ _) (by rw [List.length_range]; omega)
theorem docChk_locks {n : Net} {d : Doc} (h : docChk n d = 0) : lockChk n d.locks = 0 := (docChk_zero h).2.2.2.2.1
theorem docChk_certs {n : Net} {d : Doc} (h : docChk n d = 0) : d.certs.length ≤ 16 := by
  have h1 := (docChk_zero h).2.2.2.2.2.2
  unfold certChk at h1
  split at h1
  · cases h1
  · omega
theorem docChk_zone {n : Net} {d : Doc} (h : docChk n d = 0) : zoneChk n d.zone = 0 := (docChk_zero h).2.2.1
theorem offChk_comp {n : Net} {o : Off} (h : offChk n o = 0) : 0 ≤ o.comp ∧ o.comp ≤ 7 := by
  unfold offChk at h
  split at h
  · omega
  · split at h
    · cases h
    · omega
theorem ownE_ok {n : Net} {o : Off} {l : List Lk} (h : offChk n o = 0) (hl : lockChk n l = 0) : ownR n o.comp l = (ownL n o.comp l, 0) := by
  have hc := offChk_comp h
  have e : ownE n o.comp l = 0 := by unfold ownE; rw [if_neg (by simp [hl]), if_neg (by omega)]
  unfold ownR
  rw [e]
  rfl
-- ROWS
def reaClo (n : Net) (r : List Pers) (o : Off) (d : Doc) : List (List AV) :=
  [[.raw (.int .i64 1), .clo (.func 19) [] [.cptr (encReg r), .cptr (encDoc d), .cptr (encOff o)]],
   [.raw (.int .i64 2), .clo (.func 22) [] [.cptr (encReg r), .cptr (encDoc d), .cptr (encOff o)]],
   [.raw (.int .i64 3), .clo (.func 24) [] [.cptr (encOff o), .cptr (encDoc d)]],
   [.raw (.int .i64 4), .clo (.func 25) [] [.cptr [.lst 3 ((ownL n o.comp d.locks).map encLk)], .cptr (encOff o)]],
   [.raw (.int .i64 5), .clo (.func 29) [] [.cptr [.lst 3 ((ownL n o.comp d.locks).map encLk)], .cptr (encOff o), .cptr (encDoc d)]],
   [.raw (.int .i64 6), .clo (.func 32) [] [.cptr (encNet n), .cptr (encDoc d)]],
   [.raw (.int .i64 7), .clo (.func 34) [] [.cptr (encNet n), .cptr (encDoc d)]],
   [.raw (.int .i64 8), .clo (.func 36) [] [.cptr (encNet n), .cptr (encOff o), .cptr (encDoc d)]],
   [.raw (.int .i64 9), .clo (.func 38) [] [.cptr (encNet n), .cptr (encOff o), .cptr (encDoc d)]]]
-- ROWS END
theorem reaClo_len (n : Net) (r : List Pers) (o : Off) (d : Doc) : (reaClo n r o d).length = 9 := rfl
theorem isolated_ok {n : Net} {l : List Lk} {z : List Int} (h : lockChk n l = 0) (hz : zoneChk n z = 0) : isolatedR n l z = (enoughB n z (gapsOf n l), 0) := by
  have e : lockedE n l z = 0 := by unfold lockedE; rw [if_neg (by simp [h]), hz]
  unfold isolatedR
  rw [if_neg (by simp [e])]
theorem offChk_docs {n : Net} {o : Off} (h : offChk n o = 0) : allChk n o.docs = 0 := by
  unfold offChk at h
  repeat' (split at h)
  all_goals first
    | (cases h; done)
    | (exact absurd h (by assumption))
    | (exact Classical.byContradiction (by assumption))
    | trace_state
theorem offChk_certs {n : Net} {o : Off} (h : offChk n o = 0) : certsB n o.certs = true := by
  unfold offChk at h
  repeat' (split at h)
  all_goals first
    | (cases h; done)
    | (exact absurd h (by assumption))
    | (exact (Bool.not_eq_false _).mp (by assumption))
    | trace_state
theorem certsB_locks {n : Net} {l : List Cert} (h : certsB n l = true) {c : Cert} (hc : c ∈ l) : certB n c = true := by
  unfold certsB at h
  rw [Bool.and_eq_true, allTo_true] at h
  obtain ⟨i, hi, rfl⟩ := List.getElem_of_mem hc
  have := h.1 i hi
  rw [certAt_at hi, Bool.and_eq_true] at this
  exact this.1
theorem certB_locks {n : Net} {c : Cert} (h : certB n c = true) : lockChk n c.locks = 0 := by
  unfold certB at h
  simp only [Bool.and_eq_true, decide_eq_true_eq] at h
  exact h.1.2
set_option maxHeartbeats 16000000 in
theorem condReasons (n : Net) (hs : n.sized) (r : List Pers) (hl : r.length ≤ 1000000) (hr : ∀ p, p ∈ r → p.sized) (o : Off) (ho : o.sized) (d : Doc) (hd : d.sized) : Fn1 Tryz.prog GT0 10 [.agg (encNet n), .agg (encReg r), .agg (encOff o), .agg (encDoc d)] (.tup [.lst 1 ((reasR n r o d).1.map encN), .raw (.int .i64 (reasR n r o d).2)]) [] := by
  have c0 := condCheck n hs o ho
  have c1 := regCheck r hl hr
  have c2 := docCheck n hs d hd
  by_cases h0 : offChk n o = 0
  · rw [h0] at c0
    by_cases h1 : regChk r = 0
    · rw [h1] at c1
      by_cases h2 : docChk n d = 0
      · rw [reasE_ok h0 h1 h2]
        rw [h2] at c2
        show Fn1 _ _ _ _ (.tup [.lst 1 ((reasL n r o d).map encN), .raw (.int .i64 0)]) []
        have hlk : lockChk n d.locks = 0 := docChk_locks h2
        have hzn : zoneChk n d.zone = 0 := docChk_zone h2
        have co := condOwn n hs o.comp d.locks hd.ll
        rw [ownE_ok h0 hlk] at co
        have hall := offChk_docs h0
        have hcl : ∀ c, c ∈ o.certs → c.locks.length ≤ 128 := fun c hc => (locks_iff.1 (certB_locks (certsB_locks (offChk_certs h0) hc))).len
        have hdc : d.certs.length ≤ 1000 := by have := docChk_certs h2; omega
        have hlen := reaClo_len n r o d
        have how : (ownL n o.comp d.locks).length ≤ 1000000 := Nat.le_trans (List.length_filter_le _ _) hd.ll
        simp only [encNet, encReg, encOff, encDoc] at c0 c1 c2 co ⊢
        refine holds_of Tryz.func10 rfl rfl ?_
        refine J_run 200 ?_
        delta Tryz.f10
        repeat' (first
          | (simp (maxSteps := 1000000) (disch := omega) only [go_sem])
          | ((with_reducible refine CallA.give [0,1,2,3] ?_ ?_ c0 ?_); (· simp (disch := omega) only [go_sem]); (· simp (disch := omega) only [go_sem]); rintro _ _ ⟨rfl, rfl⟩)
          | ((with_reducible refine CallA.pure c1 ?_ ?_); (· simp (disch := omega) only [go_sem]); rintro _ _ ⟨rfl, rfl⟩)
          | ((with_reducible refine CallA.pure c2 ?_ ?_); (· simp (disch := omega) only [go_sem]); rintro _ _ ⟨rfl, rfl⟩)
          | ((with_reducible refine CallA.pure co ?_ ?_); (· simp (disch := omega) only [go_sem]); rintro _ _ ⟨rfl, rfl⟩)
          | ((with_reducible first | refine gDt ?_ ?_ | refine gDf ?_ ?_ | refine gNt ?_ ?_ | refine gNf ?_ ?_ | refine cD ?_ ?_ | refine cN ?_ ?_ | refine cB ?_ ?_ | refine gB ?_ ?_) <;> intro h)
          | with_reducible first | refine And.intro ?_ ?_ | refine J_seq ?_ | refine J_block ?_ | refine J_inBlock ?_ | refine rC ?_ | refine rR ?_ | refine rE ?_ | refine rG ?_ | refine FinQ.now ?_ | refine FinQ.end ?_)
        refine J_nilName 16 1 (by simp only [go_sem]) ?_
        simp only [go_sem]
        refine J_for (upto 0 7 ++ upto 10 15 ++ upto 17 63 ++ upto 67 79) (fun i : Nat => [(66, .raw (.int .i64 i)), (16, .own 6 1 0 (reasTo n r o d i).length)]) (fun i => [.dead, .dead, .dead, .dead, .dead, .arr 2 (reaClo n r o d), .arr 1 ((reasTo n r o d i).map encN)]) (fun i => i ≤ 9) (fun i => 9 - i) 0 (by omega) (.le (by simp [go_sem, reaClo, encNet, encReg, encOff, encDoc, reasTo]) (by simp)) ?_
        intro i hi
        by_cases hlt : i < 9
        · have hi9 : i = 0 ∨ i = 1 ∨ i = 2 ∨ i = 3 ∨ i = 4 ∨ i = 5 ∨ i = 6 ∨ i = 7 ∨ i = 8 := by omega
          rcases hi9 with rfl | rfl | rfl | rfl | rfl | rfl | rfl | rfl | rfl
      -- ROUNDS
          · have ht : reasTo n r o d 1 = reasTo n r o d 0 ++ (if noB n r o d 1 = true then [1] else []) := reasTo_next
            have hle := reasTo_len (n := n) (r := r) (o := o) (d := d) (i := 0)
            have hg : (reaClo n r o d).getD 0 [] = [.raw (.int .i64 1), .clo (.func 19) [] [.cptr (encReg r), .cptr (encDoc d), .cptr (encOff o)]] := rfl
            have cx := reason1 r hl hr o d
            replace cx : Fn1 Tryz.prog GT0 19 [.cptr (encReg r), .cptr (encDoc d), .cptr (encOff o)] (.raw (.bool (noB n r o d 1))) [] := cx
            generalize noB n r o d 1 = b at cx ht
            cases b
            · rw [if_neg Bool.false_ne_true, List.append_nil] at ht
              refine J_run 200 ?_
              repeat' (first
                | (simp (maxSteps := 1000000) (disch := omega) only [go_sem, hg, hlen, Nat.reduceLT])
                | ((with_reducible refine CallA.pure cx ?_ ?_); (· simp (disch := omega) only [go_sem, hg, hlen, Nat.reduceLT]); rintro _ _ ⟨rfl, rfl⟩)
                | ((with_reducible first | refine gDt ?_ ?_ | refine gDf ?_ ?_ | refine gNt ?_ ?_ | refine gNf ?_ ?_ | refine cD ?_ ?_ | refine cN ?_ ?_ | refine cB ?_ ?_ | refine gB ?_ ?_) <;> intro h)
                | with_reducible first | refine And.intro ?_ ?_ | refine J_seq ?_ | refine J_block ?_ | refine J_inBlock ?_ | refine rC ?_ | refine rR ?_ | refine rE ?_ | refine rG ?_ | refine FinQ.now ?_ | refine FinQ.end ?_)
              refine .mk 1 (by omega) (by omega) (by rw [ht]; simp [go_sem]) (by simp)
            · rw [if_pos rfl] at ht
              refine J_run 200 ?_
              repeat' (first
                | (simp (maxSteps := 1000000) (disch := omega) only [go_sem, hg, hlen, Nat.reduceLT])
                | ((with_reducible refine CallA.pure cx ?_ ?_); (· simp (disch := omega) only [go_sem, hg, hlen, Nat.reduceLT]); rintro _ _ ⟨rfl, rfl⟩)
                | ((with_reducible first | refine gDt ?_ ?_ | refine gDf ?_ ?_ | refine gNt ?_ ?_ | refine gNf ?_ ?_ | refine cD ?_ ?_ | refine cN ?_ ?_ | refine cB ?_ ?_ | refine gB ?_ ?_) <;> intro h)
                | with_reducible first | refine And.intro ?_ ?_ | refine J_seq ?_ | refine J_block ?_ | refine J_inBlock ?_ | refine rC ?_ | refine rR ?_ | refine rE ?_ | refine rG ?_ | refine FinQ.now ?_ | refine FinQ.end ?_)
              refine .mk 1 (by omega) (by omega) (by rw [ht]; simp [go_sem, encN]) (by simp)
          · have ht : reasTo n r o d 2 = reasTo n r o d 1 ++ (if noB n r o d 2 = true then [2] else []) := reasTo_next
            have hle := reasTo_len (n := n) (r := r) (o := o) (d := d) (i := 1)
            have hg : (reaClo n r o d).getD 1 [] = [.raw (.int .i64 2), .clo (.func 22) [] [.cptr (encReg r), .cptr (encDoc d), .cptr (encOff o)]] := rfl
            have cx := reason2 r hl hr o d
            replace cx : Fn1 Tryz.prog GT0 22 [.cptr (encReg r), .cptr (encDoc d), .cptr (encOff o)] (.raw (.bool (noB n r o d 2))) [] := cx
            generalize noB n r o d 2 = b at cx ht
            cases b
            · rw [if_neg Bool.false_ne_true, List.append_nil] at ht
              refine J_run 200 ?_
              repeat' (first
                | (simp (maxSteps := 1000000) (disch := omega) only [go_sem, hg, hlen, Nat.reduceLT])
                | ((with_reducible refine CallA.pure cx ?_ ?_); (· simp (disch := omega) only [go_sem, hg, hlen, Nat.reduceLT]); rintro _ _ ⟨rfl, rfl⟩)
                | ((with_reducible first | refine gDt ?_ ?_ | refine gDf ?_ ?_ | refine gNt ?_ ?_ | refine gNf ?_ ?_ | refine cD ?_ ?_ | refine cN ?_ ?_ | refine cB ?_ ?_ | refine gB ?_ ?_) <;> intro h)
                | with_reducible first | refine And.intro ?_ ?_ | refine J_seq ?_ | refine J_block ?_ | refine J_inBlock ?_ | refine rC ?_ | refine rR ?_ | refine rE ?_ | refine rG ?_ | refine FinQ.now ?_ | refine FinQ.end ?_)
              refine .mk 2 (by omega) (by omega) (by rw [ht]; simp [go_sem]) (by simp)
            · rw [if_pos rfl] at ht
              refine J_run 200 ?_
              repeat' (first
                | (simp (maxSteps := 1000000) (disch := omega) only [go_sem, hg, hlen, Nat.reduceLT])
                | ((with_reducible refine CallA.pure cx ?_ ?_); (· simp (disch := omega) only [go_sem, hg, hlen, Nat.reduceLT]); rintro _ _ ⟨rfl, rfl⟩)
                | ((with_reducible first | refine gDt ?_ ?_ | refine gDf ?_ ?_ | refine gNt ?_ ?_ | refine gNf ?_ ?_ | refine cD ?_ ?_ | refine cN ?_ ?_ | refine cB ?_ ?_ | refine gB ?_ ?_) <;> intro h)
                | with_reducible first | refine And.intro ?_ ?_ | refine J_seq ?_ | refine J_block ?_ | refine J_inBlock ?_ | refine rC ?_ | refine rR ?_ | refine rE ?_ | refine rG ?_ | refine FinQ.now ?_ | refine FinQ.end ?_)
              refine .mk 2 (by omega) (by omega) (by rw [ht]; simp [go_sem, encN]) (by simp)
          · have ht : reasTo n r o d 3 = reasTo n r o d 2 ++ (if noB n r o d 3 = true then [3] else []) := reasTo_next
            have hle := reasTo_len (n := n) (r := r) (o := o) (d := d) (i := 2)
            have hg : (reaClo n r o d).getD 2 [] = [.raw (.int .i64 3), .clo (.func 24) [] [.cptr (encOff o), .cptr (encDoc d)]] := rfl
            have cx := reason3 o d
            replace cx : Fn1 Tryz.prog GT0 24 [.cptr (encOff o), .cptr (encDoc d)] (.raw (.bool (noB n r o d 3))) [] := cx
            generalize noB n r o d 3 = b at cx ht
            cases b
            · rw [if_neg Bool.false_ne_true, List.append_nil] at ht
              refine J_run 200 ?_
              repeat' (first
                | (simp (maxSteps := 1000000) (disch := omega) only [go_sem, hg, hlen, Nat.reduceLT])
                | ((with_reducible refine CallA.pure cx ?_ ?_); (· simp (disch := omega) only [go_sem, hg, hlen, Nat.reduceLT]); rintro _ _ ⟨rfl, rfl⟩)
                | ((with_reducible first | refine gDt ?_ ?_ | refine gDf ?_ ?_ | refine gNt ?_ ?_ | refine gNf ?_ ?_ | refine cD ?_ ?_ | refine cN ?_ ?_ | refine cB ?_ ?_ | refine gB ?_ ?_) <;> intro h)
                | with_reducible first | refine And.intro ?_ ?_ | refine J_seq ?_ | refine J_block ?_ | refine J_inBlock ?_ | refine rC ?_ | refine rR ?_ | refine rE ?_ | refine rG ?_ | refine FinQ.now ?_ | refine FinQ.end ?_)
              refine .mk 3 (by omega) (by omega) (by rw [ht]; simp [go_sem]) (by simp)
            · rw [if_pos rfl] at ht
              refine J_run 200 ?_
              repeat' (first
                | (simp (maxSteps := 1000000) (disch := omega) only [go_sem, hg, hlen, Nat.reduceLT])
                | ((with_reducible refine CallA.pure cx ?_ ?_); (· simp (disch := omega) only [go_sem, hg, hlen, Nat.reduceLT]); rintro _ _ ⟨rfl, rfl⟩)
                | ((with_reducible first | refine gDt ?_ ?_ | refine gDf ?_ ?_ | refine gNt ?_ ?_ | refine gNf ?_ ?_ | refine cD ?_ ?_ | refine cN ?_ ?_ | refine cB ?_ ?_ | refine gB ?_ ?_) <;> intro h)
                | with_reducible first | refine And.intro ?_ ?_ | refine J_seq ?_ | refine J_block ?_ | refine J_inBlock ?_ | refine rC ?_ | refine rR ?_ | refine rE ?_ | refine rG ?_ | refine FinQ.now ?_ | refine FinQ.end ?_)
              refine .mk 3 (by omega) (by omega) (by rw [ht]; simp [go_sem, encN]) (by simp)
          · have ht : reasTo n r o d 4 = reasTo n r o d 3 ++ (if noB n r o d 4 = true then [4] else []) := reasTo_next
            have hle := reasTo_len (n := n) (r := r) (o := o) (d := d) (i := 3)
            have hg : (reaClo n r o d).getD 3 [] = [.raw (.int .i64 4), .clo (.func 25) [] [.cptr [.lst 3 ((ownL n o.comp d.locks).map encLk)], .cptr (encOff o)]] := rfl
            have cx := reason4 (ownL n o.comp d.locks) how o ho
            replace cx : Fn1 Tryz.prog GT0 25 [.cptr [.lst 3 ((ownL n o.comp d.locks).map encLk)], .cptr (encOff o)] (.raw (.bool (noB n r o d 4))) [] := cx
            generalize noB n r o d 4 = b at cx ht
            cases b
            · rw [if_neg Bool.false_ne_true, List.append_nil] at ht
              refine J_run 200 ?_
              repeat' (first
                | (simp (maxSteps := 1000000) (disch := omega) only [go_sem, hg, hlen, Nat.reduceLT])
                | ((with_reducible refine CallA.pure cx ?_ ?_); (· simp (disch := omega) only [go_sem, hg, hlen, Nat.reduceLT]); rintro _ _ ⟨rfl, rfl⟩)
                | ((with_reducible first | refine gDt ?_ ?_ | refine gDf ?_ ?_ | refine gNt ?_ ?_ | refine gNf ?_ ?_ | refine cD ?_ ?_ | refine cN ?_ ?_ | refine cB ?_ ?_ | refine gB ?_ ?_) <;> intro h)
                | with_reducible first | refine And.intro ?_ ?_ | refine J_seq ?_ | refine J_block ?_ | refine J_inBlock ?_ | refine rC ?_ | refine rR ?_ | refine rE ?_ | refine rG ?_ | refine FinQ.now ?_ | refine FinQ.end ?_)
              refine .mk 4 (by omega) (by omega) (by rw [ht]; simp [go_sem]) (by simp)
            · rw [if_pos rfl] at ht
              refine J_run 200 ?_
              repeat' (first
                | (simp (maxSteps := 1000000) (disch := omega) only [go_sem, hg, hlen, Nat.reduceLT])
                | ((with_reducible refine CallA.pure cx ?_ ?_); (· simp (disch := omega) only [go_sem, hg, hlen, Nat.reduceLT]); rintro _ _ ⟨rfl, rfl⟩)
                | ((with_reducible first | refine gDt ?_ ?_ | refine gDf ?_ ?_ | refine gNt ?_ ?_ | refine gNf ?_ ?_ | refine cD ?_ ?_ | refine cN ?_ ?_ | refine cB ?_ ?_ | refine gB ?_ ?_) <;> intro h)
                | with_reducible first | refine And.intro ?_ ?_ | refine J_seq ?_ | refine J_block ?_ | refine J_inBlock ?_ | refine rC ?_ | refine rR ?_ | refine rE ?_ | refine rG ?_ | refine FinQ.now ?_ | refine FinQ.end ?_)
              refine .mk 4 (by omega) (by omega) (by rw [ht]; simp [go_sem, encN]) (by simp)
          · have ht : reasTo n r o d 5 = reasTo n r o d 4 ++ (if noB n r o d 5 = true then [5] else []) := reasTo_next
            have hle := reasTo_len (n := n) (r := r) (o := o) (d := d) (i := 4)
            have hg : (reaClo n r o d).getD 4 [] = [.raw (.int .i64 5), .clo (.func 29) [] [.cptr [.lst 3 ((ownL n o.comp d.locks).map encLk)], .cptr (encOff o), .cptr (encDoc d)]] := rfl
            have cx := reason5 (ownL n o.comp d.locks) how o ho d
            replace cx : Fn1 Tryz.prog GT0 29 [.cptr [.lst 3 ((ownL n o.comp d.locks).map encLk)], .cptr (encOff o), .cptr (encDoc d)] (.raw (.bool (noB n r o d 5))) [] := cx
            generalize noB n r o d 5 = b at cx ht
            cases b
            · rw [if_neg Bool.false_ne_true, List.append_nil] at ht
              refine J_run 200 ?_
              repeat' (first
                | (simp (maxSteps := 1000000) (disch := omega) only [go_sem, hg, hlen, Nat.reduceLT])
                | ((with_reducible refine CallA.pure cx ?_ ?_); (· simp (disch := omega) only [go_sem, hg, hlen, Nat.reduceLT]); rintro _ _ ⟨rfl, rfl⟩)
                | ((with_reducible first | refine gDt ?_ ?_ | refine gDf ?_ ?_ | refine gNt ?_ ?_ | refine gNf ?_ ?_ | refine cD ?_ ?_ | refine cN ?_ ?_ | refine cB ?_ ?_ | refine gB ?_ ?_) <;> intro h)
                | with_reducible first | refine And.intro ?_ ?_ | refine J_seq ?_ | refine J_block ?_ | refine J_inBlock ?_ | refine rC ?_ | refine rR ?_ | refine rE ?_ | refine rG ?_ | refine FinQ.now ?_ | refine FinQ.end ?_)
              refine .mk 5 (by omega) (by omega) (by rw [ht]; simp [go_sem]) (by simp)
            · rw [if_pos rfl] at ht
              refine J_run 200 ?_
              repeat' (first
                | (simp (maxSteps := 1000000) (disch := omega) only [go_sem, hg, hlen, Nat.reduceLT])
                | ((with_reducible refine CallA.pure cx ?_ ?_); (· simp (disch := omega) only [go_sem, hg, hlen, Nat.reduceLT]); rintro _ _ ⟨rfl, rfl⟩)
                | ((with_reducible first | refine gDt ?_ ?_ | refine gDf ?_ ?_ | refine gNt ?_ ?_ | refine gNf ?_ ?_ | refine cD ?_ ?_ | refine cN ?_ ?_ | refine cB ?_ ?_ | refine gB ?_ ?_) <;> intro h)
                | with_reducible first | refine And.intro ?_ ?_ | refine J_seq ?_ | refine J_block ?_ | refine J_inBlock ?_ | refine rC ?_ | refine rR ?_ | refine rE ?_ | refine rG ?_ | refine FinQ.now ?_ | refine FinQ.end ?_)
              refine .mk 5 (by omega) (by omega) (by rw [ht]; simp [go_sem, encN]) (by simp)
          · have ht : reasTo n r o d 6 = reasTo n r o d 5 ++ (if noB n r o d 6 = true then [6] else []) := reasTo_next
            have hle := reasTo_len (n := n) (r := r) (o := o) (d := d) (i := 5)
            have hg : (reaClo n r o d).getD 5 [] = [.raw (.int .i64 6), .clo (.func 32) [] [.cptr (encNet n), .cptr (encDoc d)]] := rfl
            have cx := reason6 n hs d hd
            rw [isolated_ok hlk hzn] at cx
            replace cx : Fn1 Tryz.prog GT0 32 [.cptr (encNet n), .cptr (encDoc d)] (.raw (.bool (noB n r o d 6))) [] := cx
            generalize noB n r o d 6 = b at cx ht
            cases b
            · rw [if_neg Bool.false_ne_true, List.append_nil] at ht
              refine J_run 200 ?_
              repeat' (first
                | (simp (maxSteps := 1000000) (disch := omega) only [go_sem, hg, hlen, Nat.reduceLT])
                | ((with_reducible refine CallA.pure cx ?_ ?_); (· simp (disch := omega) only [go_sem, hg, hlen, Nat.reduceLT]); rintro _ _ ⟨rfl, rfl⟩)
                | ((with_reducible first | refine gDt ?_ ?_ | refine gDf ?_ ?_ | refine gNt ?_ ?_ | refine gNf ?_ ?_ | refine cD ?_ ?_ | refine cN ?_ ?_ | refine cB ?_ ?_ | refine gB ?_ ?_) <;> intro h)
                | with_reducible first | refine And.intro ?_ ?_ | refine J_seq ?_ | refine J_block ?_ | refine J_inBlock ?_ | refine rC ?_ | refine rR ?_ | refine rE ?_ | refine rG ?_ | refine FinQ.now ?_ | refine FinQ.end ?_)
              refine .mk 6 (by omega) (by omega) (by rw [ht]; simp [go_sem]) (by simp)
            · rw [if_pos rfl] at ht
              refine J_run 200 ?_
              repeat' (first
                | (simp (maxSteps := 1000000) (disch := omega) only [go_sem, hg, hlen, Nat.reduceLT])
                | ((with_reducible refine CallA.pure cx ?_ ?_); (· simp (disch := omega) only [go_sem, hg, hlen, Nat.reduceLT]); rintro _ _ ⟨rfl, rfl⟩)
                | ((with_reducible first | refine gDt ?_ ?_ | refine gDf ?_ ?_ | refine gNt ?_ ?_ | refine gNf ?_ ?_ | refine cD ?_ ?_ | refine cN ?_ ?_ | refine cB ?_ ?_ | refine gB ?_ ?_) <;> intro h)
                | with_reducible first | refine And.intro ?_ ?_ | refine J_seq ?_ | refine J_block ?_ | refine J_inBlock ?_ | refine rC ?_ | refine rR ?_ | refine rE ?_ | refine rG ?_ | refine FinQ.now ?_ | refine FinQ.end ?_)
              refine .mk 6 (by omega) (by omega) (by rw [ht]; simp [go_sem, encN]) (by simp)
          · have ht : reasTo n r o d 7 = reasTo n r o d 6 ++ (if noB n r o d 7 = true then [7] else []) := reasTo_next
            have hle := reasTo_len (n := n) (r := r) (o := o) (d := d) (i := 6)
            have hg : (reaClo n r o d).getD 6 [] = [.raw (.int .i64 7), .clo (.func 34) [] [.cptr (encNet n), .cptr (encDoc d)]] := rfl
            have cx := reason7 n hs d hd
            replace cx : Fn1 Tryz.prog GT0 34 [.cptr (encNet n), .cptr (encDoc d)] (.raw (.bool (noB n r o d 7))) [] := cx
            generalize noB n r o d 7 = b at cx ht
            cases b
            · rw [if_neg Bool.false_ne_true, List.append_nil] at ht
              refine J_run 200 ?_
              repeat' (first
                | (simp (maxSteps := 1000000) (disch := omega) only [go_sem, hg, hlen, Nat.reduceLT])
                | ((with_reducible refine CallA.pure cx ?_ ?_); (· simp (disch := omega) only [go_sem, hg, hlen, Nat.reduceLT]); rintro _ _ ⟨rfl, rfl⟩)
                | ((with_reducible first | refine gDt ?_ ?_ | refine gDf ?_ ?_ | refine gNt ?_ ?_ | refine gNf ?_ ?_ | refine cD ?_ ?_ | refine cN ?_ ?_ | refine cB ?_ ?_ | refine gB ?_ ?_) <;> intro h)
                | with_reducible first | refine And.intro ?_ ?_ | refine J_seq ?_ | refine J_block ?_ | refine J_inBlock ?_ | refine rC ?_ | refine rR ?_ | refine rE ?_ | refine rG ?_ | refine FinQ.now ?_ | refine FinQ.end ?_)
              refine .mk 7 (by omega) (by omega) (by rw [ht]; simp [go_sem]) (by simp)
            · rw [if_pos rfl] at ht
              refine J_run 200 ?_
              repeat' (first
                | (simp (maxSteps := 1000000) (disch := omega) only [go_sem, hg, hlen, Nat.reduceLT])
                | ((with_reducible refine CallA.pure cx ?_ ?_); (· simp (disch := omega) only [go_sem, hg, hlen, Nat.reduceLT]); rintro _ _ ⟨rfl, rfl⟩)
                | ((with_reducible first | refine gDt ?_ ?_ | refine gDf ?_ ?_ | refine gNt ?_ ?_ | refine gNf ?_ ?_ | refine cD ?_ ?_ | refine cN ?_ ?_ | refine cB ?_ ?_ | refine gB ?_ ?_) <;> intro h)
                | with_reducible first | refine And.intro ?_ ?_ | refine J_seq ?_ | refine J_block ?_ | refine J_inBlock ?_ | refine rC ?_ | refine rR ?_ | refine rE ?_ | refine rG ?_ | refine FinQ.now ?_ | refine FinQ.end ?_)
              refine .mk 7 (by omega) (by omega) (by rw [ht]; simp [go_sem, encN]) (by simp)
          · have ht : reasTo n r o d 8 = reasTo n r o d 7 ++ (if noB n r o d 8 = true then [8] else []) := reasTo_next
            have hle := reasTo_len (n := n) (r := r) (o := o) (d := d) (i := 7)
            have hg : (reaClo n r o d).getD 7 [] = [.raw (.int .i64 8), .clo (.func 36) [] [.cptr (encNet n), .cptr (encOff o), .cptr (encDoc d)]] := rfl
            have cx := reason8 n hs o ho hcl d hd hdc hlk
            replace cx : Fn1 Tryz.prog GT0 36 [.cptr (encNet n), .cptr (encOff o), .cptr (encDoc d)] (.raw (.bool (noB n r o d 8))) [] := cx
            generalize noB n r o d 8 = b at cx ht
            cases b
            · rw [if_neg Bool.false_ne_true, List.append_nil] at ht
              refine J_run 200 ?_
              repeat' (first
                | (simp (maxSteps := 1000000) (disch := omega) only [go_sem, hg, hlen, Nat.reduceLT])
                | ((with_reducible refine CallA.pure cx ?_ ?_); (· simp (disch := omega) only [go_sem, hg, hlen, Nat.reduceLT]); rintro _ _ ⟨rfl, rfl⟩)
                | ((with_reducible first | refine gDt ?_ ?_ | refine gDf ?_ ?_ | refine gNt ?_ ?_ | refine gNf ?_ ?_ | refine cD ?_ ?_ | refine cN ?_ ?_ | refine cB ?_ ?_ | refine gB ?_ ?_) <;> intro h)
                | with_reducible first | refine And.intro ?_ ?_ | refine J_seq ?_ | refine J_block ?_ | refine J_inBlock ?_ | refine rC ?_ | refine rR ?_ | refine rE ?_ | refine rG ?_ | refine FinQ.now ?_ | refine FinQ.end ?_)
              refine .mk 8 (by omega) (by omega) (by rw [ht]; simp [go_sem]) (by simp)
            · rw [if_pos rfl] at ht
              refine J_run 200 ?_
              repeat' (first
                | (simp (maxSteps := 1000000) (disch := omega) only [go_sem, hg, hlen, Nat.reduceLT])
                | ((with_reducible refine CallA.pure cx ?_ ?_); (· simp (disch := omega) only [go_sem, hg, hlen, Nat.reduceLT]); rintro _ _ ⟨rfl, rfl⟩)
                | ((with_reducible first | refine gDt ?_ ?_ | refine gDf ?_ ?_ | refine gNt ?_ ?_ | refine gNf ?_ ?_ | refine cD ?_ ?_ | refine cN ?_ ?_ | refine cB ?_ ?_ | refine gB ?_ ?_) <;> intro h)
                | with_reducible first | refine And.intro ?_ ?_ | refine J_seq ?_ | refine J_block ?_ | refine J_inBlock ?_ | refine rC ?_ | refine rR ?_ | refine rE ?_ | refine rG ?_ | refine FinQ.now ?_ | refine FinQ.end ?_)
              refine .mk 8 (by omega) (by omega) (by rw [ht]; simp [go_sem, encN]) (by simp)
          · have ht : reasTo n r o d 9 = reasTo n r o d 8 ++ (if noB n r o d 9 = true then [9] else []) := reasTo_next
            have hle := reasTo_len (n := n) (r := r) (o := o) (d := d) (i := 8)
            have hg : (reaClo n r o d).getD 8 [] = [.raw (.int .i64 9), .clo (.func 38) [] [.cptr (encNet n), .cptr (encOff o), .cptr (encDoc d)]] := rfl
            have cx := reason9 n hs o ho d hd
            rw [clashE_ok hall h2] at cx
            replace cx : Fn1 Tryz.prog GT0 38 [.cptr (encNet n), .cptr (encOff o), .cptr (encDoc d)] (.raw (.bool (noB n r o d 9))) [] := cx
            generalize noB n r o d 9 = b at cx ht
            cases b
            · rw [if_neg Bool.false_ne_true, List.append_nil] at ht
              refine J_run 200 ?_
              repeat' (first
                | (simp (maxSteps := 1000000) (disch := omega) only [go_sem, hg, hlen, Nat.reduceLT])
                | ((with_reducible refine CallA.pure cx ?_ ?_); (· simp (disch := omega) only [go_sem, hg, hlen, Nat.reduceLT]); rintro _ _ ⟨rfl, rfl⟩)
                | ((with_reducible first | refine gDt ?_ ?_ | refine gDf ?_ ?_ | refine gNt ?_ ?_ | refine gNf ?_ ?_ | refine cD ?_ ?_ | refine cN ?_ ?_ | refine cB ?_ ?_ | refine gB ?_ ?_) <;> intro h)
                | with_reducible first | refine And.intro ?_ ?_ | refine J_seq ?_ | refine J_block ?_ | refine J_inBlock ?_ | refine rC ?_ | refine rR ?_ | refine rE ?_ | refine rG ?_ | refine FinQ.now ?_ | refine FinQ.end ?_)
              refine .mk 9 (by omega) (by omega) (by rw [ht]; simp [go_sem]) (by simp)
            · rw [if_pos rfl] at ht
              refine J_run 200 ?_
              repeat' (first
                | (simp (maxSteps := 1000000) (disch := omega) only [go_sem, hg, hlen, Nat.reduceLT])
                | ((with_reducible refine CallA.pure cx ?_ ?_); (· simp (disch := omega) only [go_sem, hg, hlen, Nat.reduceLT]); rintro _ _ ⟨rfl, rfl⟩)
                | ((with_reducible first | refine gDt ?_ ?_ | refine gDf ?_ ?_ | refine gNt ?_ ?_ | refine gNf ?_ ?_ | refine cD ?_ ?_ | refine cN ?_ ?_ | refine cB ?_ ?_ | refine gB ?_ ?_) <;> intro h)
                | with_reducible first | refine And.intro ?_ ?_ | refine J_seq ?_ | refine J_block ?_ | refine J_inBlock ?_ | refine rC ?_ | refine rR ?_ | refine rE ?_ | refine rG ?_ | refine FinQ.now ?_ | refine FinQ.end ?_)
              refine .mk 9 (by omega) (by omega) (by rw [ht]; simp [go_sem, encN]) (by simp)
      -- ROUNDS END
        · have hie : i = 9 := by omega
          subst hie
          refine J_run 200 ?_
          repeat' (first
            | (simp (maxSteps := 1000000) (disch := omega) only [go_sem])
            | ((with_reducible first | refine gDt ?_ ?_ | refine gDf ?_ ?_ | refine gNt ?_ ?_ | refine gNf ?_ ?_ | refine cD ?_ ?_ | refine cN ?_ ?_ | refine cB ?_ ?_ | refine gB ?_ ?_) <;> intro h)
            | with_reducible first | refine And.intro ?_ ?_ | refine J_seq ?_ | refine J_block ?_ | refine J_inBlock ?_ | refine rC ?_ | refine rR ?_ | refine rE ?_ | refine rG ?_)
          refine .frz [6] (.now ?_)
          simp only [go_sem, take_lm]
          rfl
      · rw [reasE_doc h0 h1 h2]
        generalize docChk n d = e at c2 h2 ⊢
        simp only [encNet, encReg, encOff, encDoc] at c0 c1 c2 ⊢
        refine holds_ofV Tryz.func10 rfl rfl ?_
        refine J_run 200 ?_
        delta Tryz.f10
        repeat' (first
          | (simp (maxSteps := 1000000) (disch := omega) only [go_sem, h2])
          | ((with_reducible refine CallA.pure c0 ?_ ?_); (· simp (disch := omega) only [go_sem, h2]); rintro _ _ ⟨rfl, rfl⟩)
          | ((with_reducible refine CallA.pure c1 ?_ ?_); (· simp (disch := omega) only [go_sem, h2]); rintro _ _ ⟨rfl, rfl⟩)
          | ((with_reducible refine CallA.pure c2 ?_ ?_); (· simp (disch := omega) only [go_sem, h2]); rintro _ _ ⟨rfl, rfl⟩)
          | ((with_reducible first | refine gDt ?_ ?_ | refine gDf ?_ ?_ | refine gNt ?_ ?_ | refine gNf ?_ ?_ | refine cD ?_ ?_ | refine cN ?_ ?_ | refine cB ?_ ?_ | refine gB ?_ ?_) <;> intro h)
          | with_reducible first | refine And.intro ?_ ?_ | refine J_seq ?_ | refine J_block ?_ | refine J_inBlock ?_ | refine rC ?_ | refine rR ?_ | refine rE ?_ | refine rG ?_ | refine FinQ.now ?_ | refine FinQ.end ?_)
        exact ⟨_, .tup (.cons (.nilLst 1) (VLes.refl _)), rfl, rfl⟩
    · rw [reasE_reg h0 h1]
      generalize regChk r = e at c1 h1 ⊢
      simp only [encNet, encReg, encOff, encDoc] at c0 c1 c2 ⊢
      refine holds_ofV Tryz.func10 rfl rfl ?_
      refine J_run 200 ?_
      delta Tryz.f10
      repeat' (first
        | (simp (maxSteps := 1000000) (disch := omega) only [go_sem, h1])
        | ((with_reducible refine CallA.pure c0 ?_ ?_); (· simp (disch := omega) only [go_sem, h1]); rintro _ _ ⟨rfl, rfl⟩)
        | ((with_reducible refine CallA.pure c1 ?_ ?_); (· simp (disch := omega) only [go_sem, h1]); rintro _ _ ⟨rfl, rfl⟩)
        | ((with_reducible first | refine gDt ?_ ?_ | refine gDf ?_ ?_ | refine gNt ?_ ?_ | refine gNf ?_ ?_ | refine cD ?_ ?_ | refine cN ?_ ?_ | refine cB ?_ ?_ | refine gB ?_ ?_) <;> intro h)
        | with_reducible first | refine And.intro ?_ ?_ | refine J_seq ?_ | refine J_block ?_ | refine J_inBlock ?_ | refine rC ?_ | refine rR ?_ | refine rE ?_ | refine rG ?_ | refine FinQ.now ?_ | refine FinQ.end ?_)
      exact ⟨_, .tup (.cons (.nilLst 1) (VLes.refl _)), rfl, rfl⟩
  · rw [reasE_off h0]
    generalize offChk n o = e at c0 h0 ⊢
    simp only [encNet, encReg, encOff, encDoc] at c0 c1 c2 ⊢
    refine holds_ofV Tryz.func10 rfl rfl ?_
    refine J_run 200 ?_
    delta Tryz.f10
    repeat' (first
      | (simp (maxSteps := 1000000) (disch := omega) only [go_sem, h0])
      | ((with_reducible refine CallA.pure c0 ?_ ?_); (· simp (disch := omega) only [go_sem, h0]); rintro _ _ ⟨rfl, rfl⟩)
      | ((with_reducible first | refine gDt ?_ ?_ | refine gDf ?_ ?_ | refine gNt ?_ ?_ | refine gNf ?_ ?_ | refine cD ?_ ?_ | refine cN ?_ ?_ | refine cB ?_ ?_ | refine gB ?_ ?_) <;> intro h)
      | with_reducible first | refine And.intro ?_ ?_ | refine J_seq ?_ | refine J_block ?_ | refine J_inBlock ?_ | refine rC ?_ | refine rR ?_ | refine rE ?_ | refine rG ?_ | refine FinQ.now ?_ | refine FinQ.end ?_)
    exact ⟨_, .tup (.cons (.nilLst 1) (VLes.refl _)), rfl, rfl⟩
end Go.Proofs.YtmfgaefefgnhbaaGreatDoor.Abs
