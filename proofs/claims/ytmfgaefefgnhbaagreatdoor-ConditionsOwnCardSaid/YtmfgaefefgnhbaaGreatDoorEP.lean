/- What protects, computed; the examples of chapter 16. No program in sight. -/
import Derived.Test.YtmfgaefefgnhbaaGreatDoorEA
import Derived.Test.YtmfgaefefgnhbaaGreatDoorZ4
namespace Go.Proofs.YtmfgaefefgnhbaaGreatDoor.Abs
set_option linter.unusedSimpArgs false
set_option linter.unusedVariables false
set_option maxRecDepth 100000
open Go Go.RowKit

def reC (n : Net) (E : List Int) (v k : Nat) : List Bool := iterC n (fun _ => true) (fun u => E.contains (u : Int)) (fun u => decide (u < n.nodes.length) && (u == v)) k
def reDone (n : Net) (E : List Int) (v k : Nat) : Bool := stepC n (fun _ => true) (fun u => E.contains (u : Int)) (reC n E v k) == reC n E v k
theorem reC_iff {n : Net} (hn : n.ok) {E : List Int} {v : Nat} (hv : v < n.nodes.length) (k : Nat) (hd : reDone n E v k = true) {u : Nat} : (reC n E v k).getD u false = true ↔ RE n E v u := by
  rw [reC, iterC_rch hn (fun v hv => by simp at hv; exact hv.1) k (by simpa [reDone, reC] using hd)]
  constructor
  · exact Rch.mono (fun i _ => trivial) (fun i hi => by simpa using hi) (fun i hi => by simp at hi; exact hi.2)
  · exact Rch.mono (fun i _ => rfl) (fun i hi => by simpa using hi) (fun i hi => by subst hi; simp [hv])
def protC (n : Net) (E : List Int) (T : List Bool) : Bool := ((List.range n.devs.length).all fun i => let d := n.devs.getD i dv0; !((decide (d.kind = 5) || decide (d.kind = 6)) && T.getD d.a.toNat false && !E.contains d.a)) && E.any fun u => decide (0 ≤ u) && T.getD u.toNat false
theorem protB_C {n : Net} (hn : n.ok) {E : List Int} {v : Nat} (hv : v < n.nodes.length) (k : Nat) (hd : reDone n E v k = true) : protB n E v = protC n E (reC n E v k) := by
  rw [Bool.eq_iff_iff, protB, pB_iff, protC, Bool.and_eq_true, List.all_eq_true, List.any_eq_true]
  constructor
  · intro h
    refine ⟨fun i hi => ?_, ?_⟩
    · have hi' : i < n.devs.length := List.mem_range.1 hi
      have hdd : n.devs[i]? = some (n.devs.getD i dv0) := by rw [getD_get hi', List.getElem?_eq_getElem hi']
      have := h.src i _ hdd
      simp only [Bool.not_eq_true', Bool.and_eq_false_iff, Bool.or_eq_false_iff, decide_eq_false_iff_not, Bool.not_eq_false', List.contains_iff_mem]
      by_cases hk : (n.devs.getD i dv0).kind = 5 ∨ (n.devs.getD i dv0).kind = 6
      · by_cases hr : (reC n E v k).getD (n.devs.getD i dv0).a.toNat false = true
        · exact .inr (this hk ((reC_iff hn hv k hd).1 hr))
        · exact .inl (.inr (by simpa using hr))
      · exact .inl (.inl ⟨fun e => hk (.inl e), fun e => hk (.inr e)⟩)
    · obtain ⟨u, hu, hr⟩ := h.met
      exact ⟨u, hu, by simpa using (reC_iff hn hv k hd).2 hr⟩
  · rintro ⟨h1, u, hu, h2⟩
    simp only [Bool.and_eq_true, decide_eq_true_eq] at h2
    refine ⟨fun i d hdd hk hr => ?_, u.toNat, by rw [Int.toNat_of_nonneg h2.1]; exact hu, (reC_iff hn hv k hd).1 h2.2⟩
    have hi := (List.getElem?_eq_some_iff.1 hdd).1
    have := h1 i (List.mem_range.2 hi)
    have e : n.devs.getD i dv0 = d := by rw [List.getD_eq_getElem?_getD, hdd]; rfl
    simp only [e, Bool.not_eq_true', Bool.and_eq_false_iff, Bool.or_eq_false_iff, decide_eq_false_iff_not, Bool.not_eq_false', List.contains_iff_mem] at this
    rcases this with (⟨h3, h4⟩ | h3) | h3
    · exact absurd hk (by omega)
    · rw [(reC_iff hn hv k hd).2 hr] at h3; cases h3
    · exact h3
def missC (n : Net) (z E : List Int) (k : Nat) : List Int := z.filter fun v => !protC n E (reC n E v.toNat k)
def missDone (n : Net) (z E : List Int) (k : Nat) : Bool := z.all fun v => decide (v.toNat < n.nodes.length) && reDone n E v.toNat k
theorem missL_C {n : Net} (hn : n.ok) {z E : List Int} (k : Nat) (hd : missDone n z E k = true) : missL n z E = missC n z E k := by
  unfold missL missC
  refine List.filter_congr fun v hv => ?_
  have := List.all_eq_true.1 hd v hv
  simp only [Bool.and_eq_true, decide_eq_true_eq] at this
  rw [protB_C hn this.1 k this.2]
def countC (n : Net) (l : List Lk) (z : List Int) (k : Nat) : List Int := (trues (regC n z (gapsOf n l) k)).filter (earthAt n (earthsOf n l))
theorem countL_C {n : Net} (hn : n.ok) {l : List Lk} {z : List Int} (hz : rising z n.nodes.length = true) (k : Nat) (hd : regDone n z (gapsOf n l) k = true) : countL n l z = countC n l z k := by
  unfold countL countC regL
  rw [regB_C hn hz k hd]
/-- Whether locks secure a zone, computed. -/
theorem secureR_C {n : Net} (hn : n.ok) {l : List Lk} {z : List Int} (h0 : lockedE n l z = 0) (k : Nat) (hd : regDone n z (gapsOf n l) k = true) (hm : missDone n z (countC n l z k) k = true) :
    secureR n l z = (enoughC n (gapsOf n l) (regC n z (gapsOf n l) k) && decide (missC n z (countC n l z k) k = []), 0) := by
  have hz := (zoneChk_zero (lockedE_zero h0).2).2.2
  unfold secureR
  rw [if_neg (by simp [h0]), enoughB_C hn hz k hd, countL_C hn hz k hd, missL_C hn k hm]

def bayNet : Net := ⟨[⟨⟨#[65]⟩, 0, 0⟩, ⟨⟨#[66]⟩, 0, 0⟩], [⟨⟨#[83]⟩, 5, 0, -1, 0⟩, ⟨⟨#[68]⟩, 3, 0, 1, 0⟩, ⟨⟨#[69, 48]⟩, 4, 0, -1, 0⟩, ⟨⟨#[69, 49]⟩, 4, 1, -1, 0⟩]⟩
theorem bayNet_ok : bayNet.ok := Net.chk_ok.1 (by decide +kernel)
theorem bay_secure0 : secureR bayNet [⟨1, 1, 1⟩, ⟨2, 2, 2⟩] [1] = (false, 0) := by
  rw [secureR_C bayNet_ok (by decide +kernel) 2 (by decide +kernel) (by decide +kernel)]
  decide +kernel
theorem bay_secure1 : secureR bayNet [⟨1, 1, 1⟩, ⟨3, 2, 2⟩] [1] = (true, 0) := by
  rw [secureR_C bayNet_ok (by decide +kernel) 2 (by decide +kernel) (by decide +kernel)]
  decide +kernel
def chainNet : Net := ⟨[⟨⟨#[65]⟩, 0, 0⟩, ⟨⟨#[66]⟩, 0, 0⟩, ⟨⟨#[67]⟩, 0, 0⟩, ⟨⟨#[68]⟩, 0, 0⟩], [⟨⟨#[83]⟩, 5, 0, -1, 0⟩, ⟨⟨#[76, 49]⟩, 1, 0, 1, 0⟩, ⟨⟨#[76, 50]⟩, 1, 1, 2, 0⟩, ⟨⟨#[76, 51]⟩, 1, 2, 3, 0⟩]⟩
theorem chainNet_ok : chainNet.ok := Net.chk_ok.1 (by decide +kernel)
theorem chain_yes : earthE chainNet [1, 2, 3] [1] = (true, 0) := by
  unfold earthE
  rw [if_neg (by decide +kernel), if_neg (by decide +kernel), missL_C chainNet_ok 4 (by decide +kernel)]
  decide +kernel
theorem chain_no : earthE chainNet [0] [1] = (false, 0) := by
  unfold earthE
  rw [if_neg (by decide +kernel), if_neg (by decide +kernel), missL_C chainNet_ok 4 (by decide +kernel)]
  decide +kernel
end Go.Proofs.YtmfgaefefgnhbaaGreatDoor.Abs
