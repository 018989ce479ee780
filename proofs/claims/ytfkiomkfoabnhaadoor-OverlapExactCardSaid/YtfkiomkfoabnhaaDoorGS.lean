/- Arguments that came in as documents. No program in sight. -/
import Derived.Test.YtfkiomkfoabnhaaDoorZShp
import Derived.Test.YtfkiomkfoabnhaaDoorOA
namespace Go.Proofs.YtfkiomkfoabnhaaDoor.Abs
set_option linter.unusedSimpArgs false
set_option linter.unusedVariables false
open Go Go.RowKit

abbrev shSp : Sh := .pair (.int .i64) (.pair (.int .i64) .unit)
abbrev shDoc : Sh := .pair (.int .i64) (.pair (.int .i64) (.pair (.int .i64) (.pair (.int .i64) (.pair (.slice (.int .i64)) (.pair (.int .i64) (.pair (.slice shLk) (.pair .str (.pair .str (.pair shSp (.pair (.slice (.int .i64)) .unit))))))))))
def docOf (x : shDoc.Den) : Doc := ⟨x.1, x.2.1, x.2.2.1, x.2.2.2.1, x.2.2.2.2.1, x.2.2.2.2.2.1, locksOf x.2.2.2.2.2.2.1, x.2.2.2.2.2.2.2.1, x.2.2.2.2.2.2.2.2.1, x.2.2.2.2.2.2.2.2.2.1.1, x.2.2.2.2.2.2.2.2.2.1.2.1, x.2.2.2.2.2.2.2.2.2.2.1⟩
theorem doc_av (x : shDoc.Den) : shDoc.av x = .agg (encDoc (docOf x)) := by
  have h := map2 (α := shLk.Den) (f := lkOf) (g := encLk) (h := shLk.enc) (fun _ => rfl) x.2.2.2.2.2.2.1
  show AV.agg [_, _, _, _, _, _, AV.lst 3 (List.map (α := shLk.Den) shLk.enc x.2.2.2.2.2.2.1), _, _, _, _, _] = _
  rw [h]
  rfl
/-- Sizes that a document has that came in. -/
structure Doc.came (x : Doc) : Prop where
  zl : x.zone.length ≤ 9223372036854775807
  ll : x.locks.length ≤ 9223372036854775807
  cl : x.certs.length ≤ 9223372036854775807
  il : x.iss.size ≤ 9223372036854775807
  hl : x.hol.size ≤ 9223372036854775807
theorem doc_came {x : shDoc.Den} (h : shDoc.Ok x) : (docOf x).came := by
  obtain ⟨_, _, _, _, h5, _, h7, h8, h9, _, h11, _⟩ := h
  exact ⟨Nat.le_trans h5.1 maxLen_le, locks_len h7, Nat.le_trans h11.1 maxLen_le, Nat.le_trans h8 maxLen_le, Nat.le_trans h9 maxLen_le⟩
end Go.Proofs.YtfkiomkfoabnhaaDoor.Abs
