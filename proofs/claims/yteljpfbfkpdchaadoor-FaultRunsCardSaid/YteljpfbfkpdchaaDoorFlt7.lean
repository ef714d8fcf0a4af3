/- What FaultRuns's own condition gives. -/
import Derived.Test.YteljpfbfkpdchaaDoorFlt6
namespace Go.Proofs.YteljpfbfkpdchaaDoor
open Go.ChangeShapes Go.WideShapes Go.RowKit

def sentL2 : List (String × Nat × List UInt8) := [("assent/api.ErrFull", gnum 5, sentText 5), ("assent/api.ErrBusy", gnum 6, sentText 6)]

theorem runsAt_of_laid {W : World} (h : laidMetH Tryd.prog [("errors.errorType", Rows.laid_errors_errorType), ("assent/api.ErrFull", Rows.laid_assent_api_ErrFull), ("assent/api.ErrBusy", Rows.laid_assent_api_ErrBusy)] W) : ∃ A, RunsAt W A := by
  have h' : laidMet Tryd.prog (sentL2.map fun x : String × Nat × List UInt8 => (x.1, sentD x.2.2)) W ∧ handlesMet Tryd.prog [("errors.errorType", Rows.laid_errors_errorType)] W := h
  obtain ⟨⟨ps, hl, hnd, hrows⟩, hh⟩ := h'
  obtain ⟨aa, hlen, has, hsub⟩ := laid_sents sentL2 ps ps (by decide +kernel) hl (fun _ h => h) hrows
  have hn := List.pairwise_iff_getElem.1 (List.pairwise_map.1 (hnd.sublist hsub))
  have hlen : aa.length = 2 := hlen
  match aa, hlen, has, hn with
  | [a, b], _, has, hn =>
    have ha := has 0 _ a rfl rfl
    have hb := has 1 _ b rfl rfl
    have hab : a ≠ b := fun e => hn 0 1 (by simp) (by simp) (by omega) (by simp [e])
    refine ⟨fun k => if k = 5 then a else b, ⟨fun k hk => ?_, fun j k hj hk e => ?_, handle_of_laid hh⟩, ha.glob, hb.glob, ?_⟩
    · rcases hk with rfl | rfl
      · exact ha.row
      · exact hb.row
    · rcases hj with rfl | rfl <;> rcases hk with rfl | rfl
      · rfl
      · exact absurd e hab
      · exact absurd e.symm hab
      · rfl
    · obtain ⟨s, h1, h2, _⟩ := ha.text
      have h2 : s.data.toList = sentText 5 := h2
      show W.cell? a = _
      rw [h1]
      congr 2
      obtain ⟨d⟩ := s
      congr 1
      exact Array.toList_inj.1 h2

end Go.Proofs.YteljpfbfkpdchaaDoor
