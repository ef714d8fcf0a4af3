/- The reader's Num, In and End. -/
import Derived.Test.YtpljdbcifaeblaaDoorRd2
namespace Go.Proofs.YtpljdbcifaeblaaDoor
open Go.RowKit Go.Extern.Stop Go.Stop Go.Extern

theorem dec_cnt : ∀ (l : List Nat) (i u U k : Nat), dec i u l = (U, k, none) → k ≤ i + l.length
  | [], i, u, U, k, h => by simp [dec] at h
  | c :: r, i, u, U, k, h => by
    unfold dec at h
    split at h
    · simp at h
    · split at h
      · simp only [Prod.mk.injEq] at h
        simp only [List.length_cons]
        omega
      · have := dec_cnt r (i + 1) _ U k h
        simp only [List.length_cons]
        omega
theorem dec_err : ∀ (l : List Nat) (i u U k s : Nat), dec i u l = (U, k, some s) → U = 0 ∧ k = 0 ∧ (s = 2 ∨ s = 3)
  | [], i, u, U, k, s, h => by simp [dec] at h; omega
  | c :: r, i, u, U, k, s, h => by
    unfold dec at h
    split at h
    · simp at h; omega
    · split at h
      · simp at h
      · exact dec_err r (i + 1) _ U k s h
/-- The next number is one, or there is an error. -/
theorem nxt_or (L : List Nat) (at_ : Nat) (hle : at_ ≤ L.length) : (∃ n a, nxt L at_ = (n, a, .nil) ∧ a ≤ L.length) ∨ ∃ s, nxt L at_ = (0, 0, .sent s) ∧ (s = 2 ∨ s = 3) := by
  cases h : dec 0 0 (L.drop at_) with
  | mk U p =>
    obtain ⟨k, r⟩ := p
    cases r with
    | none =>
      have := dec_cnt _ _ _ _ _ h
      rw [List.length_drop] at this
      exact .inl ⟨unzig U, at_ + k, by simp only [nxt, h], by omega⟩
    | some s => exact .inr ⟨s, by simp only [nxt, h], (dec_err _ _ _ _ _ _ h).2.2⟩

/-- What Num and In answer, where the reader is then, and its error. -/
def stepR (L : List Nat) (at_ : Nat) (e : ErrT) (ok : Int → Bool) : Int × Nat × ErrT :=
  if e.isNil then match nxt L at_ with
    | (n, a, .nil) => if ok n then (n, a, .nil) else (0, at_, .wrap prT at_ (.sent 3))
    | (_, _, .sent k) => (0, at_, .wrap prT at_ (.sent k))
    | _ => (0, at_, e)
  else (0, at_, e)


end Go.Proofs.YtpljdbcifaeblaaDoor
