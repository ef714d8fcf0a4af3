/- The models of a law side by side: their parts, told apart; a row of events that were taken. -/
import Derived.Test.YtamklohnmbgklaaDoorLTs7
namespace Go.Proofs.YtamklohnmbgklaaDoor
open Go.RowKit Go.Extern.Stop Go.Stop Go.Extern

theorem MdAt.base {T : MdT} {w : World} {lo lo' b : Nat} {vB vM : Value} {vs : List Value} {B : Bufs} {M : List Int} (h : MdAt T w lo b vB vM vs B M) (hl : lo' ≤ lo) : MdAt T w lo' b vB vM vs B M :=
  ⟨h.blk, Nat.le_trans hl h.lob, h.rowB.base_le fun g hg => Nat.le_trans hl (h.rowB.lt g hg).1, h.rowM.base_le fun g hg => Nat.le_trans hl (h.rowM.lt g hg).1, fun i v L hv hL => (h.rows i v L hv hL).base_le fun g hg => Nat.le_trans hl ((h.rows i v L hv hL).lt g hg).1, h.dd⟩
theorem Md.base {T : MdT} {w : World} {lo lo' b : Nat} {F : Nat → Prop} {B : Bufs} {M : List Int} (h : Md T w lo b F B M) (hl : lo' ≤ lo) : Md T w lo' b F B M := by
  obtain ⟨vB, vM, vs, hA, hF⟩ := h
  exact ⟨vB, vM, vs, hA.base hl, hF⟩

/-- A row of events, each of which was taken: from the first state to the second. -/
inductive Took (B0 : Bufs) (M0 : List Int) : List Ev → Bufs → List Int → Prop
  | nil : Took B0 M0 [] B0 M0
  | snoc {row B M} (e : Ev) (h : Took B0 M0 row B M) (hc : stC B M e = 0) : Took B0 M0 (row ++ [e]) (nxB B M e) (nxM B M e)
theorem Took.run {B0 : Bufs} {M0 : List Int} {row : List Ev} {B : Bufs} {M : List Int} (h : Took B0 M0 row B M) : ∀ (l : List Ev) (i : Nat), rplE B0 M0 (row ++ l) i = rplE B M l (i + row.length) ∧ runM B0 M0 (row ++ l) = runM B M l := by
  induction h with
  | nil => intro l i; exact ⟨rfl, rfl⟩
  | snoc e _ hc ih =>
    intro l i
    have h1 := ih (e :: l) i
    rw [List.append_assoc, List.singleton_append]
    refine ⟨h1.1.trans ?_, h1.2.trans ?_⟩
    · rw [rplE, if_pos hc, List.length_append]
      rfl
    · rw [runM]
theorem Took.done {B0 : Bufs} {M0 : List Int} {row : List Ev} {B : Bufs} {M : List Int} (h : Took B0 M0 row B M) : rplE B0 M0 row 0 = .nil ∧ runM B0 M0 row = M := by
  have := h.run [] 0
  rw [List.append_nil] at this
  exact ⟨this.1, this.2⟩

end Go.Proofs.YtamklohnmbgklaaDoor
