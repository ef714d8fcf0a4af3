/- The reference's Adapt told by the program's counters: Note. -/
import Derived.Test.YtaecihljgbjmcaaDoorRAd1
namespace Go.Proofs.YtaecihljgbjmcaaDoor
open Go.RowKit Go.Extern.Stop Go.Stop Go.Extern

/-- The reference's cells, where the program's are C. -/
def refC (C : Nat → Int) : Nat → Int := fun k => if k < 2 then C k else if (k - 2) % 5 < 2 then C (k + 3) - 1 else C (k - 2)
theorem refC_hi (C : Nat → Int) (i : Nat) {j : Nat} (hj : j < 2) (v : Int) : refC (updC C (2 + i * 5 + 3 + j) v) = updC (refC C) (2 + i * 5 + j) (v - 1) := by
  funext k
  simp only [refC, updC]
  by_cases h2 : k < 2
  · rw [if_pos h2, if_pos h2, if_neg (by omega), if_neg (by omega)]
  · rw [if_neg h2, if_neg h2]
    by_cases h5 : (k - 2) % 5 < 2
    · rw [if_pos h5, if_pos h5]
      by_cases he : k = 2 + i * 5 + j
      · rw [if_pos he, if_pos (by omega)]
      · rw [if_neg he, if_neg (by omega)]
    · rw [if_neg h5, if_neg h5, if_neg (by omega), if_neg (by omega)]
theorem refC_lo (C : Nat → Int) (i : Nat) {j : Nat} (hj : j < 3) (v : Int) : refC (updC C (2 + i * 5 + j) v) = updC (refC C) (2 + i * 5 + 2 + j) v := by
  funext k
  simp only [refC, updC]
  by_cases h2 : k < 2
  · rw [if_pos h2, if_pos h2, if_neg (by omega), if_neg (by omega)]
  · rw [if_neg h2, if_neg h2]
    by_cases h5 : (k - 2) % 5 < 2
    · rw [if_pos h5, if_pos h5, if_neg (by omega), if_neg (by omega)]
    · rw [if_neg h5, if_neg h5]
      by_cases he : k = 2 + i * 5 + 2 + j
      · rw [if_pos he, if_pos (by omega)]
      · rw [if_neg he, if_neg (by omega)]
theorem refC_athi (C : Nat → Int) (i : Nat) {j : Nat} (hj : j < 2) : refC C (2 + i * 5 + j) = C (2 + i * 5 + 3 + j) - 1 := by
  unfold refC
  rw [if_neg (by omega), if_pos (by omega), show 2 + i * 5 + j + 3 = 2 + i * 5 + 3 + j by omega]
theorem refC_atlo (C : Nat → Int) (i : Nat) {j : Nat} (hj : j < 3) : refC C (2 + i * 5 + 2 + j) = C (2 + i * 5 + j) := by
  unfold refC
  rw [if_neg (by omega), if_neg (by omega), show 2 + i * 5 + 2 + j - 2 = 2 + i * 5 + j by omega]
theorem updC_comm (C : Nat → Int) {a b : Nat} (h : a ≠ b) (x y : Int) : updC (updC C a x) b y = updC (updC C b y) a x := by
  funext k
  unfold updC
  by_cases ha : k = a
  · rw [if_pos ha, if_neg (by omega), if_pos ha]
  · rw [if_neg ha, if_neg ha]
theorem rmvT_ref (C : Nat → Int) (i : Nat) (core : Int) : rmvT (refC C) i core = (decide (C (2 + i * 5 + 3) = core + 1) && decide (0 < C (2 + i * 5 + 4)) && !decide (C (2 + i * 5 + 4) = core + 1)) := by
  have h0 := refC_athi C i (j := 0) (by omega)
  have h1 := refC_athi C i (j := 1) (by omega)
  simp only [Nat.add_zero] at h0
  rw [show 2 + i * 5 + 3 + 1 = 2 + i * 5 + 4 by omega] at h1
  unfold rmvT
  rw [h0, h1]
  rw [decide_eq_decide.2 (show C (2 + i * 5 + 3) - 1 = core ↔ C (2 + i * 5 + 3) = core + 1 by omega), decide_eq_decide.2 (show 0 ≤ C (2 + i * 5 + 4) - 1 ↔ 0 < C (2 + i * 5 + 4) by omega), decide_eq_decide.2 (show C (2 + i * 5 + 4) - 1 = core ↔ C (2 + i * 5 + 4) = core + 1 by omega)]
theorem rmvC_ref (C : Nat → Int) (i : Nat) (core : Int) : rmvC (refC C) i core = refC (updC C (2 + i * 5) (cntF (rmvT (refC C) i core) (C (2 + i * 5)))) := by
  have h := refC_lo C i (j := 0) (by omega) (cntF (rmvT (refC C) i core) (C (2 + i * 5)))
  have e := refC_atlo C i (j := 0) (by omega)
  simp only [Nat.add_zero] at h e
  unfold rmvC
  rw [h, e]
theorem read_ref (C : Nat → Int) (i : Nat) (core holders : Int) : rreadC (refC C) i core holders = refC (readC C i core holders) := by
  have h3 := refC_hi C i (j := 0) (by omega) (core + 1)
  simp only [Nat.add_zero, Int.add_sub_cancel] at h3
  unfold rreadC readC
  by_cases hh : holders < 2
  · simp only [if_pos hh]
    exact h3.symm
  · simp only [if_neg hh]
    have h2 := refC_lo (updC C (2 + i * 5 + 3) (core + 1)) i (j := 2) (by omega) (incF (C (2 + i * 5 + 2)))
    have e := refC_atlo C i (j := 2) (by omega)
    rw [h2, h3, show 2 + i * 5 + 2 + 2 = 2 + i * 5 + 4 by omega] at *
    rw [e]
    rfl
theorem wrote_ref (C : Nat → Int) (i : Nat) (core : Int) : updC (refC C) (2 + i * 5 + 1) core = refC (updC C (2 + i * 5 + 4) (core + 1)) := by
  have h := refC_hi C i (j := 1) (by omega) (core + 1)
  rw [show 2 + i * 5 + 3 + 1 = 2 + i * 5 + 4 by omega, Int.add_sub_cancel] at h
  exact h.symm
theorem move_ref (C : Nat → Int) (i : Nat) (core : Int) : updC (rmvC (refC C) i core) (2 + i * 5 + 1) core = refC (moveC C i core) := by
  rw [rmvC_ref, wrote_ref, rmvT_ref]
  rfl
theorem upd_ref (C : Nat → Int) (i : Nat) (core : Int) : rupdC (refC C) i core = refC (updateC C i core) := by
  have h := refC_lo C i (j := 1) (by omega) (incF (C (2 + i * 5 + 1)))
  have e := refC_atlo C i (j := 1) (by omega)
  rw [show 2 + i * 5 + 2 + 1 = 2 + i * 5 + 3 by omega] at h e
  unfold rupdC updateC
  rw [e, ← move_ref, h]
  rfl
theorem rmvT_upd (C : Nat → Int) (i : Nat) (core : Int) {k : Nat} (hk : k < 3) (v : Int) : rmvT (refC (updC C (2 + i * 5 + k) v)) i core = rmvT (refC C) i core := by
  rw [rmvT_ref, rmvT_ref, updC_off (by omega), updC_off (by omega)]
theorem wr3_ref (C : Nat → Int) (i : Nat) (core : Int) : rwr3C (refC C) i core = refC (moveC (updC C (2 + i * 5 + 1) (incF (C (2 + i * 5 + 1)))) i core) := by
  rw [← move_ref]
  unfold rwr3C
  rw [rmvC_ref, rmvC_ref, rmvT_upd C i core (k := 1) (by omega), updC_off (k := 2 + i * 5 + 1) (j := 2 + i * 5) (by omega)]
  generalize cntF (rmvT (refC C) i core) (C (2 + i * 5)) = m
  have e := refC_atlo (updC C (2 + i * 5) m) i (j := 1) (by omega)
  rw [show 2 + i * 5 + 2 + 1 = 2 + i * 5 + 3 by omega, updC_off (by omega)] at e
  have h := refC_lo (updC C (2 + i * 5) m) i (j := 1) (by omega) (incF (C (2 + i * 5 + 1)))
  rw [show 2 + i * 5 + 2 + 1 = 2 + i * 5 + 3 by omega] at h
  rw [e, updC_comm C (a := 2 + i * 5 + 1) (b := 2 + i * 5) (by omega), h]
  rfl
theorem wr_ref (C : Nat → Int) (i : Nat) (core : Int) : rwrC (refC C) i core = refC (moveC (updC (updC C (2 + i * 5 + 1) (decF (C (2 + i * 5 + 1)))) (2 + i * 5 + 2) (decF (C (2 + i * 5 + 2)))) i core) := by
  rw [← move_ref]
  unfold rwrC
  rw [rmvC_ref, rmvC_ref, rmvT_upd _ i core (k := 2) (by omega), rmvT_upd C i core (k := 1) (by omega), updC_off (k := 2 + i * 5 + 2) (j := 2 + i * 5) (by omega), updC_off (k := 2 + i * 5 + 1) (j := 2 + i * 5) (by omega)]
  generalize cntF (rmvT (refC C) i core) (C (2 + i * 5)) = m
  have e := refC_atlo (updC C (2 + i * 5) m) i (j := 1) (by omega)
  rw [show 2 + i * 5 + 2 + 1 = 2 + i * 5 + 3 by omega, updC_off (by omega)] at e
  have e2 := refC_atlo (updC C (2 + i * 5) m) i (j := 2) (by omega)
  rw [show 2 + i * 5 + 2 + 2 = 2 + i * 5 + 4 by omega, updC_off (by omega)] at e2
  have h := refC_lo (updC C (2 + i * 5) m) i (j := 1) (by omega) (decF (C (2 + i * 5 + 1)))
  rw [show 2 + i * 5 + 2 + 1 = 2 + i * 5 + 3 by omega] at h
  have h2 := refC_lo (updC (updC C (2 + i * 5) m) (2 + i * 5 + 1) (decF (C (2 + i * 5 + 1)))) i (j := 2) (by omega) (decF (C (2 + i * 5 + 2)))
  rw [show 2 + i * 5 + 2 + 2 = 2 + i * 5 + 4 by omega] at h2
  rw [e, e2, updC_comm _ (a := 2 + i * 5 + 2) (b := 2 + i * 5) (by omega), updC_comm C (a := 2 + i * 5 + 1) (b := 2 + i * 5) (by omega), h2, h]
  rfl
theorem OkC.rok {C : Nat → Int} (h : OkC C) {i : Nat} (hi : i < 8) : ROk (refC C) i := fun j h2 h5 => by
  have e := refC_atlo C i (j := j - 2) (by omega)
  rw [show 2 + i * 5 + 2 + (j - 2) = 2 + i * 5 + j by omega] at e
  rw [e]
  exact h i hi (j - 2) (by omega)

theorem rnote_any (b : Nat) (C : Nat → Int) (line kind core holders : Int) (w : World) (h : AdaptAt w b (refC C)) (hb : OkC C) :
    Calls Tryd.prog 32 #[.pointer (some ⟨b, 0, none⟩), .int .i64 line, .int .i64 kind, .int .i64 core, .int .i64 holders] w (AdaptPost b (refC (noteC C line kind core holders)) w (noteOk line kind core holders)) := by
  have same : ∀ {r : Bool}, Calls Tryd.prog 32 #[.pointer (some ⟨b, 0, none⟩), .int .i64 line, .int .i64 kind, .int .i64 core, .int .i64 holders] w (fun e w' => e = .returned (.bool r) ∧ w = w') →
      Calls Tryd.prog 32 #[.pointer (some ⟨b, 0, none⟩), .int .i64 line, .int .i64 kind, .int .i64 core, .int .i64 holders] w (AdaptPost b (refC C) w r) := fun hh => hh.mono fun e w' ⟨he, hw⟩ => by
    subst hw
    exact ⟨he, h, World.grownBy.refl _ _⟩
  by_cases hc : 0 ≤ line ∧ line ≤ 31 ∧ 0 ≤ core ∧ core < 64 ∧ 0 ≤ holders
  · obtain ⟨h0, h31, h3, h4, h5⟩ := hc
    have hr : (line / 4).toNat < 8 → ROk (refC C) (line / 4).toNat := fun hi => hb.rok hi
    by_cases k1 : kind = 1
    · have hn : noteOk line kind core holders = true := decide_eq_true (by omega)
      subst k1
      rw [noteC, if_pos hn, if_pos rfl, hn, ← read_ref]
      exact rnote_read b _ line core holders w h hr h0 h31 h3 h4 h5
    · by_cases k2 : kind = 2
      · have hn : noteOk line kind core holders = true := decide_eq_true (by omega)
        subst k2
        rw [noteC, if_pos hn, if_neg (by omega), if_pos rfl, hn]
        by_cases h6 : 3 ≤ holders
        · rw [writeC, if_pos h6, ← wr3_ref]
          exact rnote_write3 b _ line core holders w h hr h0 h31 h3 h4 h5 h6
        · rw [writeC, if_neg h6, ← wr_ref]
          exact rnote_write b _ line core holders w h hr h0 h31 h3 h4 h5 (by omega)
      · by_cases k3 : kind = 3
        · have hn : noteOk line kind core holders = true := decide_eq_true (by omega)
          subst k3
          rw [noteC, if_pos hn, if_neg (by omega), if_neg (by omega), hn, ← upd_ref]
          exact rnote_update b _ line core holders w h hr h0 h31 h3 h4 h5
        · have hn : noteOk line kind core holders = false := decide_eq_false (by omega)
          rw [noteC, if_neg (by simp [hn]), hn]
          exact same (rnote_none b line kind core holders w h0 h31 h3 h4 h5 (by simpa using k1) (by simpa using k2) (by simpa using k3))
  · have hn : noteOk line kind core holders = false := decide_eq_false (by omega)
    rw [noteC, if_neg (by simp [hn]), hn]
    exact same (rnote_bad b line kind core holders w hc)

end Go.Proofs.YtaecihljgbjmcaaDoor
