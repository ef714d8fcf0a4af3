/- The document's RightOp. -/
import Derived.Test.YtpljdbcifaeblaaDoorPg2
namespace Go.Proofs.YtpljdbcifaeblaaDoor
open Go.RowKit Go.Extern.Stop Go.Stop Go.Extern

set_option maxRecDepth 100000 in
set_option maxHeartbeats 4000000 in
theorem rightop_c (o : OpV) (W : Int) (w : World) : Calls Tryd.prog 23 #[o.v, .int .i64 W] w fun ev w' => ev = .returned (.bool (rightB o W)) ∧ Below w.heap.size w w' := by
  obtain ⟨kd, ad, va, ol⟩ := o
  simp only [OpV.v]
  by_cases hk : kd = 1 ∨ kd = 2 ∨ kd = 3 ∨ kd = 4
  · rcases hk with rfl | rfl | rfl | rfl
    · by_cases hzva : va = 0
      · subst hzva
        by_cases hzol : ol = 0
        · subst hzol
          by_cases h1 : 0 ≤ ad
          · have g1 : decide (ad ≥ 0) = true := by simpa using h1
            have g1' : decide (0 ≤ ad) = true := by simpa using h1
            by_cases h2 : ad < W
            · have g2 : decide (ad < W) = true := by simpa using h2
              by_cases h3 : W ≤ 128
              · have g3 : decide (W ≤ 128) = true := by simpa using h3
                have HR := Lib.hid (show rightB ⟨(1 : Int), ad, 0, 0⟩ W = true by unfold rightB; simp only [show nmA ((1 : Int) : Int) = true from rfl, show nmV ((1 : Int) : Int) = false from rfl, show nmO ((1 : Int) : Int) = false from rfl]; simp <;> omega)
                clear h1 h2 h3
                go_enter Tryd.func23, Tryd.ntmps23
                go_wp2_with fail
                go_ret
                exact ⟨by rw [HR.out]; rfl, ((Below.refl _ _).alloc (Nat.le_refl _) _).alloc (by simp) _⟩
              · have g3 : decide (W ≤ 128) = false := by simpa using h3
                have HR := Lib.hid (show rightB ⟨(1 : Int), ad, 0, 0⟩ W = false by unfold rightB; simp only [show nmA ((1 : Int) : Int) = true from rfl, show nmV ((1 : Int) : Int) = false from rfl, show nmO ((1 : Int) : Int) = false from rfl]; simp <;> omega)
                clear h1 h2 h3
                go_enter Tryd.func23, Tryd.ntmps23
                go_wp2_with fail
                go_ret
                exact ⟨by rw [HR.out]; rfl, ((Below.refl _ _).alloc (Nat.le_refl _) _).alloc (by simp) _⟩
            · have g2 : decide (ad < W) = false := by simpa using h2
              have HR := Lib.hid (show rightB ⟨(1 : Int), ad, 0, 0⟩ W = false by unfold rightB; simp only [show nmA ((1 : Int) : Int) = true from rfl, show nmV ((1 : Int) : Int) = false from rfl, show nmO ((1 : Int) : Int) = false from rfl]; simp <;> omega)
              clear h1 h2
              go_enter Tryd.func23, Tryd.ntmps23
              go_wp2_with fail
              go_ret
              exact ⟨by rw [HR.out]; rfl, ((Below.refl _ _).alloc (Nat.le_refl _) _).alloc (by simp) _⟩
          · have g1 : decide (ad ≥ 0) = false := by simpa using h1
            have g1' : decide (0 ≤ ad) = false := by simpa using h1
            have HR := Lib.hid (show rightB ⟨(1 : Int), ad, 0, 0⟩ W = false by unfold rightB; simp only [show nmA ((1 : Int) : Int) = true from rfl, show nmV ((1 : Int) : Int) = false from rfl, show nmO ((1 : Int) : Int) = false from rfl]; simp <;> omega)
            clear h1
            go_enter Tryd.func23, Tryd.ntmps23
            go_wp2_with fail
            go_ret
            exact ⟨by rw [HR.out]; rfl, ((Below.refl _ _).alloc (Nat.le_refl _) _).alloc (by simp) _⟩
        · have gzol : (ol == 0) = false := by simpa using hzol
          have HR := Lib.hid (show rightB ⟨(1 : Int), ad, 0, ol⟩ W = false by unfold rightB; simp only [show nmA ((1 : Int) : Int) = true from rfl, show nmV ((1 : Int) : Int) = false from rfl, show nmO ((1 : Int) : Int) = false from rfl]; simp <;> omega)
          clear hzol
          go_enter Tryd.func23, Tryd.ntmps23
          go_wp2_with fail
          go_ret
          exact ⟨by rw [HR.out]; rfl, ((Below.refl _ _).alloc (Nat.le_refl _) _).alloc (by simp) _⟩
      · have gzva : (va == 0) = false := by simpa using hzva
        have HR := Lib.hid (show rightB ⟨(1 : Int), ad, va, ol⟩ W = false by unfold rightB; simp only [show nmA ((1 : Int) : Int) = true from rfl, show nmV ((1 : Int) : Int) = false from rfl, show nmO ((1 : Int) : Int) = false from rfl]; simp <;> omega)
        clear hzva
        go_enter Tryd.func23, Tryd.ntmps23
        go_wp2_with fail
        go_ret
        exact ⟨by rw [HR.out]; rfl, ((Below.refl _ _).alloc (Nat.le_refl _) _).alloc (by simp) _⟩
    · by_cases hzol : ol = 0
      · subst hzol
        by_cases h1 : 0 ≤ ad
        · have g1 : decide (ad ≥ 0) = true := by simpa using h1
          have g1' : decide (0 ≤ ad) = true := by simpa using h1
          by_cases h2 : ad < W
          · have g2 : decide (ad < W) = true := by simpa using h2
            by_cases h3 : W ≤ 128
            · have g3 : decide (W ≤ 128) = true := by simpa using h3
              have HR := Lib.hid (show rightB ⟨(2 : Int), ad, va, 0⟩ W = true by unfold rightB; simp only [show nmA ((2 : Int) : Int) = true from rfl, show nmV ((2 : Int) : Int) = true from rfl, show nmO ((2 : Int) : Int) = false from rfl]; simp <;> omega)
              clear h1 h2 h3
              go_enter Tryd.func23, Tryd.ntmps23
              go_wp2_with fail
              go_ret
              exact ⟨by rw [HR.out]; rfl, ((Below.refl _ _).alloc (Nat.le_refl _) _).alloc (by simp) _⟩
            · have g3 : decide (W ≤ 128) = false := by simpa using h3
              have HR := Lib.hid (show rightB ⟨(2 : Int), ad, va, 0⟩ W = false by unfold rightB; simp only [show nmA ((2 : Int) : Int) = true from rfl, show nmV ((2 : Int) : Int) = true from rfl, show nmO ((2 : Int) : Int) = false from rfl]; simp <;> omega)
              clear h1 h2 h3
              go_enter Tryd.func23, Tryd.ntmps23
              go_wp2_with fail
              go_ret
              exact ⟨by rw [HR.out]; rfl, ((Below.refl _ _).alloc (Nat.le_refl _) _).alloc (by simp) _⟩
          · have g2 : decide (ad < W) = false := by simpa using h2
            have HR := Lib.hid (show rightB ⟨(2 : Int), ad, va, 0⟩ W = false by unfold rightB; simp only [show nmA ((2 : Int) : Int) = true from rfl, show nmV ((2 : Int) : Int) = true from rfl, show nmO ((2 : Int) : Int) = false from rfl]; simp <;> omega)
            clear h1 h2
            go_enter Tryd.func23, Tryd.ntmps23
            go_wp2_with fail
            go_ret
            exact ⟨by rw [HR.out]; rfl, ((Below.refl _ _).alloc (Nat.le_refl _) _).alloc (by simp) _⟩
        · have g1 : decide (ad ≥ 0) = false := by simpa using h1
          have g1' : decide (0 ≤ ad) = false := by simpa using h1
          have HR := Lib.hid (show rightB ⟨(2 : Int), ad, va, 0⟩ W = false by unfold rightB; simp only [show nmA ((2 : Int) : Int) = true from rfl, show nmV ((2 : Int) : Int) = true from rfl, show nmO ((2 : Int) : Int) = false from rfl]; simp <;> omega)
          clear h1
          go_enter Tryd.func23, Tryd.ntmps23
          go_wp2_with fail
          go_ret
          exact ⟨by rw [HR.out]; rfl, ((Below.refl _ _).alloc (Nat.le_refl _) _).alloc (by simp) _⟩
      · have gzol : (ol == 0) = false := by simpa using hzol
        have HR := Lib.hid (show rightB ⟨(2 : Int), ad, va, ol⟩ W = false by unfold rightB; simp only [show nmA ((2 : Int) : Int) = true from rfl, show nmV ((2 : Int) : Int) = true from rfl, show nmO ((2 : Int) : Int) = false from rfl]; simp <;> omega)
        clear hzol
        go_enter Tryd.func23, Tryd.ntmps23
        go_wp2_with fail
        go_ret
        exact ⟨by rw [HR.out]; rfl, ((Below.refl _ _).alloc (Nat.le_refl _) _).alloc (by simp) _⟩
    · by_cases h1 : 0 ≤ ad
      · have g1 : decide (ad ≥ 0) = true := by simpa using h1
        have g1' : decide (0 ≤ ad) = true := by simpa using h1
        by_cases h2 : ad < W
        · have g2 : decide (ad < W) = true := by simpa using h2
          by_cases h3 : W ≤ 128
          · have g3 : decide (W ≤ 128) = true := by simpa using h3
            have HR := Lib.hid (show rightB ⟨(3 : Int), ad, va, ol⟩ W = true by unfold rightB; simp only [show nmA ((3 : Int) : Int) = true from rfl, show nmV ((3 : Int) : Int) = true from rfl, show nmO ((3 : Int) : Int) = true from rfl]; simp <;> omega)
            clear h1 h2 h3
            go_enter Tryd.func23, Tryd.ntmps23
            go_wp2_with fail
            go_ret
            exact ⟨by rw [HR.out]; rfl, ((Below.refl _ _).alloc (Nat.le_refl _) _).alloc (by simp) _⟩
          · have g3 : decide (W ≤ 128) = false := by simpa using h3
            have HR := Lib.hid (show rightB ⟨(3 : Int), ad, va, ol⟩ W = false by unfold rightB; simp only [show nmA ((3 : Int) : Int) = true from rfl, show nmV ((3 : Int) : Int) = true from rfl, show nmO ((3 : Int) : Int) = true from rfl]; simp <;> omega)
            clear h1 h2 h3
            go_enter Tryd.func23, Tryd.ntmps23
            go_wp2_with fail
            go_ret
            exact ⟨by rw [HR.out]; rfl, ((Below.refl _ _).alloc (Nat.le_refl _) _).alloc (by simp) _⟩
        · have g2 : decide (ad < W) = false := by simpa using h2
          have HR := Lib.hid (show rightB ⟨(3 : Int), ad, va, ol⟩ W = false by unfold rightB; simp only [show nmA ((3 : Int) : Int) = true from rfl, show nmV ((3 : Int) : Int) = true from rfl, show nmO ((3 : Int) : Int) = true from rfl]; simp <;> omega)
          clear h1 h2
          go_enter Tryd.func23, Tryd.ntmps23
          go_wp2_with fail
          go_ret
          exact ⟨by rw [HR.out]; rfl, ((Below.refl _ _).alloc (Nat.le_refl _) _).alloc (by simp) _⟩
      · have g1 : decide (ad ≥ 0) = false := by simpa using h1
        have g1' : decide (0 ≤ ad) = false := by simpa using h1
        have HR := Lib.hid (show rightB ⟨(3 : Int), ad, va, ol⟩ W = false by unfold rightB; simp only [show nmA ((3 : Int) : Int) = true from rfl, show nmV ((3 : Int) : Int) = true from rfl, show nmO ((3 : Int) : Int) = true from rfl]; simp <;> omega)
        clear h1
        go_enter Tryd.func23, Tryd.ntmps23
        go_wp2_with fail
        go_ret
        exact ⟨by rw [HR.out]; rfl, ((Below.refl _ _).alloc (Nat.le_refl _) _).alloc (by simp) _⟩
    · by_cases hzad : ad = 0
      · subst hzad
        by_cases hzva : va = 0
        · subst hzva
          by_cases hzol : ol = 0
          · subst hzol
            by_cases h3 : W ≤ 128
            · have g3 : decide (W ≤ 128) = true := by simpa using h3
              have HR := Lib.hid (show rightB ⟨(4 : Int), 0, 0, 0⟩ W = true by unfold rightB; simp only [show nmA ((4 : Int) : Int) = false from rfl, show nmV ((4 : Int) : Int) = false from rfl, show nmO ((4 : Int) : Int) = false from rfl]; simp <;> omega)
              clear h3
              go_enter Tryd.func23, Tryd.ntmps23
              go_wp2_with fail
              go_ret
              exact ⟨by rw [HR.out]; rfl, ((Below.refl _ _).alloc (Nat.le_refl _) _).alloc (by simp) _⟩
            · have g3 : decide (W ≤ 128) = false := by simpa using h3
              have HR := Lib.hid (show rightB ⟨(4 : Int), 0, 0, 0⟩ W = false by unfold rightB; simp only [show nmA ((4 : Int) : Int) = false from rfl, show nmV ((4 : Int) : Int) = false from rfl, show nmO ((4 : Int) : Int) = false from rfl]; simp <;> omega)
              clear h3
              go_enter Tryd.func23, Tryd.ntmps23
              go_wp2_with fail
              go_ret
              exact ⟨by rw [HR.out]; rfl, ((Below.refl _ _).alloc (Nat.le_refl _) _).alloc (by simp) _⟩
          · have gzol : (ol == 0) = false := by simpa using hzol
            have HR := Lib.hid (show rightB ⟨(4 : Int), 0, 0, ol⟩ W = false by unfold rightB; simp only [show nmA ((4 : Int) : Int) = false from rfl, show nmV ((4 : Int) : Int) = false from rfl, show nmO ((4 : Int) : Int) = false from rfl]; simp <;> omega)
            clear hzol
            go_enter Tryd.func23, Tryd.ntmps23
            go_wp2_with fail
            go_ret
            exact ⟨by rw [HR.out]; rfl, ((Below.refl _ _).alloc (Nat.le_refl _) _).alloc (by simp) _⟩
        · have gzva : (va == 0) = false := by simpa using hzva
          have HR := Lib.hid (show rightB ⟨(4 : Int), 0, va, ol⟩ W = false by unfold rightB; simp only [show nmA ((4 : Int) : Int) = false from rfl, show nmV ((4 : Int) : Int) = false from rfl, show nmO ((4 : Int) : Int) = false from rfl]; simp <;> omega)
          clear hzva
          go_enter Tryd.func23, Tryd.ntmps23
          go_wp2_with fail
          go_ret
          exact ⟨by rw [HR.out]; rfl, ((Below.refl _ _).alloc (Nat.le_refl _) _).alloc (by simp) _⟩
      · have gzad : (ad == 0) = false := by simpa using hzad
        have HR := Lib.hid (show rightB ⟨(4 : Int), ad, va, ol⟩ W = false by unfold rightB; simp only [show nmA ((4 : Int) : Int) = false from rfl, show nmV ((4 : Int) : Int) = false from rfl, show nmO ((4 : Int) : Int) = false from rfl]; simp <;> omega)
        clear hzad
        go_enter Tryd.func23, Tryd.ntmps23
        go_wp2_with fail
        go_ret
        exact ⟨by rw [HR.out]; rfl, ((Below.refl _ _).alloc (Nat.le_refl _) _).alloc (by simp) _⟩
  · have g1 : (kd == 1) = false := by simp; omega
    have g2 : (kd == 2) = false := by simp; omega
    have g3 : (kd == 3) = false := by simp; omega
    have g4 : (kd == 4) = false := by simp; omega
    have HR := Lib.hid (show rightB ⟨kd, ad, va, ol⟩ W = false by
      unfold rightB
      rw [show decide (1 ≤ kd ∧ kd ≤ 4) = false from decide_eq_false (by omega)]
      simp)
    clear hk
    go_enter Tryd.func23, Tryd.ntmps23
    go_wp2_with fail
    go_ret
    exact ⟨by rw [HR.out]; rfl, ((Below.refl _ _).alloc (Nat.le_refl _) _).alloc (by simp) _⟩

end Go.Proofs.YtpljdbcifaeblaaDoor
