/- An Adapt in memory, and what Note does of a read. -/
import Derived.Test.YtaecihljgbjmcaaDoorA2
namespace Go.Proofs.YtaecihljgbjmcaaDoor
open Go.RowKit

/-- block b holds an Adapt: cell k reads C k -/
structure AdaptAt (w : World) (b : Nat) (C : Nat → Int) : Prop where
  cell : ∀ k, k < 42 → w.cell? ⟨b, k, none⟩ = some (.int .i64 (C k))
  froz : ∀ k, k < 42 → w.frozen? ⟨b, k, none⟩ = false

def updC (C : Nat → Int) (k : Nat) (v : Int) : Nat → Int := fun j => if j = k then v else C j

theorem AdaptAt.set {w : World} {b : Nat} {C : Nat → Int} (h : AdaptAt w b C) {k : Nat} (hk : k < 42) (v : Int) : AdaptAt (w.setCell ⟨b, k, none⟩ (.int .i64 v)) b (updC C k v) := by
  refine ⟨fun j hj => ?_, fun j hj => ?_⟩
  · by_cases e : j = k
    · subst e
      rw [World.cell?_setCell_same _ _ _ (h.cell j hj)]
      simp [updC]
    · rw [World.cell?_setCell_other _ _ _ _ (by intro h; injection h with _ h2; exact e h2.symm), h.cell j hj]
      simp [updC, e]
  · rw [World.frozen?_setCell]
    exact h.froz j hj
theorem AdaptAt.drewN {w : World} {b : Nat} {C : Nat → Int} (h : AdaptAt w b C) (n : Nat) : AdaptAt (w.drewN n) b C := ⟨h.cell, h.froz⟩

def AdaptPost (b : Nat) (C : Nat → Int) (w : World) (r : Bool) (e : Ending) (w' : World) : Prop := e = .returned (.bool r) ∧ AdaptAt w' b C ∧ w.grownBy w' (some b)

def incF (n : Int) : Int := cntF true n
def decF (n : Int) : Int := cntF false n

theorem grown_set {w w1 : World} {b k : Nat} {v : Value} (h : w.grownBy w1 (some b)) : w.grownBy (w1.setCell ⟨b, k, none⟩ v) (some b) :=
  ⟨h.os, h.tape, h.output, by simpa [World.setCell] using h.size, fun i hi hne => (Below.heap_setCell w1 _ v i (by rintro rfl; exact hne rfl)).trans (h.block i hi hne)⟩
theorem grown_drewN {w w1 : World} {r : Option Nat} (h : w.grownBy w1 r) (n : Nat) : w.grownBy (w1.drewN n) r := ⟨h.os, h.tape, h.output, h.size, h.block⟩

def readC (C : Nat → Int) (i : Nat) (core holders : Int) : Nat → Int :=
  let C1 := updC C (2 + i * 5 + 3) (core + 1)
  if holders < 2 then C1 else updC C1 (2 + i * 5 + 2) (incF (C (2 + i * 5 + 2)))

set_option maxHeartbeats 400000 in
theorem note_read (b : Nat) (C : Nat → Int) (line core holders : Int) (i : Nat) (w : World) (h : AdaptAt w b C) (hi : areaF line = (i : Int)) (hi8 : i < 8) (h3 : 0 ≤ core) (h4 : core < 64) (h5 : 0 ≤ holders)
    (hb : ∀ j, j < 3 → 0 ≤ C (2 + i * 5 + j) ∧ C (2 + i * 5 + j) ≤ 15) :
    Calls Tryd.prog 16 #[.pointer (some ⟨b, 0, none⟩), .int .i64 line, .int .i64 1, .int .i64 core, .int .i64 holders] w (AdaptPost b (readC C i core holders) w true) := by
  have HI := Lib.hid hi
  clear hi
  have c2 := h.cell (2 + i * 5 + 2) (by omega)
  have c3 := h.cell (2 + i * 5 + 3) (by omega)
  have f2 := h.froz (2 + i * 5 + 2) (by omega)
  have f3 := h.froz (2 + i * 5 + 3) (by omega)
  have b2 := hb 2 (by omega)
  by_cases hh : holders < 2
  · go_enter Tryd.func16, Tryd.ntmps16
    go_wp2_with (go_at_call 25; refine (area_any _ _).mono ?_; rintro e w' ⟨rfl, rfl⟩; rw [HI.out])
    go_ret
    refine ⟨rfl, ?_, grown_set (World.grownBy.refl _ _)⟩
    rw [readC, if_pos hh]
    exact h.set (by omega) _
  · go_enter Tryd.func16, Tryd.ntmps16
    go_wp2_with (first | (go_at_call 25; refine (area_any _ _).mono ?_; rintro e w' ⟨rfl, rfl⟩; rw [HI.out]) | (go_at_call 35; refine (count_any _ _ _ (C (2 + i * 5 + 2)) _ ?_ ?_ b2.1 b2.2).mono ?_; (go_simp); (go_simp); rintro e w' ⟨rfl, rfl⟩))
    go_ret
    refine ⟨rfl, ?_, grown_set (grown_set (World.grownBy.refl _ _))⟩
    simp only [readC]
    rw [if_neg (by omega)]
    exact (h.set (by omega) _).set (by omega) _

end Go.Proofs.YtaecihljgbjmcaaDoor
