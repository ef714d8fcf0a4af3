/- What the fabric's Fits says, in plain words. -/
import Derived.Test.YtbefkkefglkleaaDoorFa7
namespace Go.Proofs.YtbefkkefglkleaaDoor
open Go.RowKit Go.Extern.Stop Go.Stop Go.Extern

/-- A message's place. -/
def plM (m : MsgV) : Plc := placeP (poolM m.kind) m.core
def badM (cores : Int) (m : MsgV) : Bool := !rightM m || decide (cores ≤ m.core)
/-- How many of a row go to a place. -/
def cntP : List MsgV → Plc → Nat
  | [], _ => 0
  | m :: l, q => (if plM m = q then 1 else 0) + cntP l q
theorem cntP_append (q : Plc) : ∀ (l r : List MsgV), cntP (l ++ r) q = cntP l q + cntP r q
  | [], r => by simp [cntP]
  | m :: l, r => by simp only [List.cons_append, cntP, cntP_append q l r]; omega
theorem cntP_le (q : Plc) : ∀ (l : List MsgV), cntP l q ≤ l.length
  | [] => by simp [cntP]
  | m :: l => by
    have := cntP_le q l
    simp only [cntP, List.length_cons]
    split <;> omega
/-- Is there no room for the message at i, when those ahead of it were sent? -/
def fullB (room : Int) (F : Plc → List MsgV) (l : List MsgV) (i : Nat) : Bool := match l[i]? with
  | some m => decide (room < ((F (plM m)).length : Int) + (cntP (l.take (i + 1)) (plM m) : Int))
  | none => false
/-- The first place of a row at which something holds. -/
def firstI (t : Nat → Bool) : Nat → Nat → Option Nat
  | 0, _ => none
  | n + 1, i => if t i then some i else firstI t n (i + 1)
def badB (cores : Int) (l : List MsgV) (i : Nat) : Bool := match l[i]? with
  | some m => badM cores m
  | none => false
def fitsE (cores room : Int) (F : Plc → List MsgV) (l : List MsgV) : ErrT :=
  match firstI (badB cores l) l.length 0 with
  | some i => .wrap fsT i (.sent 0)
  | none => match firstI (fullB room F l) l.length 0 with
    | some i => .wrap fsT i (.sent 5)
    | none => .nil
theorem firstI_none {t : Nat → Bool} : ∀ (n i : Nat), (∀ j, i ≤ j → j < i + n → t j = false) → firstI t n i = none
  | 0, _, _ => rfl
  | n + 1, i, h => by
    simp only [firstI, h i (Nat.le_refl _) (by omega), Bool.false_eq_true, if_false]
    exact firstI_none n (i + 1) fun j h1 h2 => h j (by omega) (by omega)
theorem firstI_some {t : Nat → Bool} : ∀ (n i k : Nat), i ≤ k → k < i + n → (∀ j, i ≤ j → j < k → t j = false) → t k = true → firstI t n i = some k
  | 0, _, _, h1, h2, _, _ => by omega
  | n + 1, i, k, h1, h2, h3, h4 => by
    simp only [firstI]
    by_cases hk : i = k
    · subst hk
      rw [h4]
      rfl
    · rw [h3 i (Nat.le_refl _) (by omega)]
      simp only [Bool.false_eq_true, if_false]
      exact firstI_some n (i + 1) k (by omega) (by omega) (fun j h5 h6 => h3 j (by omega) h6) h4
theorem fits_bad {cores room : Int} {F : Plc → List MsgV} {l : List MsgV} {k : Nat} (hk : k < l.length) (h : ∀ j, j < k → badB cores l j = false) (hb : badB cores l k = true) : fitsE cores room F l = .wrap fsT k (.sent 0) := by
  unfold fitsE
  rw [firstI_some l.length 0 k (by omega) (by omega) (fun j _ h2 => h j h2) hb]
theorem fits_full {cores room : Int} {F : Plc → List MsgV} {l : List MsgV} {k : Nat} (hk : k < l.length) (h0 : ∀ j, j < l.length → badB cores l j = false) (h : ∀ j, j < k → fullB room F l j = false) (hb : fullB room F l k = true) : fitsE cores room F l = .wrap fsT k (.sent 5) := by
  unfold fitsE
  rw [firstI_none l.length 0 fun j _ h2 => h0 j (by omega)]
  simp only
  rw [firstI_some l.length 0 k (by omega) (by omega) (fun j _ h2 => h j h2) hb]
theorem fits_nil {cores room : Int} {F : Plc → List MsgV} {l : List MsgV} (h0 : ∀ j, j < l.length → badB cores l j = false) (h : ∀ j, j < l.length → fullB room F l j = false) : fitsE cores room F l = .nil := by
  unfold fitsE
  rw [firstI_none l.length 0 fun j _ h2 => h0 j (by omega)]
  simp only
  rw [firstI_none l.length 0 fun j _ h2 => h j (by omega)]
theorem fitsE_wf (cores room : Int) (F : Plc → List MsgV) (l : List MsgV) : (fitsE cores room F l).wf := by
  unfold fitsE
  split
  · exact ⟨rfl, show 0 < 10 by omega⟩
  · split
    · exact ⟨rfl, show 5 < 10 by omega⟩
    · trivial

end Go.Proofs.YtbefkkefglkleaaDoor
