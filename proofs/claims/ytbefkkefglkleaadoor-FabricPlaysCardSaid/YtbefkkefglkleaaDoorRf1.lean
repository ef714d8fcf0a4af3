/- The document's fabric in memory: its rows; row, Len. -/
import Derived.Test.YtbefkkefglkleaaDoorFb4
import Derived.Test.YtbefkkefglkleaaDoorMfR1
namespace Go.Proofs.YtbefkkefglkleaaDoor
open Go.RowKit Go.Extern.Stop Go.Stop Go.Extern

/-- The struct: X the four lists. -/
def hdrV (n : Nat) (room : Int) (X : Nat → Value) : Array Value := #[.int .i64 n, .int .i64 room, X 0, X 1, X 2, X 3]
def RfH (b n : Nat) (room : Int) (X : Nat → Value) (w : World) : Prop := w.heap[b]? = some (.cells (hdrV n room X) 50 (0, 0))
/-- The lists and what stands in them. -/
structure RfB (w0 : World) (n : Nat) (X : Nat → Value) (V : Nat → Nat → Value) (F : Plc → List MsgV) (w : World) : Prop where
  lst : ∀ p, p < 4 → winRow w w0.heap.size 44 1 (X p) n ((List.range n).map (V p))
  row : ∀ p c, p < 4 → c < n → winRow w w0.heap.size 32 13 (V p c) (F ((p : Int), (c : Int))).length (flatM (F ((p : Int), (c : Int))))
  xx : ∀ p p', p < 4 → p' < 4 → p ≠ p' → ∀ g, (X p).ownBlock = some g → (X p').ownBlock ≠ some g
  xv : ∀ p p' c, p < 4 → p' < 4 → c < n → ∀ g, (X p).ownBlock = some g → (V p' c).ownBlock ≠ some g
  vv : ∀ p c p' c', p < 4 → c < n → p' < 4 → c' < n → (p ≠ p' ∨ c ≠ c') → ∀ g, (V p c).ownBlock = some g → (V p' c').ownBlock ≠ some g
  below : Below w0.heap.size w0 w
/-- Its blocks. -/
def RfOwn (n : Nat) (X : Nat → Value) (V : Nat → Nat → Value) (q : Nat) : Prop := (∃ p, p < 4 ∧ (X p).ownBlock = some q) ∨ ∃ p c, p < 4 ∧ c < n ∧ (V p c).ownBlock = some q
/-- What waits, waits where there is a place. -/
def PlcF (n : Nat) (F : Plc → List MsgV) : Prop := ∀ q, F q ≠ [] → ∃ p c : Nat, p < 4 ∧ c < n ∧ q = ((p : Int), (c : Int)) ∧ ((p = 0 ∨ p = 2) → c = 0)
section
variable {w0 w w' : World} {n b : Nat} {room : Int} {X : Nat → Value} {V : Nat → Nat → Value} {F : Plc → List MsgV}
theorem RfB.bel (h : RfB w0 n X V F w) (hb : Below w.heap.size w w') : RfB w0 n X V F w' :=
  ⟨fun p hp => (h.lst p hp).below hb, fun p c hp hc => (h.row p c hp hc).below hb, h.xx, h.xv, h.vv, h.below.trans (hb.mono h.below.size)⟩
theorem RfH.bel (h : RfH b n room X w) (hb : Below w.heap.size w w') : RfH b n room X w' := (hb.block b (Array.getElem?_eq_some_iff.1 h).1).trans h
theorem RfH.lt (h : RfH b n room X w) : b < w.heap.size := (Array.getElem?_eq_some_iff.1 h).1
theorem RfB.lt (h : RfB w0 n X V F w) {q : Nat} (hq : RfOwn n X V q) : w0.heap.size ≤ q ∧ q < w.heap.size := by
  rcases hq with ⟨p, hp, e⟩ | ⟨p, c, hp, hc, e⟩
  · exact (h.lst p hp).lt q e
  · exact (h.row p c hp hc).lt q e
theorem RfB.form (h : RfB w0 n X V F w) (hn : 0 < n) (p : Nat) (hp : p < 4) : ∃ g off cap, X p = .slice (some ⟨g, off, none⟩) n cap ∧ g < w.heap.size ∧ ∀ c, c < n → w.cell? ⟨g, off + c, none⟩ = some (V p c) := by
  obtain ⟨g, off, cap, hv, _, _, hg, hc⟩ := (h.lst p hp).form hn
  exact ⟨g, off, cap, hv, hg, fun c hcn => hc c _ (by rw [List.getElem?_map, List.getElem?_range hcn]; rfl)⟩
theorem RfB.keep {S : Nat → Prop} (h : RfB w0 n X V F w) (hM : Mods S w w') (ho : ∀ q, RfOwn n X V q → ¬ S q) (hlo : ∀ q, S q → w0.heap.size ≤ q) : RfB w0 n X V F w' :=
  ⟨fun p hp => (h.lst p hp).keep fun g hg => hM.block g ((h.lst p hp).lt g hg).2 (ho g (.inl ⟨p, hp, hg⟩)), fun p c hp hc => (h.row p c hp hc).keep fun g hg => hM.block g ((h.row p c hp hc).lt g hg).2 (ho g (.inr ⟨p, c, hp, hc, hg⟩)), h.xx, h.xv, h.vv, h.below.trans (hM.below h.below.size hlo)⟩
end
/-- Where a row's slice stands. -/
def ptrX (x : Value) (c : Nat) : Value := match x with
  | .slice (some a) _ _ => .pointer (some ⟨a.block, a.off + c, none⟩)
  | _ => .pointer none
def rowPtr (n : Nat) (X : Nat → Value) (p c : Int) : Value := if placeOk n p c then ptrX (X (placeP p c).1.toNat) (placeP p c).2.toNat else .pointer none
theorem rowPtr_off {n : Nat} {X : Nat → Value} {p c : Int} (h : placeOk n p c = false) : rowPtr n X p c = .pointer none := if_neg (by simp [h])

set_option maxRecDepth 100000 in
set_option maxHeartbeats 4000000 in
theorem rrow_c (b n : Nat) (room : Int) (X : Nat → Value) (p c : Int) (w : World) (h : RfH b n room X w) (hx : ∀ p, p < 4 → ∃ g off cap, X p = .slice (some ⟨g, off, none⟩) n cap) (h1 : 1 ≤ n) (h2 : n ≤ 64) :
    Calls Tryd.prog 37 #[.pointer (some ⟨b, 0, none⟩), .int .i64 p, .int .i64 c] w fun ev w' => ev = .returned (rowPtr n X p c) ∧ w = w' := by
  obtain ⟨g0, o0, k0, e0⟩ := hx 0 (by omega)
  obtain ⟨g1, o1, k1, e1⟩ := hx 1 (by omega)
  obtain ⟨g2, o2, k2, e2⟩ := hx 2 (by omega)
  obtain ⟨g3, o3, k3, e3⟩ := hx 3 (by omega)
  have HE := Lib.hid (And.intro e0 (And.intro e1 (And.intro e2 e3)))
  have hb : w.heap[b]? = some (.cells #[.int .i64 n, .int .i64 room, .slice (some ⟨g0, o0, none⟩) n k0, .slice (some ⟨g1, o1, none⟩) n k1, .slice (some ⟨g2, o2, none⟩) n k2, .slice (some ⟨g3, o3, none⟩) n k3] 50 (0, 0)) := by rw [← e0, ← e1, ← e2, ← e3]; exact h
  have q0 := cell_of hb 0
  have q2 := cell_of hb 2
  have q3 := cell_of hb 3
  have q4 := cell_of hb 4
  have q5 := cell_of hb 5
  simp only [List.getElem?_toArray, List.getElem?_cons_zero, List.getElem?_cons_succ] at q0 q2 q3 q4 q5
  clear h hx e0 e1 e2 e3 hb
  have n0 : decide (0 < n) = true := by simp; omega
  have n1 : decide ((n : Int) ≤ 0) = false := by simp; omega
  have n2 : decide ((0 : Int) < (n : Int)) = true := by simp; omega
  have n3 : decide (n ≤ 0) = false := by simp; omega
  by_cases hp0 : p = 0
  · subst hp0
    have HR := Lib.hid (show rowPtr n X 0 c = .pointer (some ⟨g0, o0, none⟩) from by show ptrX (X 0) 0 = _; rw [HE.out.1]; rfl)
    go_enter Tryd.func37, Tryd.ntmps37
    go_wp2_with fail
    go_ret
    exact ⟨congrArg Ending.returned (HR.out).symm, rfl⟩
  have f0 : (p == 0) = false := by simpa using hp0
  by_cases hp2 : p = 2
  · subst hp2
    have HR := Lib.hid (show rowPtr n X 2 c = .pointer (some ⟨g2, o2, none⟩) from by show ptrX (X 2) 0 = _; rw [HE.out.2.2.1]; rfl)
    go_enter Tryd.func37, Tryd.ntmps37
    go_wp2_with fail
    go_ret
    exact ⟨congrArg Ending.returned (HR.out).symm, rfl⟩
  have f2 : (p == 2) = false := by simpa using hp2
  by_cases hc0 : 0 ≤ c
  · obtain ⟨c, rfl⟩ := Int.eq_ofNat_of_zero_le hc0
    have c1 : decide ((c : Int) < 0) = false := by simp
    by_cases hcn : c < n
    · have c2 : decide ((n : Int) ≤ (c : Int)) = false := by simp; omega
      have c3 : decide (n ≤ c) = false := by simp; omega
      have c4 : decide (c < n) = true := by simpa using hcn
      have c5 : decide ((c : Int) < (n : Int)) = true := by simp; omega
      by_cases hp1 : p = 1
      · subst hp1
        have HR := Lib.hid (show rowPtr n X 1 (c : Int) = .pointer (some ⟨g1, o1 + c, none⟩) from by unfold rowPtr; rw [if_pos (by simp [placeOk]; omega), show placeP 1 (c : Int) = (1, (c : Int)) from rfl]; show ptrX (X 1) (c : Int).toNat = _; rw [HE.out.2.1, Int.toNat_natCast]; rfl)
        go_enter Tryd.func37, Tryd.ntmps37
        go_wp2_with fail
        go_ret
        exact ⟨congrArg Ending.returned (HR.out).symm, rfl⟩
      have f1 : (p == 1) = false := by simpa using hp1
      by_cases hp3 : p = 3
      · subst hp3
        have HR := Lib.hid (show rowPtr n X 3 (c : Int) = .pointer (some ⟨g3, o3 + c, none⟩) from by unfold rowPtr; rw [if_pos (by simp [placeOk]; omega), show placeP 3 (c : Int) = (3, (c : Int)) from rfl]; show ptrX (X 3) (c : Int).toNat = _; rw [HE.out.2.2.2, Int.toNat_natCast]; rfl)
        go_enter Tryd.func37, Tryd.ntmps37
        go_wp2_with fail
        go_ret
        exact ⟨congrArg Ending.returned (HR.out).symm, rfl⟩
      have f3 : (p == 3) = false := by simpa using hp3
      have HR := Lib.hid (show rowPtr n X p (c : Int) = .pointer none from rowPtr_off (by simp [placeOk]; omega))
      by_cases hpl : p < 0
      · have p1 : decide (p < 0) = true := by simpa using hpl
        go_enter Tryd.func37, Tryd.ntmps37
        go_wp2_with fail
        go_ret
        exact ⟨congrArg Ending.returned (HR.out).symm, rfl⟩
      · have p1 : decide (p < 0) = false := by simpa using hpl
        have p2 : decide (3 < p) = true := by simp; omega
        go_enter Tryd.func37, Tryd.ntmps37
        go_wp2_with fail
        go_ret
        exact ⟨congrArg Ending.returned (HR.out).symm, rfl⟩
    · have c2 : decide ((n : Int) ≤ (c : Int)) = true := by simp; omega
      have c3 : decide (n ≤ c) = true := by simp; omega
      have HR := Lib.hid (show rowPtr n X p (c : Int) = .pointer none from rowPtr_off (by simp [placeOk]; omega))
      by_cases hpl : p < 0
      · have p1 : decide (p < 0) = true := by simpa using hpl
        go_enter Tryd.func37, Tryd.ntmps37
        go_wp2_with fail
        go_ret
        exact ⟨congrArg Ending.returned (HR.out).symm, rfl⟩
      · have p1 : decide (p < 0) = false := by simpa using hpl
        by_cases hpu : 3 < p
        · have p2 : decide (3 < p) = true := by simpa using hpu
          go_enter Tryd.func37, Tryd.ntmps37
          go_wp2_with fail
          go_ret
          exact ⟨congrArg Ending.returned (HR.out).symm, rfl⟩
        · have p2 : decide (3 < p) = false := by simpa using hpu
          go_enter Tryd.func37, Tryd.ntmps37
          go_wp2_with fail
          go_ret
          exact ⟨congrArg Ending.returned (HR.out).symm, rfl⟩
  · have c1 : decide (c < 0) = true := by simp; omega
    have HR := Lib.hid (show rowPtr n X p c = .pointer none from rowPtr_off (by simp [placeOk]; omega))
    by_cases hpl : p < 0
    · have p1 : decide (p < 0) = true := by simpa using hpl
      go_enter Tryd.func37, Tryd.ntmps37
      go_wp2_with fail
      go_ret
      exact ⟨congrArg Ending.returned (HR.out).symm, rfl⟩
    · have p1 : decide (p < 0) = false := by simpa using hpl
      by_cases hpu : 3 < p
      · have p2 : decide (3 < p) = true := by simpa using hpu
        go_enter Tryd.func37, Tryd.ntmps37
        go_wp2_with fail
        go_ret
        exact ⟨congrArg Ending.returned (HR.out).symm, rfl⟩
      · have p2 : decide (3 < p) = false := by simpa using hpu
        go_enter Tryd.func37, Tryd.ntmps37
        go_wp2_with fail
        go_ret
        exact ⟨congrArg Ending.returned (HR.out).symm, rfl⟩

end Go.Proofs.YtbefkkefglkleaaDoor
