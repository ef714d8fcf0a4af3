/- Operations; which are right. -/
import Derived.Test.YtpljdbcifaeblaaDoorErr7
import Derived.Test.YtpljdbcifaeblaaDoorMods
import Derived.Test.YtpljdbcifaeblaaDoorOpen
namespace Go.Proofs.YtpljdbcifaeblaaDoor
open Go.RowKit Go.Extern.Stop Go.Stop Go.Extern

/-- An operation. -/
structure OpV where
  kind : Int
  addr : Int
  val : Int
  old : Int
def OpV.cs (o : OpV) : List Value := [.int .i64 o.kind, .int .i64 o.addr, .int .u32 o.val, .int .u32 o.old]
def OpV.v (o : OpV) : Value := .agg #[.int .i64 o.kind, .int .i64 o.addr, .int .u32 o.val, .int .u32 o.old]
def nmA (k : Int) : Bool := decide (1 ≤ k ∧ k ≤ 3)
def nmV (k : Int) : Bool := decide (2 ≤ k ∧ k ≤ 3)
def nmO (k : Int) : Bool := decide (k = 3)
/-- May it be? -/
def rightB (o : OpV) (W : Int) : Bool :=
  decide (W ≤ 128) && decide (1 ≤ o.kind ∧ o.kind ≤ 4) && (if nmA o.kind then decide (0 ≤ o.addr ∧ o.addr < W) else decide (o.addr = 0)) && (nmV o.kind || decide (o.val = 0)) && (nmO o.kind || decide (o.old = 0))

theorem named_c (k : Int) (w : World) : Calls Tryd.prog 42 #[.int .i64 k] w fun ev w' => ev = .returned (.agg #[.bool (nmA k), .bool (nmV k), .bool (nmO k)]) ∧ Below w.heap.size w w' := by
  by_cases h3 : k = 3
  · subst h3
    go_enter Tryd.func42, Tryd.ntmps42
    go_wp2_with fail
    refine bodyPost_ret_by (v := .agg #[.bool true, .bool true, .bool true]) (by simp [results, Tryd.results42, go_sem]) rfl ?_
    exact ⟨rfl, ((Below.refl _ _).alloc (Nat.le_refl _) _).alloc (by simp) _⟩
  · have g3 : (k == 3) = false := by simpa using h3
    by_cases h2 : k = 2
    · subst h2
      go_enter Tryd.func42, Tryd.ntmps42
      go_wp2_with fail
      refine bodyPost_ret_by (v := .agg #[.bool true, .bool true, .bool false]) (by simp [results, Tryd.results42, go_sem]) rfl ?_
      exact ⟨rfl, ((Below.refl _ _).alloc (Nat.le_refl _) _).alloc (by simp) _⟩
    · have g2 : (k == 2) = false := by simpa using h2
      by_cases h1 : k = 1
      · subst h1
        go_enter Tryd.func42, Tryd.ntmps42
        go_wp2_with fail
        refine bodyPost_ret_by (v := .agg #[.bool true, .bool false, .bool false]) (by simp [results, Tryd.results42, go_sem]) rfl ?_
        exact ⟨rfl, ((Below.refl _ _).alloc (Nat.le_refl _) _).alloc (by simp) _⟩
      · have g1 : (k == 1) = false := by simpa using h1
        have e1 : nmA k = false := by simp [nmA]; omega
        have e2 : nmV k = false := by simp [nmV]; omega
        have e3 : nmO k = false := by simp [nmO]; omega
        rw [e1, e2, e3]
        clear h1 h2 h3 e1 e2 e3
        go_enter Tryd.func42, Tryd.ntmps42
        go_wp2_with fail
        refine bodyPost_ret_by (v := .agg #[.bool false, .bool false, .bool false]) (by simp [results, Tryd.results42, go_sem]) rfl ?_
        exact ⟨rfl, ((Below.refl _ _).alloc (Nat.le_refl _) _).alloc (by simp) _⟩

set_option maxRecDepth 100000 in
set_option maxHeartbeats 4000000 in
theorem right_c (o : OpV) (W : Int) (w : World) : Calls Tryd.prog 22 #[o.v, .int .i64 W] w fun ev w' => ev = .returned (.bool (rightB o W)) ∧ Below w.heap.size w w' := by
  obtain ⟨kd, ad, va, ol⟩ := o
  simp only [OpV.v]
  by_cases hW : W > 128
  · have gW : decide (W > 128) = true := by simpa using hW
    have HR := Lib.hid (show rightB ⟨kd, ad, va, ol⟩ W = false by simp [rightB]; omega)
    clear hW
    go_enter Tryd.func22, Tryd.ntmps22
    go_wp2_with fail
    go_ret
    exact ⟨by rw [HR.out]; rfl, (Below.refl _ _).alloc (Nat.le_refl _) _⟩
  · have gW : decide (W > 128) = false := by simpa using hW
    by_cases hk1 : kd < 1
    · have g1 : decide (kd < 1) = true := by simpa using hk1
      have HR := Lib.hid (show rightB ⟨kd, ad, va, ol⟩ W = false by simp [rightB]; omega)
      clear hW hk1
      go_enter Tryd.func22, Tryd.ntmps22
      go_wp2_with fail
      go_ret
      exact ⟨by rw [HR.out]; rfl, (Below.refl _ _).alloc (Nat.le_refl _) _⟩
    · have g1 : decide (kd < 1) = false := by simpa using hk1
      by_cases hk4 : kd > 4
      · have g4 : decide (kd > 4) = true := by simpa using hk4
        have HR := Lib.hid (show rightB ⟨kd, ad, va, ol⟩ W = false by simp [rightB]; omega)
        clear hW hk1 hk4
        go_enter Tryd.func22, Tryd.ntmps22
        go_wp2_with fail
        go_ret
        exact ⟨by rw [HR.out]; rfl, (Below.refl _ _).alloc (Nat.le_refl _) _⟩
      · have h4 : kd = 1 ∨ kd = 2 ∨ kd = 3 ∨ kd = 4 := by omega
        clear g1 hk1 hk4
        rcases h4 with rfl | rfl | rfl | rfl
        · have hX := heap_alloc_new w (.cells #[.int .i64 1, .int .i64 ad, .int .u32 va, .int .u32 ol] 29)
          have HX := Lib.hid hX
          clear hX
          go_enter Tryd.func22, Tryd.ntmps22
          go_wp2_with fail
          refine (named_c (1 : Int) (w.alloc (.cells #[.int .i64 1, .int .i64 ad, .int .u32 va, .int .u32 ol] 29))).mono ?_
          rintro ev w2 ⟨rfl, hb2⟩
          have hX2 := (hb2.block w.heap.size (by simp)).trans HX.out
          have HB := Lib.hid ((((Below.refl w.heap.size w).alloc (Nat.le_refl _) (.cells #[.int .i64 1, .int .i64 ad, .int .u32 va, .int .u32 ol] 29)).trans (hb2.mono (by simp))).alloc (by have := hb2.size; simp at this; omega) (.cells #[.bool true, .bool false, .bool false] 73))
          have q0 := cell_of hX2 0
          have q1 := cell_of hX2 1
          have q2 := cell_of hX2 2
          have q3 := cell_of hX2 3
          simp only [List.getElem?_toArray, List.getElem?_cons_zero, List.getElem?_cons_succ] at q0 q1 q2 q3
          have hsl := (Array.getElem?_eq_some_iff.1 hX2).1
          clear hb2 hX2
          rw [show nmA (1 : Int) = true from rfl, show nmV (1 : Int) = false from rfl, show nmO (1 : Int) = false from rfl]
          by_cases h1 : ad < 0
          · have g1 : decide (ad < 0) = true := by simpa using h1
            have HR := Lib.hid (show rightB ⟨(1 : Int), ad, va, ol⟩ W = false by unfold rightB; rw [show nmA (1 : Int) = true from rfl, show nmV (1 : Int) = false from rfl, show nmO (1 : Int) = false from rfl]; simp; omega)
            clear h1
            go_wp2_with fail
            go_ret
            exact ⟨by rw [HR.out]; rfl, HB.out⟩
          · have g1 : decide (ad < 0) = false := by simpa using h1
            by_cases h2 : ad ≥ W
            · have g2 : decide (ad ≥ W) = true := by simpa using h2
              have g22 : decide (W ≤ ad) = true := by simpa using h2
              have HR := Lib.hid (show rightB ⟨(1 : Int), ad, va, ol⟩ W = false by unfold rightB; rw [show nmA (1 : Int) = true from rfl, show nmV (1 : Int) = false from rfl, show nmO (1 : Int) = false from rfl]; simp; omega)
              clear h1 h2
              go_wp2_with fail
              go_ret
              exact ⟨by rw [HR.out]; rfl, HB.out⟩
            · have g2 : decide (ad ≥ W) = false := by simpa using h2
              have g22 : decide (W ≤ ad) = false := by simpa using h2
              by_cases h3 : va = 0
              · have g3 : (va == 0) = true := by simpa using h3
                by_cases h4 : ol = 0
                · have g4 : (ol == 0) = true := by simpa using h4
                  have HR := Lib.hid (show rightB ⟨(1 : Int), ad, va, ol⟩ W = true by unfold rightB; rw [show nmA (1 : Int) = true from rfl, show nmV (1 : Int) = false from rfl, show nmO (1 : Int) = false from rfl]; simp; omega)
                  clear h3 h4
                  go_wp2_with fail
                  go_ret
                  exact ⟨by rw [HR.out]; rfl, HB.out⟩
                · have g4 : (ol == 0) = false := by simpa using h4
                  have HR := Lib.hid (show rightB ⟨(1 : Int), ad, va, ol⟩ W = false by unfold rightB; rw [show nmA (1 : Int) = true from rfl, show nmV (1 : Int) = false from rfl, show nmO (1 : Int) = false from rfl]; simp; omega)
                  clear h3 h4
                  go_wp2_with fail
                  go_ret
                  exact ⟨by rw [HR.out]; rfl, HB.out⟩
              · have g3 : (va == 0) = false := by simpa using h3
                have HR := Lib.hid (show rightB ⟨(1 : Int), ad, va, ol⟩ W = false by unfold rightB; rw [show nmA (1 : Int) = true from rfl, show nmV (1 : Int) = false from rfl, show nmO (1 : Int) = false from rfl]; simp; omega)
                clear h3
                go_wp2_with fail
                go_ret
                exact ⟨by rw [HR.out]; rfl, HB.out⟩
        · have hX := heap_alloc_new w (.cells #[.int .i64 2, .int .i64 ad, .int .u32 va, .int .u32 ol] 29)
          have HX := Lib.hid hX
          clear hX
          go_enter Tryd.func22, Tryd.ntmps22
          go_wp2_with fail
          refine (named_c (2 : Int) (w.alloc (.cells #[.int .i64 2, .int .i64 ad, .int .u32 va, .int .u32 ol] 29))).mono ?_
          rintro ev w2 ⟨rfl, hb2⟩
          have hX2 := (hb2.block w.heap.size (by simp)).trans HX.out
          have HB := Lib.hid ((((Below.refl w.heap.size w).alloc (Nat.le_refl _) (.cells #[.int .i64 2, .int .i64 ad, .int .u32 va, .int .u32 ol] 29)).trans (hb2.mono (by simp))).alloc (by have := hb2.size; simp at this; omega) (.cells #[.bool true, .bool true, .bool false] 73))
          have q0 := cell_of hX2 0
          have q1 := cell_of hX2 1
          have q2 := cell_of hX2 2
          have q3 := cell_of hX2 3
          simp only [List.getElem?_toArray, List.getElem?_cons_zero, List.getElem?_cons_succ] at q0 q1 q2 q3
          have hsl := (Array.getElem?_eq_some_iff.1 hX2).1
          clear hb2 hX2
          rw [show nmA (2 : Int) = true from rfl, show nmV (2 : Int) = true from rfl, show nmO (2 : Int) = false from rfl]
          by_cases h1 : ad < 0
          · have g1 : decide (ad < 0) = true := by simpa using h1
            have HR := Lib.hid (show rightB ⟨(2 : Int), ad, va, ol⟩ W = false by unfold rightB; rw [show nmA (2 : Int) = true from rfl, show nmV (2 : Int) = true from rfl, show nmO (2 : Int) = false from rfl]; simp; omega)
            clear h1
            go_wp2_with fail
            go_ret
            exact ⟨by rw [HR.out]; rfl, HB.out⟩
          · have g1 : decide (ad < 0) = false := by simpa using h1
            by_cases h2 : ad ≥ W
            · have g2 : decide (ad ≥ W) = true := by simpa using h2
              have g22 : decide (W ≤ ad) = true := by simpa using h2
              have HR := Lib.hid (show rightB ⟨(2 : Int), ad, va, ol⟩ W = false by unfold rightB; rw [show nmA (2 : Int) = true from rfl, show nmV (2 : Int) = true from rfl, show nmO (2 : Int) = false from rfl]; simp; omega)
              clear h1 h2
              go_wp2_with fail
              go_ret
              exact ⟨by rw [HR.out]; rfl, HB.out⟩
            · have g2 : decide (ad ≥ W) = false := by simpa using h2
              have g22 : decide (W ≤ ad) = false := by simpa using h2
              by_cases h4 : ol = 0
              · have g4 : (ol == 0) = true := by simpa using h4
                have HR := Lib.hid (show rightB ⟨(2 : Int), ad, va, ol⟩ W = true by unfold rightB; rw [show nmA (2 : Int) = true from rfl, show nmV (2 : Int) = true from rfl, show nmO (2 : Int) = false from rfl]; simp; omega)
                clear h4
                go_wp2_with fail
                go_ret
                exact ⟨by rw [HR.out]; rfl, HB.out⟩
              · have g4 : (ol == 0) = false := by simpa using h4
                have HR := Lib.hid (show rightB ⟨(2 : Int), ad, va, ol⟩ W = false by unfold rightB; rw [show nmA (2 : Int) = true from rfl, show nmV (2 : Int) = true from rfl, show nmO (2 : Int) = false from rfl]; simp; omega)
                clear h4
                go_wp2_with fail
                go_ret
                exact ⟨by rw [HR.out]; rfl, HB.out⟩
        · have hX := heap_alloc_new w (.cells #[.int .i64 3, .int .i64 ad, .int .u32 va, .int .u32 ol] 29)
          have HX := Lib.hid hX
          clear hX
          go_enter Tryd.func22, Tryd.ntmps22
          go_wp2_with fail
          refine (named_c (3 : Int) (w.alloc (.cells #[.int .i64 3, .int .i64 ad, .int .u32 va, .int .u32 ol] 29))).mono ?_
          rintro ev w2 ⟨rfl, hb2⟩
          have hX2 := (hb2.block w.heap.size (by simp)).trans HX.out
          have HB := Lib.hid ((((Below.refl w.heap.size w).alloc (Nat.le_refl _) (.cells #[.int .i64 3, .int .i64 ad, .int .u32 va, .int .u32 ol] 29)).trans (hb2.mono (by simp))).alloc (by have := hb2.size; simp at this; omega) (.cells #[.bool true, .bool true, .bool true] 73))
          have q0 := cell_of hX2 0
          have q1 := cell_of hX2 1
          have q2 := cell_of hX2 2
          have q3 := cell_of hX2 3
          simp only [List.getElem?_toArray, List.getElem?_cons_zero, List.getElem?_cons_succ] at q0 q1 q2 q3
          have hsl := (Array.getElem?_eq_some_iff.1 hX2).1
          clear hb2 hX2
          rw [show nmA (3 : Int) = true from rfl, show nmV (3 : Int) = true from rfl, show nmO (3 : Int) = true from rfl]
          by_cases h1 : ad < 0
          · have g1 : decide (ad < 0) = true := by simpa using h1
            have HR := Lib.hid (show rightB ⟨(3 : Int), ad, va, ol⟩ W = false by unfold rightB; rw [show nmA (3 : Int) = true from rfl, show nmV (3 : Int) = true from rfl, show nmO (3 : Int) = true from rfl]; simp; omega)
            clear h1
            go_wp2_with fail
            go_ret
            exact ⟨by rw [HR.out]; rfl, HB.out⟩
          · have g1 : decide (ad < 0) = false := by simpa using h1
            by_cases h2 : ad ≥ W
            · have g2 : decide (ad ≥ W) = true := by simpa using h2
              have g22 : decide (W ≤ ad) = true := by simpa using h2
              have HR := Lib.hid (show rightB ⟨(3 : Int), ad, va, ol⟩ W = false by unfold rightB; rw [show nmA (3 : Int) = true from rfl, show nmV (3 : Int) = true from rfl, show nmO (3 : Int) = true from rfl]; simp; omega)
              clear h1 h2
              go_wp2_with fail
              go_ret
              exact ⟨by rw [HR.out]; rfl, HB.out⟩
            · have g2 : decide (ad ≥ W) = false := by simpa using h2
              have g22 : decide (W ≤ ad) = false := by simpa using h2
              have HR := Lib.hid (show rightB ⟨(3 : Int), ad, va, ol⟩ W = true by unfold rightB; rw [show nmA (3 : Int) = true from rfl, show nmV (3 : Int) = true from rfl, show nmO (3 : Int) = true from rfl]; simp; omega)
              go_wp2_with fail
              go_ret
              exact ⟨by rw [HR.out]; rfl, HB.out⟩
        · have hX := heap_alloc_new w (.cells #[.int .i64 4, .int .i64 ad, .int .u32 va, .int .u32 ol] 29)
          have HX := Lib.hid hX
          clear hX
          go_enter Tryd.func22, Tryd.ntmps22
          go_wp2_with fail
          refine (named_c (4 : Int) (w.alloc (.cells #[.int .i64 4, .int .i64 ad, .int .u32 va, .int .u32 ol] 29))).mono ?_
          rintro ev w2 ⟨rfl, hb2⟩
          have hX2 := (hb2.block w.heap.size (by simp)).trans HX.out
          have HB := Lib.hid ((((Below.refl w.heap.size w).alloc (Nat.le_refl _) (.cells #[.int .i64 4, .int .i64 ad, .int .u32 va, .int .u32 ol] 29)).trans (hb2.mono (by simp))).alloc (by have := hb2.size; simp at this; omega) (.cells #[.bool false, .bool false, .bool false] 73))
          have q0 := cell_of hX2 0
          have q1 := cell_of hX2 1
          have q2 := cell_of hX2 2
          have q3 := cell_of hX2 3
          simp only [List.getElem?_toArray, List.getElem?_cons_zero, List.getElem?_cons_succ] at q0 q1 q2 q3
          have hsl := (Array.getElem?_eq_some_iff.1 hX2).1
          clear hb2 hX2
          rw [show nmA (4 : Int) = false from rfl, show nmV (4 : Int) = false from rfl, show nmO (4 : Int) = false from rfl]
          by_cases h1 : ad = 0
          · have g1 : (ad != 0) = false := by simpa using h1
            by_cases h3 : va = 0
            · have g3 : (va == 0) = true := by simpa using h3
              by_cases h4 : ol = 0
              · have g4 : (ol == 0) = true := by simpa using h4
                have HR := Lib.hid (show rightB ⟨(4 : Int), ad, va, ol⟩ W = true by unfold rightB; rw [show nmA (4 : Int) = false from rfl, show nmV (4 : Int) = false from rfl, show nmO (4 : Int) = false from rfl]; simp; omega)
                clear h3 h4
                go_wp2_with fail
                go_ret
                exact ⟨by rw [HR.out]; rfl, HB.out⟩
              · have g4 : (ol == 0) = false := by simpa using h4
                have HR := Lib.hid (show rightB ⟨(4 : Int), ad, va, ol⟩ W = false by unfold rightB; rw [show nmA (4 : Int) = false from rfl, show nmV (4 : Int) = false from rfl, show nmO (4 : Int) = false from rfl]; simp; omega)
                clear h3 h4
                go_wp2_with fail
                go_ret
                exact ⟨by rw [HR.out]; rfl, HB.out⟩
            · have g3 : (va == 0) = false := by simpa using h3
              have HR := Lib.hid (show rightB ⟨(4 : Int), ad, va, ol⟩ W = false by unfold rightB; rw [show nmA (4 : Int) = false from rfl, show nmV (4 : Int) = false from rfl, show nmO (4 : Int) = false from rfl]; simp; omega)
              clear h3
              go_wp2_with fail
              go_ret
              exact ⟨by rw [HR.out]; rfl, HB.out⟩
          · have g1 : (ad != 0) = true := by simpa using h1
            have HR := Lib.hid (show rightB ⟨(4 : Int), ad, va, ol⟩ W = false by unfold rightB; rw [show nmA (4 : Int) = false from rfl, show nmV (4 : Int) = false from rfl, show nmO (4 : Int) = false from rfl]; simp; omega)
            clear h1
            go_wp2_with fail
            go_ret
            exact ⟨by rw [HR.out]; rfl, HB.out⟩

end Go.Proofs.YtpljdbcifaeblaaDoor
