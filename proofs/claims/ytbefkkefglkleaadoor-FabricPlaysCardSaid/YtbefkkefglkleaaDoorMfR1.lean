/- The reference's Pool and Right. -/
import Derived.Test.YtbefkkefglkleaaDoorMf1
namespace Go.Proofs.YtbefkkefglkleaaDoor
open Go.RowKit Go.Extern.Stop Go.Stop Go.Extern

theorem rpool_c (k : Int) (w : World) : Calls Tryd.prog 38 #[.int .i64 k] w fun ev w' => ev = .returned (.int .i64 (poolM k)) ∧ w = w' := by
  by_cases h1 : k = 1
  · subst h1
    rw [show poolM (1 : Int) = 0 from rfl]
    go_enter Tryd.func38, Tryd.ntmps38
    go_wp2_with fail
    go_ret
    exact ⟨rfl, rfl⟩
  have g1 : (k == 1) = false := by simpa using h1
  by_cases h2 : k = 2
  · subst h2
    rw [show poolM (2 : Int) = 0 from rfl]
    go_enter Tryd.func38, Tryd.ntmps38
    go_wp2_with fail
    go_ret
    exact ⟨rfl, rfl⟩
  have g2 : (k == 2) = false := by simpa using h2
  by_cases h3 : k = 3
  · subst h3
    rw [show poolM (3 : Int) = 0 from rfl]
    go_enter Tryd.func38, Tryd.ntmps38
    go_wp2_with fail
    go_ret
    exact ⟨rfl, rfl⟩
  have g3 : (k == 3) = false := by simpa using h3
  by_cases h4 : k = 4
  · subst h4
    rw [show poolM (4 : Int) = 0 from rfl]
    go_enter Tryd.func38, Tryd.ntmps38
    go_wp2_with fail
    go_ret
    exact ⟨rfl, rfl⟩
  have g4 : (k == 4) = false := by simpa using h4
  by_cases h5 : k = 5
  · subst h5
    rw [show poolM (5 : Int) = 1 from rfl]
    go_enter Tryd.func38, Tryd.ntmps38
    go_wp2_with fail
    go_ret
    exact ⟨rfl, rfl⟩
  have g5 : (k == 5) = false := by simpa using h5
  by_cases h6 : k = 6
  · subst h6
    rw [show poolM (6 : Int) = 1 from rfl]
    go_enter Tryd.func38, Tryd.ntmps38
    go_wp2_with fail
    go_ret
    exact ⟨rfl, rfl⟩
  have g6 : (k == 6) = false := by simpa using h6
  by_cases h7 : k = 7
  · subst h7
    rw [show poolM (7 : Int) = 1 from rfl]
    go_enter Tryd.func38, Tryd.ntmps38
    go_wp2_with fail
    go_ret
    exact ⟨rfl, rfl⟩
  have g7 : (k == 7) = false := by simpa using h7
  by_cases h8 : k = 8
  · subst h8
    rw [show poolM (8 : Int) = 1 from rfl]
    go_enter Tryd.func38, Tryd.ntmps38
    go_wp2_with fail
    go_ret
    exact ⟨rfl, rfl⟩
  have g8 : (k == 8) = false := by simpa using h8
  by_cases h9 : k = 9
  · subst h9
    rw [show poolM (9 : Int) = 1 from rfl]
    go_enter Tryd.func38, Tryd.ntmps38
    go_wp2_with fail
    go_ret
    exact ⟨rfl, rfl⟩
  have g9 : (k == 9) = false := by simpa using h9
  by_cases h10 : k = 10
  · subst h10
    rw [show poolM (10 : Int) = 1 from rfl]
    go_enter Tryd.func38, Tryd.ntmps38
    go_wp2_with fail
    go_ret
    exact ⟨rfl, rfl⟩
  have g10 : (k == 10) = false := by simpa using h10
  by_cases h11 : k = 11
  · subst h11
    rw [show poolM (11 : Int) = 2 from rfl]
    go_enter Tryd.func38, Tryd.ntmps38
    go_wp2_with fail
    go_ret
    exact ⟨rfl, rfl⟩
  have g11 : (k == 11) = false := by simpa using h11
  by_cases h12 : k = 12
  · subst h12
    rw [show poolM (12 : Int) = 2 from rfl]
    go_enter Tryd.func38, Tryd.ntmps38
    go_wp2_with fail
    go_ret
    exact ⟨rfl, rfl⟩
  have g12 : (k == 12) = false := by simpa using h12
  by_cases h13 : k = 13
  · subst h13
    rw [show poolM (13 : Int) = 3 from rfl]
    go_enter Tryd.func38, Tryd.ntmps38
    go_wp2_with fail
    go_ret
    exact ⟨rfl, rfl⟩
  have g13 : (k == 13) = false := by simpa using h13
  by_cases h14 : k = 14
  · subst h14
    rw [show poolM (14 : Int) = 3 from rfl]
    go_enter Tryd.func38, Tryd.ntmps38
    go_wp2_with fail
    go_ret
    exact ⟨rfl, rfl⟩
  have g14 : (k == 14) = false := by simpa using h14
  by_cases h15 : k = 15
  · subst h15
    rw [show poolM (15 : Int) = 3 from rfl]
    go_enter Tryd.func38, Tryd.ntmps38
    go_wp2_with fail
    go_ret
    exact ⟨rfl, rfl⟩
  have g15 : (k == 15) = false := by simpa using h15
  rw [show poolM k = -1 by unfold poolM; (repeat' split) <;> omega]
  clear h1 h2 h3 h4 h5 h6 h7 h8 h9 h10 h11 h12 h13 h14 h15
  go_enter Tryd.func38, Tryd.ntmps38
  go_wp2_with fail
  go_ret
  exact ⟨rfl, rfl⟩

/-- What the reference compares a message with. -/
def bareR (m : MsgV) : MsgV := ⟨m.kind, m.core, m.line, if mgS m.kind then m.state else 0, if mgM m.kind then m.mode else 0, if mgE m.kind then m.epoch else 0, if mgW m.kind then m.word else 0, if mgW m.kind then m.val else 0,
  if mgS m.kind then m.d0 else 0, if mgS m.kind then m.d1 else 0, if mgS m.kind then m.d2 else 0, if mgS m.kind then m.d3 else 0, mgS m.kind && m.has⟩
def noData (m : MsgV) : Bool := m.d0 == 0 && m.d1 == 0 && m.d2 == 0 && m.d3 == 0
def lim1 (p : Int) (E : Bool) (m : MsgV) : Bool := decide (p < 0) || !E || decide (m.core < 0) || decide (m.core ≥ 64) || decide (m.line < 0) || decide (m.line ≥ 32) || decide (m.word < 0) || decide (m.word ≥ 4)
def lim2 (m : MsgV) : Bool := decide (m.mode < 0) || decide (m.mode > 3) || decide (m.epoch < 0) || decide (m.epoch > 255) || decide (m.state < 0) || decide (m.state > 4)
theorem rightR_early {m : MsgV} (_h1 : mgS m.kind = true) (h2 : m.has = false) (h3 : noData m = false) : rightM m = false := by
  cases hr : rightM m with
  | false => rfl
  | true =>
    have h := ((rightM_iff m).1 hr).bare.data h2
    simp [noData, h.1, h.2.1, h.2.2.1, h.2.2.2] at h3
theorem rightR_parts (m : MsgV) (h : mgS m.kind = true → m.has = true ∨ noData m = true) : rightM m = (!lim1 (poolM m.kind) (eqM m (bareR m)) m && !lim2 m && granB m) := by
  rw [Bool.eq_iff_iff, rightM_iff]
  have hp : poolM m.kind < 0 ↔ ¬ (1 ≤ m.kind ∧ m.kind ≤ 15) := by
    unfold poolM
    (repeat' split) <;> omega
  have hb : m = bareR m ↔ m.Bare := by
    rw [← bareB_iff]
    obtain ⟨K, C, N, t, o, ep, wd, v, x, y, z, q, b⟩ := m
    simp only [bareR, bareB, MsgV.mk.injEq, true_and, noData] at h ⊢
    generalize mgW K = f1 at *
    generalize mgM K = f2 at *
    generalize mgE K = f3 at *
    generalize mgS K = f4 at *
    simp only [Bool.and_eq_true, beq_iff_eq] at h
    cases f1 <;> cases f2 <;> cases f3 <;> cases f4 <;> cases b <;> simp at h ⊢ <;> omega
  unfold lim1 lim2 granB
  simp only [Bool.and_eq_true, Bool.not_eq_true', Bool.or_eq_false_iff, Bool.not_eq_false', decide_eq_false_iff_not, eqM_iff, hb, hp, Bool.or_eq_true, bne_iff_ne, Decidable.not_not]
  constructor
  · intro h
    refine ⟨⟨⟨⟨⟨⟨⟨⟨⟨h.kind, h.bare⟩, by have := h.core; omega⟩, by have := h.core; omega⟩, by have := h.line; omega⟩, by have := h.line; omega⟩, by have := h.word; omega⟩, by have := h.word; omega⟩, ⟨⟨⟨⟨⟨by have := h.mode; omega, by have := h.mode; omega⟩, by have := h.epoch; omega⟩, by have := h.epoch; omega⟩, by have := h.state; omega⟩, by have := h.state; omega⟩⟩, ?_⟩
    by_cases h13 : m.kind = 13
    · exact .inr (h.gran h13)
    · exact .inl h13
  · rintro ⟨⟨⟨⟨⟨⟨⟨⟨⟨h1, h2⟩, h3⟩, h4⟩, h5⟩, h6⟩, h7⟩, h8⟩, ⟨⟨⟨⟨⟨k1, k2⟩, k3⟩, k4⟩, k5⟩, k6⟩⟩, hg⟩
    exact ⟨h1, by omega, by omega, h2, by omega, by omega, by omega, by omega, fun h => hg.resolve_left fun x => x h⟩
/-- The message and the one that it is compared with. -/
structure RRt (w : World) (h1 h3 : Nat) (m B : MsgV) (wx : World) : Prop where
  msg : wx.heap[h1]? = some (.cells #[.int .i64 m.kind, .int .i64 m.core, .int .i64 m.line, .int .i64 m.state, .int .i64 m.mode, .int .i64 m.epoch, .int .i64 m.word, .int .u32 m.val, .int .u32 m.d0, .int .u32 m.d1, .int .u32 m.d2, .int .u32 m.d3, .bool m.has] 32 (0, 0))
  bare : wx.heap[h3]? = some (.cells #[.int .i64 B.kind, .int .i64 B.core, .int .i64 B.line, .int .i64 B.state, .int .i64 B.mode, .int .i64 B.epoch, .int .i64 B.word, .int .u32 B.val, .int .u32 B.d0, .int .u32 B.d1, .int .u32 B.d2, .int .u32 B.d3, .bool B.has] 32 (0, 0))
  below : Below w.heap.size w wx
theorem RRt.set {w : World} {h1 h3 : Nat} {m B B' : MsgV} {wx wz : World} (h : RRt w h1 h3 m B wx) (hw : w.heap.size ≤ h3) (n1 : h1 ≠ h3) (hM : Mods (fun q => q = h3) wx wz) (hb : wz.heap[h3]? = some (.cells #[.int .i64 B'.kind, .int .i64 B'.core, .int .i64 B'.line, .int .i64 B'.state, .int .i64 B'.mode, .int .i64 B'.epoch, .int .i64 B'.word, .int .u32 B'.val, .int .u32 B'.d0, .int .u32 B'.d1, .int .u32 B'.d2, .int .u32 B'.d3, .bool B'.has] 32 (0, 0))) : RRt w h1 h3 m B' wz :=
  ⟨(hM.block h1 (Array.getElem?_eq_some_iff.1 h.msg).1 n1).trans h.msg, hb, h.below.trans (hM.below h.below.size fun k (hk : k = h3) => by omega)⟩
theorem set6 {w : World} {h : Nat} {T : TypeId} {c0 c1 c2 c3 c4 c5 c6 c7 c8 c9 c10 c11 c12 t b x y z q : Value} (hx : w.heap[h]? = some (.cells #[c0, c1, c2, c3, c4, c5, c6, c7, c8, c9, c10, c11, c12] T (0, 0))) : ((((((w.setCell ⟨h, 3, none⟩ t).setCell ⟨h, 12, none⟩ b).setCell ⟨h, 8, none⟩ x).setCell ⟨h, 9, none⟩ y).setCell ⟨h, 10, none⟩ z).setCell ⟨h, 11, none⟩ q).heap[h]? = some (.cells #[c0, c1, c2, t, c4, c5, c6, c7, x, y, z, q, b] T (0, 0)) := by
  have e0 : (w.setCell ⟨h, 3, none⟩ t).heap[h]? = some (.cells #[c0, c1, c2, t, c4, c5, c6, c7, c8, c9, c10, c11, c12] T (0, 0)) := (heap_setCell_at (k := 3) hx t).trans rfl
  have e1 : ((w.setCell ⟨h, 3, none⟩ t).setCell ⟨h, 12, none⟩ b).heap[h]? = some (.cells #[c0, c1, c2, t, c4, c5, c6, c7, c8, c9, c10, c11, b] T (0, 0)) := (heap_setCell_at (k := 12) e0 b).trans rfl
  have e2 : (((w.setCell ⟨h, 3, none⟩ t).setCell ⟨h, 12, none⟩ b).setCell ⟨h, 8, none⟩ x).heap[h]? = some (.cells #[c0, c1, c2, t, c4, c5, c6, c7, x, c9, c10, c11, b] T (0, 0)) := (heap_setCell_at (k := 8) e1 x).trans rfl
  have e3 : ((((w.setCell ⟨h, 3, none⟩ t).setCell ⟨h, 12, none⟩ b).setCell ⟨h, 8, none⟩ x).setCell ⟨h, 9, none⟩ y).heap[h]? = some (.cells #[c0, c1, c2, t, c4, c5, c6, c7, x, y, c10, c11, b] T (0, 0)) := (heap_setCell_at (k := 9) e2 y).trans rfl
  have e4 : (((((w.setCell ⟨h, 3, none⟩ t).setCell ⟨h, 12, none⟩ b).setCell ⟨h, 8, none⟩ x).setCell ⟨h, 9, none⟩ y).setCell ⟨h, 10, none⟩ z).heap[h]? = some (.cells #[c0, c1, c2, t, c4, c5, c6, c7, x, y, z, c11, b] T (0, 0)) := (heap_setCell_at (k := 10) e3 z).trans rfl
  have e5 : ((((((w.setCell ⟨h, 3, none⟩ t).setCell ⟨h, 12, none⟩ b).setCell ⟨h, 8, none⟩ x).setCell ⟨h, 9, none⟩ y).setCell ⟨h, 10, none⟩ z).setCell ⟨h, 11, none⟩ q).heap[h]? = some (.cells #[c0, c1, c2, t, c4, c5, c6, c7, x, y, z, q, b] T (0, 0)) := (heap_setCell_at (k := 11) e4 q).trans rfl
  exact e5
theorem heap_drew (w : World) : w.drew.heap = w.heap := rfl
theorem RRt.six {w : World} {h1 h3 : Nat} {m : MsgV} {K C N o ep wd v t0 x0 y0 z0 q0 : Int} {b0 : Bool} {wx : World} (h : RRt w h1 h3 m ⟨K, C, N, t0, o, ep, wd, v, x0, y0, z0, q0, b0⟩ wx) (hw : w.heap.size ≤ h3) (n1 : h1 ≠ h3) (t x y z q : Int) (b : Bool) :
    RRt w h1 h3 m ⟨K, C, N, t, o, ep, wd, v, x, y, z, q, b⟩ ((((((wx.setCell ⟨h3, 3, none⟩ (.int .i64 t)).setCell ⟨h3, 12, none⟩ (.bool b)).setCell ⟨h3, 8, none⟩ (.int .u32 x)).setCell ⟨h3, 9, none⟩ (.int .u32 y)).setCell ⟨h3, 10, none⟩ (.int .u32 z)).setCell ⟨h3, 11, none⟩ (.int .u32 q)).drew := by
  refine h.set hw n1 ((((((((Mods.refl (fun q => q = h3) wx).setCell (p := ⟨h3, 3, none⟩) rfl _).setCell (p := ⟨h3, 12, none⟩) rfl _).setCell (p := ⟨h3, 8, none⟩) rfl _).setCell (p := ⟨h3, 9, none⟩) rfl _).setCell (p := ⟨h3, 10, none⟩) rfl _).setCell (p := ⟨h3, 11, none⟩) rfl _).drew) ?_
  rw [heap_drew]
  exact set6 h.bare
set_option maxRecDepth 100000 in
set_option maxHeartbeats 4000000 in
theorem rright_c (m : MsgV) (w : World) : Calls Tryd.prog 36 #[m.v] w fun ev w' => ev = .returned (.bool (rightM m)) ∧ Below w.heap.size w w' := by
  obtain ⟨K, C, N, t, o, ep, wd, v, x, y, z, q, b⟩ := m
  simp only [MsgV.v]
  go_enter Tryd.func36, Tryd.ntmps36
  go_upto_region 2 with fail
  have HS0 := Lib.hid (show RRt w w.heap.size (w.heap.size + 1) ⟨K, C, N, t, o, ep, wd, v, x, y, z, q, b⟩ ⟨K, C, N, 0, 0, 0, 0, 0, 0, 0, 0, 0, false⟩ ((w.alloc (.cells #[.int .i64 K, .int .i64 C, .int .i64 N, .int .i64 t, .int .i64 o, .int .i64 ep, .int .i64 wd, .int .u32 v, .int .u32 x, .int .u32 y, .int .u32 z, .int .u32 q, .bool b] 32)).alloc (.cells #[.int .i64 K, .int .i64 C, .int .i64 N, .int .i64 0, .int .i64 0, .int .i64 0, .int .i64 0, .int .u32 0, .int .u32 0, .int .u32 0, .int .u32 0, .int .u32 0, .bool false] 32)) from by
    have hb1 : Below w.heap.size w (w.alloc (.cells #[.int .i64 K, .int .i64 C, .int .i64 N, .int .i64 t, .int .i64 o, .int .i64 ep, .int .i64 wd, .int .u32 v, .int .u32 x, .int .u32 y, .int .u32 z, .int .u32 q, .bool b] 32)) := (Below.refl _ _).alloc (Nat.le_refl _) _
    have hs1 : (w.alloc (.cells #[.int .i64 K, .int .i64 C, .int .i64 N, .int .i64 t, .int .i64 o, .int .i64 ep, .int .i64 wd, .int .u32 v, .int .u32 x, .int .u32 y, .int .u32 z, .int .u32 q, .bool b] 32)).heap.size = w.heap.size + 1 := by simp
    have hb2 : Below (w.alloc (.cells #[.int .i64 K, .int .i64 C, .int .i64 N, .int .i64 t, .int .i64 o, .int .i64 ep, .int .i64 wd, .int .u32 v, .int .u32 x, .int .u32 y, .int .u32 z, .int .u32 q, .bool b] 32)).heap.size (w.alloc (.cells #[.int .i64 K, .int .i64 C, .int .i64 N, .int .i64 t, .int .i64 o, .int .i64 ep, .int .i64 wd, .int .u32 v, .int .u32 x, .int .u32 y, .int .u32 z, .int .u32 q, .bool b] 32)) ((w.alloc (.cells #[.int .i64 K, .int .i64 C, .int .i64 N, .int .i64 t, .int .i64 o, .int .i64 ep, .int .i64 wd, .int .u32 v, .int .u32 x, .int .u32 y, .int .u32 z, .int .u32 q, .bool b] 32)).alloc (.cells #[.int .i64 K, .int .i64 C, .int .i64 N, .int .i64 0, .int .i64 0, .int .i64 0, .int .i64 0, .int .u32 0, .int .u32 0, .int .u32 0, .int .u32 0, .int .u32 0, .bool false] 32)) := (Below.refl _ _).alloc (Nat.le_refl _) _
    have hn := heap_alloc_new (w.alloc (.cells #[.int .i64 K, .int .i64 C, .int .i64 N, .int .i64 t, .int .i64 o, .int .i64 ep, .int .i64 wd, .int .u32 v, .int .u32 x, .int .u32 y, .int .u32 z, .int .u32 q, .bool b] 32)) (.cells #[.int .i64 K, .int .i64 C, .int .i64 N, .int .i64 0, .int .i64 0, .int .i64 0, .int .i64 0, .int .u32 0, .int .u32 0, .int .u32 0, .int .u32 0, .int .u32 0, .bool false] 32)
    rw [hs1] at hb2 hn
    exact ⟨(hb2.block w.heap.size (by omega)).trans (heap_alloc_new _ _), hn, hb1.trans (hb2.mono (by omega))⟩)
  have HLE := Lib.hid (show w.heap.size ≤ w.heap.size + 1 ∧ w.heap.size ≠ w.heap.size + 1 from ⟨by omega, by omega⟩)
  obtain ⟨h3, hh3⟩ : ∃ h, h = w.heap.size + 1 := ⟨_, rfl⟩
  rw [← hh3] at HS0 HLE ⊢
  clear hh3
  obtain ⟨h1, hh1⟩ : ∃ h, h = w.heap.size := ⟨_, rfl⟩
  have HS1 := Lib.hid (show RRt w h1 h3 ⟨K, C, N, t, o, ep, wd, v, x, y, z, q, b⟩ ⟨K, C, N, 0, 0, 0, 0, 0, 0, 0, 0, 0, false⟩ ((w.alloc (.cells #[.int .i64 K, .int .i64 C, .int .i64 N, .int .i64 t, .int .i64 o, .int .i64 ep, .int .i64 wd, .int .u32 v, .int .u32 x, .int .u32 y, .int .u32 z, .int .u32 q, .bool b] 32)).alloc (.cells #[.int .i64 K, .int .i64 C, .int .i64 N, .int .i64 0, .int .i64 0, .int .i64 0, .int .i64 0, .int .u32 0, .int .u32 0, .int .u32 0, .int .u32 0, .int .u32 0, .bool false] 32)) from by rw [hh1]; exact HS0.out)
  have HLE1 := Lib.hid (show w.heap.size ≤ h3 ∧ h1 ≠ h3 from by rw [hh1]; exact HLE.out)
  rw [← hh1]
  generalize (w.alloc (.cells #[.int .i64 K, .int .i64 C, .int .i64 N, .int .i64 t, .int .i64 o, .int .i64 ep, .int .i64 wd, .int .u32 v, .int .u32 x, .int .u32 y, .int .u32 z, .int .u32 q, .bool b] 32)).alloc (.cells #[.int .i64 K, .int .i64 C, .int .i64 N, .int .i64 0, .int .i64 0, .int .i64 0, .int .i64 0, .int .u32 0, .int .u32 0, .int .u32 0, .int .u32 0, .int .u32 0, .bool false] 32) = w3 at *
  clear hh1 HS0 HLE
  have HS0 := HS1
  have HLE := HLE1
  clear HS1 HLE1
  have hxq := HS0.out.msg
  have q0 := cell_of hxq 0
  have q1 := cell_of hxq 1
  have q2 := cell_of hxq 2
  have q3 := cell_of hxq 3
  have q4 := cell_of hxq 4
  have q5 := cell_of hxq 5
  have q6 := cell_of hxq 6
  have q7 := cell_of hxq 7
  have q8 := cell_of hxq 8
  have q9 := cell_of hxq 9
  have q10 := cell_of hxq 10
  have q11 := cell_of hxq 11
  have q12 := cell_of hxq 12
  simp only [List.getElem?_toArray, List.getElem?_cons_zero, List.getElem?_cons_succ] at q0 q1 q2 q3 q4 q5 q6 q7 q8 q9 q10 q11 q12
  have hlq := (Array.getElem?_eq_some_iff.1 hxq).1
  go_upto_block 0 with fail
  clear hxq hlq q0 q1 q2 q3 q4 q5 q6 q7 q8 q9 q10 q11 q12
  go_cut [13] from 14 to 60 (fun _ wx => (mgS K = true → b = true ∨ noData ⟨K, C, N, t, o, ep, wd, v, x, y, z, q, b⟩ = true) ∧ RRt w h1 h3 ⟨K, C, N, t, o, ep, wd, v, x, y, z, q, b⟩ (bareR ⟨K, C, N, t, o, ep, wd, v, x, y, z, q, b⟩) wx)
  case first =>
    by_cases kh13 : K = 13
    · subst kh13
      have hxq := HS0.out.msg
      have q0 := cell_of hxq 0
      have q1 := cell_of hxq 1
      have q2 := cell_of hxq 2
      have q3 := cell_of hxq 3
      have q4 := cell_of hxq 4
      have q5 := cell_of hxq 5
      have q6 := cell_of hxq 6
      have q7 := cell_of hxq 7
      have q8 := cell_of hxq 8
      have q9 := cell_of hxq 9
      have q10 := cell_of hxq 10
      have q11 := cell_of hxq 11
      have q12 := cell_of hxq 12
      simp only [List.getElem?_toArray, List.getElem?_cons_zero, List.getElem?_cons_succ] at q0 q1 q2 q3 q4 q5 q6 q7 q8 q9 q10 q11 q12
      have hlq := (Array.getElem?_eq_some_iff.1 hxq).1
      have hxc := HS0.out.bare
      have c0 := cell_of hxc 0
      have c1 := cell_of hxc 1
      have c2 := cell_of hxc 2
      have c3 := cell_of hxc 3
      have c4 := cell_of hxc 4
      have c5 := cell_of hxc 5
      have c6 := cell_of hxc 6
      have c7 := cell_of hxc 7
      have c8 := cell_of hxc 8
      have c9 := cell_of hxc 9
      have c10 := cell_of hxc 10
      have c11 := cell_of hxc 11
      have c12 := cell_of hxc 12
      simp only [List.getElem?_toArray, List.getElem?_cons_zero, List.getElem?_cons_succ] at c0 c1 c2 c3 c4 c5 c6 c7 c8 c9 c10 c11 c12
      have hlc := (Array.getElem?_eq_some_iff.1 hxc).1
      have zc4 := frozen_of hxc 4
      have zc5 := frozen_of hxc 5
      go_upto_region 10 with fail
      go_region
      go_upto_region 11 with fail
      have HT0 := Lib.hid (show RRt w h1 h3 ⟨13, C, N, t, o, ep, wd, v, x, y, z, q, b⟩ ⟨13, C, N, 0, o, ep, 0, 0, 0, 0, 0, 0, false⟩ ((w3.setCell ⟨h3, 4, none⟩ (.int .i64 o)).setCell ⟨h3, 5, none⟩ (.int .i64 ep)).drew from HS0.out.set HLE.out.1 HLE.out.2 ((((Mods.refl (fun q => q = h3) w3).setCell (p := ⟨h3, 4, none⟩) rfl _).setCell (p := ⟨h3, 5, none⟩) rfl _).drew) ((heap_setCell_at (k := 5) ((heap_setCell_at (k := 4) (HS0.out.bare) _).trans rfl) _).trans rfl))
      clear hxq hlq q0 q1 q2 q3 q4 q5 q6 q7 q8 q9 q10 q11 q12
      clear hxc hlc c0 c1 c2 c3 c4 c5 c6 c7 c8 c9 c10 c11 c12 zc4 zc5
      generalize ((w3.setCell ⟨h3, 4, none⟩ (.int .i64 o)).setCell ⟨h3, 5, none⟩ (.int .i64 ep)).drew = v0 at *
      have hxq := HT0.out.msg
      have q0 := cell_of hxq 0
      have q1 := cell_of hxq 1
      have q2 := cell_of hxq 2
      have q3 := cell_of hxq 3
      have q4 := cell_of hxq 4
      have q5 := cell_of hxq 5
      have q6 := cell_of hxq 6
      have q7 := cell_of hxq 7
      have q8 := cell_of hxq 8
      have q9 := cell_of hxq 9
      have q10 := cell_of hxq 10
      have q11 := cell_of hxq 11
      have q12 := cell_of hxq 12
      simp only [List.getElem?_toArray, List.getElem?_cons_zero, List.getElem?_cons_succ] at q0 q1 q2 q3 q4 q5 q6 q7 q8 q9 q10 q11 q12
      have hlq := (Array.getElem?_eq_some_iff.1 hxq).1
      have hxc := HT0.out.bare
      have c0 := cell_of hxc 0
      have c1 := cell_of hxc 1
      have c2 := cell_of hxc 2
      have c3 := cell_of hxc 3
      have c4 := cell_of hxc 4
      have c5 := cell_of hxc 5
      have c6 := cell_of hxc 6
      have c7 := cell_of hxc 7
      have c8 := cell_of hxc 8
      have c9 := cell_of hxc 9
      have c10 := cell_of hxc 10
      have c11 := cell_of hxc 11
      have c12 := cell_of hxc 12
      simp only [List.getElem?_toArray, List.getElem?_cons_zero, List.getElem?_cons_succ] at c0 c1 c2 c3 c4 c5 c6 c7 c8 c9 c10 c11 c12
      have hlc := (Array.getElem?_eq_some_iff.1 hxc).1
      have zc3 := frozen_of hxc 3
      have zc12 := frozen_of hxc 12
      have zc8 := frozen_of hxc 8
      have zc9 := frozen_of hxc 9
      have zc10 := frozen_of hxc 10
      have zc11 := frozen_of hxc 11
      go_upto_region 11 with fail
      go_region
      go_upto_region 12 with fail
      have HT1 := Lib.hid (HT0.out.six HLE.out.1 HLE.out.2 t x y z q b)
      clear hxq hlq q0 q1 q2 q3 q4 q5 q6 q7 q8 q9 q10 q11 q12
      clear hxc hlc c0 c1 c2 c3 c4 c5 c6 c7 c8 c9 c10 c11 c12 zc3 zc12 zc8 zc9 zc10 zc11
      generalize ((((((v0.setCell ⟨h3, 3, none⟩ (.int .i64 t)).setCell ⟨h3, 12, none⟩ (.bool b)).setCell ⟨h3, 8, none⟩ (.int .u32 x)).setCell ⟨h3, 9, none⟩ (.int .u32 y)).setCell ⟨h3, 10, none⟩ (.int .u32 z)).setCell ⟨h3, 11, none⟩ (.int .u32 q)).drew = v1 at *
      have heq := fun w => run_eqLine x y z q 0 0 0 0 9998 w
      cases b with
      | true =>
        have hxq := HT1.out.msg
        have q0 := cell_of hxq 0
        have q1 := cell_of hxq 1
        have q2 := cell_of hxq 2
        have q3 := cell_of hxq 3
        have q4 := cell_of hxq 4
        have q5 := cell_of hxq 5
        have q6 := cell_of hxq 6
        have q7 := cell_of hxq 7
        have q8 := cell_of hxq 8
        have q9 := cell_of hxq 9
        have q10 := cell_of hxq 10
        have q11 := cell_of hxq 11
        have q12 := cell_of hxq 12
        simp only [List.getElem?_toArray, List.getElem?_cons_zero, List.getElem?_cons_succ] at q0 q1 q2 q3 q4 q5 q6 q7 q8 q9 q10 q11 q12
        have hlq := (Array.getElem?_eq_some_iff.1 hxq).1
        go_wp2_with fail
        go_meet
        case rel => exact ⟨fun _ => by first | exact .inl rfl | exact .inl trivial, HT1.out⟩
      | false =>
        obtain ⟨D, hD⟩ : ∃ D, (x == 0 && y == 0 && z == 0 && q == 0) = D := ⟨_, rfl⟩
        rw [hD] at heq
        have HND := Lib.hid (show noData ⟨13, C, N, t, o, ep, wd, v, x, y, z, q, false⟩ = D from hD)
        clear hD
        cases D with
        | true =>
          have hxq := HT1.out.msg
          have q0 := cell_of hxq 0
          have q1 := cell_of hxq 1
          have q2 := cell_of hxq 2
          have q3 := cell_of hxq 3
          have q4 := cell_of hxq 4
          have q5 := cell_of hxq 5
          have q6 := cell_of hxq 6
          have q7 := cell_of hxq 7
          have q8 := cell_of hxq 8
          have q9 := cell_of hxq 9
          have q10 := cell_of hxq 10
          have q11 := cell_of hxq 11
          have q12 := cell_of hxq 12
          simp only [List.getElem?_toArray, List.getElem?_cons_zero, List.getElem?_cons_succ] at q0 q1 q2 q3 q4 q5 q6 q7 q8 q9 q10 q11 q12
          have hlq := (Array.getElem?_eq_some_iff.1 hxq).1
          go_wp2_with fail
          go_meet
          case rel => exact ⟨fun _ => .inr HND.out, HT1.out⟩
        | false =>
          have hxq := HT1.out.msg
          have q0 := cell_of hxq 0
          have q1 := cell_of hxq 1
          have q2 := cell_of hxq 2
          have q3 := cell_of hxq 3
          have q4 := cell_of hxq 4
          have q5 := cell_of hxq 5
          have q6 := cell_of hxq 6
          have q7 := cell_of hxq 7
          have q8 := cell_of hxq 8
          have q9 := cell_of hxq 9
          have q10 := cell_of hxq 10
          have q11 := cell_of hxq 11
          have q12 := cell_of hxq 12
          simp only [List.getElem?_toArray, List.getElem?_cons_zero, List.getElem?_cons_succ] at q0 q1 q2 q3 q4 q5 q6 q7 q8 q9 q10 q11 q12
          have hlq := (Array.getElem?_eq_some_iff.1 hxq).1
          have HNE := Lib.hid (rightR_early (m := ⟨13, C, N, t, o, ep, wd, v, x, y, z, q, false⟩) rfl rfl HND.out)
          go_wp2_with fail
          go_ret
          exact ⟨by rw [HNE.out]; rfl, HT1.out.below⟩
    have kg13 : (K == 13) = false := by simpa using kh13
    by_cases kh11 : K = 11
    · subst kh11
      have hxq := HS0.out.msg
      have q0 := cell_of hxq 0
      have q1 := cell_of hxq 1
      have q2 := cell_of hxq 2
      have q3 := cell_of hxq 3
      have q4 := cell_of hxq 4
      have q5 := cell_of hxq 5
      have q6 := cell_of hxq 6
      have q7 := cell_of hxq 7
      have q8 := cell_of hxq 8
      have q9 := cell_of hxq 9
      have q10 := cell_of hxq 10
      have q11 := cell_of hxq 11
      have q12 := cell_of hxq 12
      simp only [List.getElem?_toArray, List.getElem?_cons_zero, List.getElem?_cons_succ] at q0 q1 q2 q3 q4 q5 q6 q7 q8 q9 q10 q11 q12
      have hlq := (Array.getElem?_eq_some_iff.1 hxq).1
      have hxc := HS0.out.bare
      have c0 := cell_of hxc 0
      have c1 := cell_of hxc 1
      have c2 := cell_of hxc 2
      have c3 := cell_of hxc 3
      have c4 := cell_of hxc 4
      have c5 := cell_of hxc 5
      have c6 := cell_of hxc 6
      have c7 := cell_of hxc 7
      have c8 := cell_of hxc 8
      have c9 := cell_of hxc 9
      have c10 := cell_of hxc 10
      have c11 := cell_of hxc 11
      have c12 := cell_of hxc 12
      simp only [List.getElem?_toArray, List.getElem?_cons_zero, List.getElem?_cons_succ] at c0 c1 c2 c3 c4 c5 c6 c7 c8 c9 c10 c11 c12
      have hlc := (Array.getElem?_eq_some_iff.1 hxc).1
      have zc3 := frozen_of hxc 3
      have zc12 := frozen_of hxc 12
      have zc8 := frozen_of hxc 8
      have zc9 := frozen_of hxc 9
      have zc10 := frozen_of hxc 10
      have zc11 := frozen_of hxc 11
      go_upto_region 11 with fail
      go_region
      go_upto_region 12 with fail
      have HT0 := Lib.hid (HS0.out.six HLE.out.1 HLE.out.2 t x y z q b)
      clear hxq hlq q0 q1 q2 q3 q4 q5 q6 q7 q8 q9 q10 q11 q12
      clear hxc hlc c0 c1 c2 c3 c4 c5 c6 c7 c8 c9 c10 c11 c12 zc3 zc12 zc8 zc9 zc10 zc11
      generalize ((((((w3.setCell ⟨h3, 3, none⟩ (.int .i64 t)).setCell ⟨h3, 12, none⟩ (.bool b)).setCell ⟨h3, 8, none⟩ (.int .u32 x)).setCell ⟨h3, 9, none⟩ (.int .u32 y)).setCell ⟨h3, 10, none⟩ (.int .u32 z)).setCell ⟨h3, 11, none⟩ (.int .u32 q)).drew = v0 at *
      have heq := fun w => run_eqLine x y z q 0 0 0 0 9998 w
      cases b with
      | true =>
        have hxq := HT0.out.msg
        have q0 := cell_of hxq 0
        have q1 := cell_of hxq 1
        have q2 := cell_of hxq 2
        have q3 := cell_of hxq 3
        have q4 := cell_of hxq 4
        have q5 := cell_of hxq 5
        have q6 := cell_of hxq 6
        have q7 := cell_of hxq 7
        have q8 := cell_of hxq 8
        have q9 := cell_of hxq 9
        have q10 := cell_of hxq 10
        have q11 := cell_of hxq 11
        have q12 := cell_of hxq 12
        simp only [List.getElem?_toArray, List.getElem?_cons_zero, List.getElem?_cons_succ] at q0 q1 q2 q3 q4 q5 q6 q7 q8 q9 q10 q11 q12
        have hlq := (Array.getElem?_eq_some_iff.1 hxq).1
        go_wp2_with fail
        go_meet
        case rel => exact ⟨fun _ => by first | exact .inl rfl | exact .inl trivial, HT0.out⟩
      | false =>
        obtain ⟨D, hD⟩ : ∃ D, (x == 0 && y == 0 && z == 0 && q == 0) = D := ⟨_, rfl⟩
        rw [hD] at heq
        have HND := Lib.hid (show noData ⟨11, C, N, t, o, ep, wd, v, x, y, z, q, false⟩ = D from hD)
        clear hD
        cases D with
        | true =>
          have hxq := HT0.out.msg
          have q0 := cell_of hxq 0
          have q1 := cell_of hxq 1
          have q2 := cell_of hxq 2
          have q3 := cell_of hxq 3
          have q4 := cell_of hxq 4
          have q5 := cell_of hxq 5
          have q6 := cell_of hxq 6
          have q7 := cell_of hxq 7
          have q8 := cell_of hxq 8
          have q9 := cell_of hxq 9
          have q10 := cell_of hxq 10
          have q11 := cell_of hxq 11
          have q12 := cell_of hxq 12
          simp only [List.getElem?_toArray, List.getElem?_cons_zero, List.getElem?_cons_succ] at q0 q1 q2 q3 q4 q5 q6 q7 q8 q9 q10 q11 q12
          have hlq := (Array.getElem?_eq_some_iff.1 hxq).1
          go_wp2_with fail
          go_meet
          case rel => exact ⟨fun _ => .inr HND.out, HT0.out⟩
        | false =>
          have hxq := HT0.out.msg
          have q0 := cell_of hxq 0
          have q1 := cell_of hxq 1
          have q2 := cell_of hxq 2
          have q3 := cell_of hxq 3
          have q4 := cell_of hxq 4
          have q5 := cell_of hxq 5
          have q6 := cell_of hxq 6
          have q7 := cell_of hxq 7
          have q8 := cell_of hxq 8
          have q9 := cell_of hxq 9
          have q10 := cell_of hxq 10
          have q11 := cell_of hxq 11
          have q12 := cell_of hxq 12
          simp only [List.getElem?_toArray, List.getElem?_cons_zero, List.getElem?_cons_succ] at q0 q1 q2 q3 q4 q5 q6 q7 q8 q9 q10 q11 q12
          have hlq := (Array.getElem?_eq_some_iff.1 hxq).1
          have HNE := Lib.hid (rightR_early (m := ⟨11, C, N, t, o, ep, wd, v, x, y, z, q, false⟩) rfl rfl HND.out)
          go_wp2_with fail
          go_ret
          exact ⟨by rw [HNE.out]; rfl, HT0.out.below⟩
    have kg11 : (K == 11) = false := by simpa using kh11
    by_cases kh9 : K = 9
    · subst kh9
      have hxq := HS0.out.msg
      have q0 := cell_of hxq 0
      have q1 := cell_of hxq 1
      have q2 := cell_of hxq 2
      have q3 := cell_of hxq 3
      have q4 := cell_of hxq 4
      have q5 := cell_of hxq 5
      have q6 := cell_of hxq 6
      have q7 := cell_of hxq 7
      have q8 := cell_of hxq 8
      have q9 := cell_of hxq 9
      have q10 := cell_of hxq 10
      have q11 := cell_of hxq 11
      have q12 := cell_of hxq 12
      simp only [List.getElem?_toArray, List.getElem?_cons_zero, List.getElem?_cons_succ] at q0 q1 q2 q3 q4 q5 q6 q7 q8 q9 q10 q11 q12
      have hlq := (Array.getElem?_eq_some_iff.1 hxq).1
      have hxc := HS0.out.bare
      have c0 := cell_of hxc 0
      have c1 := cell_of hxc 1
      have c2 := cell_of hxc 2
      have c3 := cell_of hxc 3
      have c4 := cell_of hxc 4
      have c5 := cell_of hxc 5
      have c6 := cell_of hxc 6
      have c7 := cell_of hxc 7
      have c8 := cell_of hxc 8
      have c9 := cell_of hxc 9
      have c10 := cell_of hxc 10
      have c11 := cell_of hxc 11
      have c12 := cell_of hxc 12
      simp only [List.getElem?_toArray, List.getElem?_cons_zero, List.getElem?_cons_succ] at c0 c1 c2 c3 c4 c5 c6 c7 c8 c9 c10 c11 c12
      have hlc := (Array.getElem?_eq_some_iff.1 hxc).1
      have zc5 := frozen_of hxc 5
      go_upto_region 15 with fail
      have HT0 := Lib.hid (show RRt w h1 h3 ⟨9, C, N, t, o, ep, wd, v, x, y, z, q, b⟩ ⟨9, C, N, 0, 0, ep, 0, 0, 0, 0, 0, 0, false⟩ (w3.setCell ⟨h3, 5, none⟩ (.int .i64 ep)) from HS0.out.set HLE.out.1 HLE.out.2 ((Mods.refl (fun q => q = h3) w3).setCell (p := ⟨h3, 5, none⟩) rfl _) ((heap_setCell_at (k := 5) (HS0.out.bare) _).trans rfl))
      clear hxq hlq q0 q1 q2 q3 q4 q5 q6 q7 q8 q9 q10 q11 q12
      clear hxc hlc c0 c1 c2 c3 c4 c5 c6 c7 c8 c9 c10 c11 c12 zc5
      generalize (w3.setCell ⟨h3, 5, none⟩ (.int .i64 ep)) = v0 at *
      have hxq := HT0.out.msg
      have q0 := cell_of hxq 0
      have q1 := cell_of hxq 1
      have q2 := cell_of hxq 2
      have q3 := cell_of hxq 3
      have q4 := cell_of hxq 4
      have q5 := cell_of hxq 5
      have q6 := cell_of hxq 6
      have q7 := cell_of hxq 7
      have q8 := cell_of hxq 8
      have q9 := cell_of hxq 9
      have q10 := cell_of hxq 10
      have q11 := cell_of hxq 11
      have q12 := cell_of hxq 12
      simp only [List.getElem?_toArray, List.getElem?_cons_zero, List.getElem?_cons_succ] at q0 q1 q2 q3 q4 q5 q6 q7 q8 q9 q10 q11 q12
      have hlq := (Array.getElem?_eq_some_iff.1 hxq).1
      have hxc := HT0.out.bare
      have c0 := cell_of hxc 0
      have c1 := cell_of hxc 1
      have c2 := cell_of hxc 2
      have c3 := cell_of hxc 3
      have c4 := cell_of hxc 4
      have c5 := cell_of hxc 5
      have c6 := cell_of hxc 6
      have c7 := cell_of hxc 7
      have c8 := cell_of hxc 8
      have c9 := cell_of hxc 9
      have c10 := cell_of hxc 10
      have c11 := cell_of hxc 11
      have c12 := cell_of hxc 12
      simp only [List.getElem?_toArray, List.getElem?_cons_zero, List.getElem?_cons_succ] at c0 c1 c2 c3 c4 c5 c6 c7 c8 c9 c10 c11 c12
      have hlc := (Array.getElem?_eq_some_iff.1 hxc).1
      have zc4 := frozen_of hxc 4
      go_wp2_with fail
      go_meet
      case rel => exact ⟨fun h => (by cases h), HT0.out.set (B' := ⟨9, C, N, 0, o, ep, 0, 0, 0, 0, 0, 0, false⟩) HLE.out.1 HLE.out.2 ((Mods.refl (fun q => q = h3) v0).setCell (p := ⟨h3, 4, none⟩) rfl _) ((heap_setCell_at (k := 4) (HT0.out.bare) _).trans rfl)⟩
    have kg9 : (K == 9) = false := by simpa using kh9
    by_cases kh5 : K = 5
    · subst kh5
      have hxq := HS0.out.msg
      have q0 := cell_of hxq 0
      have q1 := cell_of hxq 1
      have q2 := cell_of hxq 2
      have q3 := cell_of hxq 3
      have q4 := cell_of hxq 4
      have q5 := cell_of hxq 5
      have q6 := cell_of hxq 6
      have q7 := cell_of hxq 7
      have q8 := cell_of hxq 8
      have q9 := cell_of hxq 9
      have q10 := cell_of hxq 10
      have q11 := cell_of hxq 11
      have q12 := cell_of hxq 12
      simp only [List.getElem?_toArray, List.getElem?_cons_zero, List.getElem?_cons_succ] at q0 q1 q2 q3 q4 q5 q6 q7 q8 q9 q10 q11 q12
      have hlq := (Array.getElem?_eq_some_iff.1 hxq).1
      have hxc := HS0.out.bare
      have c0 := cell_of hxc 0
      have c1 := cell_of hxc 1
      have c2 := cell_of hxc 2
      have c3 := cell_of hxc 3
      have c4 := cell_of hxc 4
      have c5 := cell_of hxc 5
      have c6 := cell_of hxc 6
      have c7 := cell_of hxc 7
      have c8 := cell_of hxc 8
      have c9 := cell_of hxc 9
      have c10 := cell_of hxc 10
      have c11 := cell_of hxc 11
      have c12 := cell_of hxc 12
      simp only [List.getElem?_toArray, List.getElem?_cons_zero, List.getElem?_cons_succ] at c0 c1 c2 c3 c4 c5 c6 c7 c8 c9 c10 c11 c12
      have hlc := (Array.getElem?_eq_some_iff.1 hxc).1
      have zc4 := frozen_of hxc 4
      go_wp2_with fail
      go_meet
      case rel => exact ⟨fun h => (by cases h), HS0.out.set (B' := ⟨5, C, N, 0, o, 0, 0, 0, 0, 0, 0, 0, false⟩) HLE.out.1 HLE.out.2 ((Mods.refl (fun q => q = h3) w3).setCell (p := ⟨h3, 4, none⟩) rfl _) ((heap_setCell_at (k := 4) (HS0.out.bare) _).trans rfl)⟩
    have kg5 : (K == 5) = false := by simpa using kh5
    by_cases kh3 : K = 3
    · subst kh3
      have hxq := HS0.out.msg
      have q0 := cell_of hxq 0
      have q1 := cell_of hxq 1
      have q2 := cell_of hxq 2
      have q3 := cell_of hxq 3
      have q4 := cell_of hxq 4
      have q5 := cell_of hxq 5
      have q6 := cell_of hxq 6
      have q7 := cell_of hxq 7
      have q8 := cell_of hxq 8
      have q9 := cell_of hxq 9
      have q10 := cell_of hxq 10
      have q11 := cell_of hxq 11
      have q12 := cell_of hxq 12
      simp only [List.getElem?_toArray, List.getElem?_cons_zero, List.getElem?_cons_succ] at q0 q1 q2 q3 q4 q5 q6 q7 q8 q9 q10 q11 q12
      have hlq := (Array.getElem?_eq_some_iff.1 hxq).1
      have hxc := HS0.out.bare
      have c0 := cell_of hxc 0
      have c1 := cell_of hxc 1
      have c2 := cell_of hxc 2
      have c3 := cell_of hxc 3
      have c4 := cell_of hxc 4
      have c5 := cell_of hxc 5
      have c6 := cell_of hxc 6
      have c7 := cell_of hxc 7
      have c8 := cell_of hxc 8
      have c9 := cell_of hxc 9
      have c10 := cell_of hxc 10
      have c11 := cell_of hxc 11
      have c12 := cell_of hxc 12
      simp only [List.getElem?_toArray, List.getElem?_cons_zero, List.getElem?_cons_succ] at c0 c1 c2 c3 c4 c5 c6 c7 c8 c9 c10 c11 c12
      have hlc := (Array.getElem?_eq_some_iff.1 hxc).1
      have zc6 := frozen_of hxc 6
      have zc7 := frozen_of hxc 7
      go_upto_region 16 with fail
      go_region
      go_wp2_with fail
      go_meet
      case rel => exact ⟨fun h => (by cases h), HS0.out.set (B' := ⟨3, C, N, 0, 0, 0, wd, v, 0, 0, 0, 0, false⟩) HLE.out.1 HLE.out.2 ((((Mods.refl (fun q => q = h3) w3).setCell (p := ⟨h3, 6, none⟩) rfl _).setCell (p := ⟨h3, 7, none⟩) rfl _).drew) ((heap_setCell_at (k := 7) ((heap_setCell_at (k := 6) (HS0.out.bare) _).trans rfl) _).trans rfl)⟩
    have kg3 : (K == 3) = false := by simpa using kh3
    by_cases kh8 : K = 8
    · subst kh8
      have hxq := HS0.out.msg
      have q0 := cell_of hxq 0
      have q1 := cell_of hxq 1
      have q2 := cell_of hxq 2
      have q3 := cell_of hxq 3
      have q4 := cell_of hxq 4
      have q5 := cell_of hxq 5
      have q6 := cell_of hxq 6
      have q7 := cell_of hxq 7
      have q8 := cell_of hxq 8
      have q9 := cell_of hxq 9
      have q10 := cell_of hxq 10
      have q11 := cell_of hxq 11
      have q12 := cell_of hxq 12
      simp only [List.getElem?_toArray, List.getElem?_cons_zero, List.getElem?_cons_succ] at q0 q1 q2 q3 q4 q5 q6 q7 q8 q9 q10 q11 q12
      have hlq := (Array.getElem?_eq_some_iff.1 hxq).1
      have hxc := HS0.out.bare
      have c0 := cell_of hxc 0
      have c1 := cell_of hxc 1
      have c2 := cell_of hxc 2
      have c3 := cell_of hxc 3
      have c4 := cell_of hxc 4
      have c5 := cell_of hxc 5
      have c6 := cell_of hxc 6
      have c7 := cell_of hxc 7
      have c8 := cell_of hxc 8
      have c9 := cell_of hxc 9
      have c10 := cell_of hxc 10
      have c11 := cell_of hxc 11
      have c12 := cell_of hxc 12
      simp only [List.getElem?_toArray, List.getElem?_cons_zero, List.getElem?_cons_succ] at c0 c1 c2 c3 c4 c5 c6 c7 c8 c9 c10 c11 c12
      have hlc := (Array.getElem?_eq_some_iff.1 hxc).1
      have zc6 := frozen_of hxc 6
      have zc7 := frozen_of hxc 7
      go_upto_region 16 with fail
      go_region
      go_wp2_with fail
      go_meet
      case rel => exact ⟨fun h => (by cases h), HS0.out.set (B' := ⟨8, C, N, 0, 0, 0, wd, v, 0, 0, 0, 0, false⟩) HLE.out.1 HLE.out.2 ((((Mods.refl (fun q => q = h3) w3).setCell (p := ⟨h3, 6, none⟩) rfl _).setCell (p := ⟨h3, 7, none⟩) rfl _).drew) ((heap_setCell_at (k := 7) ((heap_setCell_at (k := 6) (HS0.out.bare) _).trans rfl) _).trans rfl)⟩
    have kg8 : (K == 8) = false := by simpa using kh8
    by_cases kh14 : K = 14
    · subst kh14
      have hxq := HS0.out.msg
      have q0 := cell_of hxq 0
      have q1 := cell_of hxq 1
      have q2 := cell_of hxq 2
      have q3 := cell_of hxq 3
      have q4 := cell_of hxq 4
      have q5 := cell_of hxq 5
      have q6 := cell_of hxq 6
      have q7 := cell_of hxq 7
      have q8 := cell_of hxq 8
      have q9 := cell_of hxq 9
      have q10 := cell_of hxq 10
      have q11 := cell_of hxq 11
      have q12 := cell_of hxq 12
      simp only [List.getElem?_toArray, List.getElem?_cons_zero, List.getElem?_cons_succ] at q0 q1 q2 q3 q4 q5 q6 q7 q8 q9 q10 q11 q12
      have hlq := (Array.getElem?_eq_some_iff.1 hxq).1
      have hxc := HS0.out.bare
      have c0 := cell_of hxc 0
      have c1 := cell_of hxc 1
      have c2 := cell_of hxc 2
      have c3 := cell_of hxc 3
      have c4 := cell_of hxc 4
      have c5 := cell_of hxc 5
      have c6 := cell_of hxc 6
      have c7 := cell_of hxc 7
      have c8 := cell_of hxc 8
      have c9 := cell_of hxc 9
      have c10 := cell_of hxc 10
      have c11 := cell_of hxc 11
      have c12 := cell_of hxc 12
      simp only [List.getElem?_toArray, List.getElem?_cons_zero, List.getElem?_cons_succ] at c0 c1 c2 c3 c4 c5 c6 c7 c8 c9 c10 c11 c12
      have hlc := (Array.getElem?_eq_some_iff.1 hxc).1
      have zc6 := frozen_of hxc 6
      have zc7 := frozen_of hxc 7
      go_upto_region 16 with fail
      go_region
      go_wp2_with fail
      go_meet
      case rel => exact ⟨fun h => (by cases h), HS0.out.set (B' := ⟨14, C, N, 0, 0, 0, wd, v, 0, 0, 0, 0, false⟩) HLE.out.1 HLE.out.2 ((((Mods.refl (fun q => q = h3) w3).setCell (p := ⟨h3, 6, none⟩) rfl _).setCell (p := ⟨h3, 7, none⟩) rfl _).drew) ((heap_setCell_at (k := 7) ((heap_setCell_at (k := 6) (HS0.out.bare) _).trans rfl) _).trans rfl)⟩
    have kg14 : (K == 14) = false := by simpa using kh14
    have HCL := Lib.hid (show mgW K = false ∧ mgM K = false ∧ mgE K = false ∧ mgS K = false by
      refine ⟨?_, ?_, ?_, ?_⟩ <;> simp [mgW, mgM, mgE, mgS] <;> omega)
    clear kh13 kh11 kh9 kh5 kh3 kh8 kh14
    go_wp2_with fail
    go_meet
    case rel => exact ⟨fun h => (by rw [HCL.out.2.2.2] at h; cases h), by rw [show bareR ⟨K, C, N, t, o, ep, wd, v, x, y, z, q, b⟩ = ⟨K, C, N, 0, 0, 0, 0, 0, 0, 0, 0, 0, false⟩ by simp [bareR, HCL.out]]; exact HS0.out⟩
  case rest =>
    obtain ⟨hnd, hS⟩ := hcut
    have HRP := Lib.hid (rightR_parts ⟨K, C, N, t, o, ep, wd, v, x, y, z, q, b⟩ hnd)
    have HBR := Lib.hid (show ∃ a3 a4 a5 a6 a7 a8 a9 a10 a11 a12, bareR ⟨K, C, N, t, o, ep, wd, v, x, y, z, q, b⟩ = ⟨K, C, N, a3, a4, a5, a6, a7, a8, a9, a10, a11, a12⟩ from ⟨_, _, _, _, _, _, _, _, _, _, rfl⟩)
    obtain ⟨a3, a4, a5, a6, a7, a8, a9, a10, a11, a12, hbr⟩ := HBR.out
    rw [hbr] at hS HRP
    have HS2 := Lib.hid hS
    clear hnd hS HS0 HBR hbr
    generalize wc = w4 at *
    have heq := fun w => run_eqMs K C N t o ep wd v x y z q K C N a3 a4 a5 a6 a7 a8 a9 a10 a11 b a12 w
    simp only at HRP
    generalize eqM ⟨K, C, N, t, o, ep, wd, v, x, y, z, q, b⟩ ⟨K, C, N, a3, a4, a5, a6, a7, a8, a9, a10, a11, a12⟩ = E at *
    obtain ⟨p, hp⟩ : ∃ p, poolM K = p := ⟨_, rfl⟩
    rw [hp] at HRP
    have HP := Lib.hid hp
    obtain ⟨X, hX⟩ : ∃ X, lim1 p E ⟨K, C, N, t, o, ep, wd, v, x, y, z, q, b⟩ = X := ⟨_, rfl⟩
    obtain ⟨Y, hY⟩ : ∃ Y, lim2 ⟨K, C, N, t, o, ep, wd, v, x, y, z, q, b⟩ = Y := ⟨_, rfl⟩
    obtain ⟨G, hG⟩ : ∃ G, granB ⟨K, C, N, t, o, ep, wd, v, x, y, z, q, b⟩ = G := ⟨_, rfl⟩
    have HX := Lib.hid hX
    have HY := Lib.hid hY
    have HG := Lib.hid hG
    clear hp hX hY hG
    go_upto_region 17 with fail
    go_cut [99] from 61 to 98 (fun s wx => s = .bool X ∧ RRt w h1 h3 ⟨K, C, N, t, o, ep, wd, v, x, y, z, q, b⟩ ⟨K, C, N, a3, a4, a5, a6, a7, a8, a9, a10, a11, a12⟩ wx)
    case first =>
      have hxq := HS2.out.msg
      have q0 := cell_of hxq 0
      have q1 := cell_of hxq 1
      have q2 := cell_of hxq 2
      have q3 := cell_of hxq 3
      have q4 := cell_of hxq 4
      have q5 := cell_of hxq 5
      have q6 := cell_of hxq 6
      have q7 := cell_of hxq 7
      have q8 := cell_of hxq 8
      have q9 := cell_of hxq 9
      have q10 := cell_of hxq 10
      have q11 := cell_of hxq 11
      have q12 := cell_of hxq 12
      simp only [List.getElem?_toArray, List.getElem?_cons_zero, List.getElem?_cons_succ] at q0 q1 q2 q3 q4 q5 q6 q7 q8 q9 q10 q11 q12
      have hlq := (Array.getElem?_eq_some_iff.1 hxq).1
      have hxc := HS2.out.bare
      have c0 := cell_of hxc 0
      have c1 := cell_of hxc 1
      have c2 := cell_of hxc 2
      have c3 := cell_of hxc 3
      have c4 := cell_of hxc 4
      have c5 := cell_of hxc 5
      have c6 := cell_of hxc 6
      have c7 := cell_of hxc 7
      have c8 := cell_of hxc 8
      have c9 := cell_of hxc 9
      have c10 := cell_of hxc 10
      have c11 := cell_of hxc 11
      have c12 := cell_of hxc 12
      simp only [List.getElem?_toArray, List.getElem?_cons_zero, List.getElem?_cons_succ] at c0 c1 c2 c3 c4 c5 c6 c7 c8 c9 c10 c11 c12
      have hlc := (Array.getElem?_eq_some_iff.1 hxc).1
      rcases (show (decide (p < 0)) = true ∨ (decide (p < 0)) = false by cases (decide (p < 0)) <;> simp) with gg0 | gg0
      · have HG0 := Lib.hid gg0
        go_wp2_with fail
        refine (rpool_c K _).mono ?_
        rintro e w' ⟨rfl, rfl⟩
        rw [HP.out]
        go_wp2_with fail
        go_meet
        case rel => exact ⟨by rw [show X = true from by rw [← HX.out]; show (decide (p < 0) || !E || decide (C < 0) || decide (C ≥ 64) || decide (N < 0) || decide (N ≥ 32) || decide (wd < 0) || decide (wd ≥ 4)) = _; rw [HG0.out]; rfl], HS2.out⟩
      · have HG0 := Lib.hid gg0
        cases hE : E with
        | false =>
          rw [hE] at heq
          have HG1 := Lib.hid hE
          clear hE
          go_wp2_with fail
          refine (rpool_c K _).mono ?_
          rintro e w' ⟨rfl, rfl⟩
          rw [HP.out]
          go_wp2_with fail
          go_meet
          case rel => exact ⟨by rw [show X = true from by rw [← HX.out]; show (decide (p < 0) || !E || decide (C < 0) || decide (C ≥ 64) || decide (N < 0) || decide (N ≥ 32) || decide (wd < 0) || decide (wd ≥ 4)) = _; rw [HG0.out, HG1.out]; rfl], HS2.out⟩
        | true =>
          rw [hE] at heq
          have HG1 := Lib.hid hE
          clear hE
          rcases (show (decide (C < 0)) = true ∨ (decide (C < 0)) = false by cases (decide (C < 0)) <;> simp) with gg2 | gg2
          · have HG2 := Lib.hid gg2
            go_wp2_with fail
            refine (rpool_c K _).mono ?_
            rintro e w' ⟨rfl, rfl⟩
            rw [HP.out]
            go_wp2_with fail
            go_meet
            case rel => exact ⟨by rw [show X = true from by rw [← HX.out]; show (decide (p < 0) || !E || decide (C < 0) || decide (C ≥ 64) || decide (N < 0) || decide (N ≥ 32) || decide (wd < 0) || decide (wd ≥ 4)) = _; rw [HG0.out, HG1.out, HG2.out]; rfl], HS2.out⟩
          · have HG2 := Lib.hid gg2
            rcases (show (decide (C ≥ 64)) = true ∨ (decide (C ≥ 64)) = false by cases (decide (C ≥ 64)) <;> simp) with gg3 | gg3
            · have HG3 := Lib.hid gg3
              go_wp2_with fail
              refine (rpool_c K _).mono ?_
              rintro e w' ⟨rfl, rfl⟩
              rw [HP.out]
              go_wp2_with fail
              go_meet
              case rel => exact ⟨by rw [show X = true from by rw [← HX.out]; show (decide (p < 0) || !E || decide (C < 0) || decide (C ≥ 64) || decide (N < 0) || decide (N ≥ 32) || decide (wd < 0) || decide (wd ≥ 4)) = _; rw [HG0.out, HG1.out, HG2.out, HG3.out]; rfl], HS2.out⟩
            · have HG3 := Lib.hid gg3
              rcases (show (decide (N < 0)) = true ∨ (decide (N < 0)) = false by cases (decide (N < 0)) <;> simp) with gg4 | gg4
              · have HG4 := Lib.hid gg4
                go_wp2_with fail
                refine (rpool_c K _).mono ?_
                rintro e w' ⟨rfl, rfl⟩
                rw [HP.out]
                go_wp2_with fail
                go_meet
                case rel => exact ⟨by rw [show X = true from by rw [← HX.out]; show (decide (p < 0) || !E || decide (C < 0) || decide (C ≥ 64) || decide (N < 0) || decide (N ≥ 32) || decide (wd < 0) || decide (wd ≥ 4)) = _; rw [HG0.out, HG1.out, HG2.out, HG3.out, HG4.out]; rfl], HS2.out⟩
              · have HG4 := Lib.hid gg4
                rcases (show (decide (N ≥ 32)) = true ∨ (decide (N ≥ 32)) = false by cases (decide (N ≥ 32)) <;> simp) with gg5 | gg5
                · have HG5 := Lib.hid gg5
                  go_wp2_with fail
                  refine (rpool_c K _).mono ?_
                  rintro e w' ⟨rfl, rfl⟩
                  rw [HP.out]
                  go_wp2_with fail
                  go_meet
                  case rel => exact ⟨by rw [show X = true from by rw [← HX.out]; show (decide (p < 0) || !E || decide (C < 0) || decide (C ≥ 64) || decide (N < 0) || decide (N ≥ 32) || decide (wd < 0) || decide (wd ≥ 4)) = _; rw [HG0.out, HG1.out, HG2.out, HG3.out, HG4.out, HG5.out]; rfl], HS2.out⟩
                · have HG5 := Lib.hid gg5
                  rcases (show (decide (wd < 0)) = true ∨ (decide (wd < 0)) = false by cases (decide (wd < 0)) <;> simp) with gg6 | gg6
                  · have HG6 := Lib.hid gg6
                    go_wp2_with fail
                    refine (rpool_c K _).mono ?_
                    rintro e w' ⟨rfl, rfl⟩
                    rw [HP.out]
                    go_wp2_with fail
                    go_meet
                    case rel => exact ⟨by rw [show X = true from by rw [← HX.out]; show (decide (p < 0) || !E || decide (C < 0) || decide (C ≥ 64) || decide (N < 0) || decide (N ≥ 32) || decide (wd < 0) || decide (wd ≥ 4)) = _; rw [HG0.out, HG1.out, HG2.out, HG3.out, HG4.out, HG5.out, HG6.out]; rfl], HS2.out⟩
                  · have HG6 := Lib.hid gg6
                    rcases (show (decide (wd ≥ 4)) = true ∨ (decide (wd ≥ 4)) = false by cases (decide (wd ≥ 4)) <;> simp) with gg7 | gg7
                    · have HG7 := Lib.hid gg7
                      go_wp2_with fail
                      refine (rpool_c K _).mono ?_
                      rintro e w' ⟨rfl, rfl⟩
                      rw [HP.out]
                      go_wp2_with fail
                      go_meet
                      case rel => exact ⟨by rw [show X = true from by rw [← HX.out]; show (decide (p < 0) || !E || decide (C < 0) || decide (C ≥ 64) || decide (N < 0) || decide (N ≥ 32) || decide (wd < 0) || decide (wd ≥ 4)) = _; rw [HG0.out, HG1.out, HG2.out, HG3.out, HG4.out, HG5.out, HG6.out, HG7.out]; rfl], HS2.out⟩
                    · have HG7 := Lib.hid gg7
                      go_wp2_with fail
                      refine (rpool_c K _).mono ?_
                      rintro e w' ⟨rfl, rfl⟩
                      rw [HP.out]
                      go_wp2_with fail
                      go_meet
                      case rel => exact ⟨by rw [show X = false from by rw [← HX.out]; show (decide (p < 0) || !E || decide (C < 0) || decide (C ≥ 64) || decide (N < 0) || decide (N ≥ 32) || decide (wd < 0) || decide (wd ≥ 4)) = _; rw [HG0.out, HG1.out, HG2.out, HG3.out, HG4.out, HG5.out, HG6.out, HG7.out]; rfl], HS2.out⟩
    case rest =>
      obtain ⟨rfl, hS⟩ := hcut
      have HS3 := Lib.hid hS
      clear hS HS2 heq
      generalize wc = w5 at *
      cases X with
      | true =>
        go_wp2_with fail
        go_ret
        exact ⟨by rw [HRP.out, HX.out]; rfl, HS3.out.below⟩
      | false =>
        go_upto_region 19 with fail
        go_cut [127] from 100 to 126 (fun s wx => s = .bool Y ∧ RRt w h1 h3 ⟨K, C, N, t, o, ep, wd, v, x, y, z, q, b⟩ ⟨K, C, N, a3, a4, a5, a6, a7, a8, a9, a10, a11, a12⟩ wx)
        case first =>
          have hxq := HS3.out.msg
          have q0 := cell_of hxq 0
          have q1 := cell_of hxq 1
          have q2 := cell_of hxq 2
          have q3 := cell_of hxq 3
          have q4 := cell_of hxq 4
          have q5 := cell_of hxq 5
          have q6 := cell_of hxq 6
          have q7 := cell_of hxq 7
          have q8 := cell_of hxq 8
          have q9 := cell_of hxq 9
          have q10 := cell_of hxq 10
          have q11 := cell_of hxq 11
          have q12 := cell_of hxq 12
          simp only [List.getElem?_toArray, List.getElem?_cons_zero, List.getElem?_cons_succ] at q0 q1 q2 q3 q4 q5 q6 q7 q8 q9 q10 q11 q12
          have hlq := (Array.getElem?_eq_some_iff.1 hxq).1
          rcases (show (decide (o < 0)) = true ∨ (decide (o < 0)) = false by cases (decide (o < 0)) <;> simp) with gg0 | gg0
          · have HG0 := Lib.hid gg0
            go_wp2_with fail
            go_meet
            case rel => exact ⟨by rw [show Y = true from by rw [← HY.out]; show (decide (o < 0) || decide (o > 3) || decide (ep < 0) || decide (ep > 255) || decide (t < 0) || decide (t > 4)) = _; rw [HG0.out]; rfl], HS3.out⟩
          · have HG0 := Lib.hid gg0
            rcases (show (decide (o > 3)) = true ∨ (decide (o > 3)) = false by cases (decide (o > 3)) <;> simp) with gg1 | gg1
            · have HG1 := Lib.hid gg1
              go_wp2_with fail
              go_meet
              case rel => exact ⟨by rw [show Y = true from by rw [← HY.out]; show (decide (o < 0) || decide (o > 3) || decide (ep < 0) || decide (ep > 255) || decide (t < 0) || decide (t > 4)) = _; rw [HG0.out, HG1.out]; rfl], HS3.out⟩
            · have HG1 := Lib.hid gg1
              rcases (show (decide (ep < 0)) = true ∨ (decide (ep < 0)) = false by cases (decide (ep < 0)) <;> simp) with gg2 | gg2
              · have HG2 := Lib.hid gg2
                go_wp2_with fail
                go_meet
                case rel => exact ⟨by rw [show Y = true from by rw [← HY.out]; show (decide (o < 0) || decide (o > 3) || decide (ep < 0) || decide (ep > 255) || decide (t < 0) || decide (t > 4)) = _; rw [HG0.out, HG1.out, HG2.out]; rfl], HS3.out⟩
              · have HG2 := Lib.hid gg2
                rcases (show (decide (ep > 255)) = true ∨ (decide (ep > 255)) = false by cases (decide (ep > 255)) <;> simp) with gg3 | gg3
                · have HG3 := Lib.hid gg3
                  go_wp2_with fail
                  go_meet
                  case rel => exact ⟨by rw [show Y = true from by rw [← HY.out]; show (decide (o < 0) || decide (o > 3) || decide (ep < 0) || decide (ep > 255) || decide (t < 0) || decide (t > 4)) = _; rw [HG0.out, HG1.out, HG2.out, HG3.out]; rfl], HS3.out⟩
                · have HG3 := Lib.hid gg3
                  rcases (show (decide (t < 0)) = true ∨ (decide (t < 0)) = false by cases (decide (t < 0)) <;> simp) with gg4 | gg4
                  · have HG4 := Lib.hid gg4
                    go_wp2_with fail
                    go_meet
                    case rel => exact ⟨by rw [show Y = true from by rw [← HY.out]; show (decide (o < 0) || decide (o > 3) || decide (ep < 0) || decide (ep > 255) || decide (t < 0) || decide (t > 4)) = _; rw [HG0.out, HG1.out, HG2.out, HG3.out, HG4.out]; rfl], HS3.out⟩
                  · have HG4 := Lib.hid gg4
                    rcases (show (decide (t > 4)) = true ∨ (decide (t > 4)) = false by cases (decide (t > 4)) <;> simp) with gg5 | gg5
                    · have HG5 := Lib.hid gg5
                      go_wp2_with fail
                      go_meet
                      case rel => exact ⟨by rw [show Y = true from by rw [← HY.out]; show (decide (o < 0) || decide (o > 3) || decide (ep < 0) || decide (ep > 255) || decide (t < 0) || decide (t > 4)) = _; rw [HG0.out, HG1.out, HG2.out, HG3.out, HG4.out, HG5.out]; rfl], HS3.out⟩
                    · have HG5 := Lib.hid gg5
                      go_wp2_with fail
                      go_meet
                      case rel => exact ⟨by rw [show Y = false from by rw [← HY.out]; show (decide (o < 0) || decide (o > 3) || decide (ep < 0) || decide (ep > 255) || decide (t < 0) || decide (t > 4)) = _; rw [HG0.out, HG1.out, HG2.out, HG3.out, HG4.out, HG5.out]; rfl], HS3.out⟩
        case rest =>
          obtain ⟨rfl, hS⟩ := hcut
          have HS4 := Lib.hid hS
          clear hS HS3
          generalize wc = w6 at *
          cases Y with
          | true =>
            go_wp2_with fail
            go_ret
            exact ⟨by rw [HRP.out, HX.out, HY.out]; rfl, HS4.out.below⟩
          | false =>
            have hxq := HS4.out.msg
            have q0 := cell_of hxq 0
            have q1 := cell_of hxq 1
            have q2 := cell_of hxq 2
            have q3 := cell_of hxq 3
            have q4 := cell_of hxq 4
            have q5 := cell_of hxq 5
            have q6 := cell_of hxq 6
            have q7 := cell_of hxq 7
            have q8 := cell_of hxq 8
            have q9 := cell_of hxq 9
            have q10 := cell_of hxq 10
            have q11 := cell_of hxq 11
            have q12 := cell_of hxq 12
            simp only [List.getElem?_toArray, List.getElem?_cons_zero, List.getElem?_cons_succ] at q0 q1 q2 q3 q4 q5 q6 q7 q8 q9 q10 q11 q12
            have hlq := (Array.getElem?_eq_some_iff.1 hxq).1
            rcases (show (K != 13) = true ∨ (K != 13) = false by cases (K != 13) <;> simp) with g1 | g1
            · have H1 := Lib.hid g1
              go_wp2_with fail
              go_ret
              exact ⟨by rw [HRP.out, HX.out, HY.out]; show Ending.returned (.bool true) = .returned (.bool (true && true && (K != 13 || (t != 0 && t != 3)))); rw [H1.out]; rfl, HS4.out.below⟩
            · have H1 := Lib.hid g1
              rcases (show (t != 0) = true ∨ (t != 0) = false by cases (t != 0) <;> simp) with g2 | g2
              · have H2 := Lib.hid g2
                rcases (show (t != 3) = true ∨ (t != 3) = false by cases (t != 3) <;> simp) with g3 | g3
                · have H3 := Lib.hid g3
                  go_wp2_with fail
                  go_ret
                  exact ⟨by rw [HRP.out, HX.out, HY.out]; show Ending.returned (.bool true) = .returned (.bool (true && true && (K != 13 || (t != 0 && t != 3)))); rw [H1.out, H2.out, H3.out]; rfl, HS4.out.below⟩
                · have H3 := Lib.hid g3
                  go_wp2_with fail
                  go_ret
                  exact ⟨by rw [HRP.out, HX.out, HY.out]; show Ending.returned (.bool false) = .returned (.bool (true && true && (K != 13 || (t != 0 && t != 3)))); rw [H1.out, H2.out, H3.out]; rfl, HS4.out.below⟩
              · have H2 := Lib.hid g2
                go_wp2_with fail
                go_ret
                exact ⟨by rw [HRP.out, HX.out, HY.out]; show Ending.returned (.bool false) = .returned (.bool (true && true && (K != 13 || (t != 0 && t != 3)))); rw [H1.out, H2.out]; rfl, HS4.out.below⟩

end Go.Proofs.YtbefkkefglkleaaDoor
