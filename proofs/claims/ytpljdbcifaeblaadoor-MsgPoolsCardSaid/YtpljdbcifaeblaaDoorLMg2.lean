/- MsgPools: true; no condition but what a start gives. -/
import Derived.Test.YtpljdbcifaeblaaDoorLMg1
namespace Go.Proofs.YtpljdbcifaeblaaDoor
open Go.RowKit Go.Extern.Stop Go.Stop Go.Extern

/-- How many of the first k kinds have each pool. -/
def CntR (k : Nat) (c0 c1 c2 c3 : Int) : Prop := c0 = min (k : Int) 4 ∧ c1 = min (max ((k : Int) - 4) 0) 6 ∧ c2 = min (max ((k : Int) - 10) 0) 2 ∧ c3 = max ((k : Int) - 12) 0
structure CSt (w : World) (h3 h7 : Nat) (m : MsgV) (c0 c1 c2 c3 : Int) (wx : World) : Prop where
  msg : wx.heap[h3]? = some (.cells #[.int .i64 m.kind, .int .i64 m.core, .int .i64 m.line, .int .i64 m.state, .int .i64 m.mode, .int .i64 m.epoch, .int .i64 m.word, .int .u32 m.val, .int .u32 m.d0, .int .u32 m.d1, .int .u32 m.d2, .int .u32 m.d3, .bool m.has] 54 (0, 0))
  cnt : wx.heap[h7]? = some (.cells #[.int .i64 c0, .int .i64 c1, .int .i64 c2, .int .i64 c3] 67 (0, 0))
  below : Below w.heap.size w wx
  lo : w.heap.size ≤ h3 ∧ h3 < h7
theorem CSt.set {w wr wz : World} {h3 h7 : Nat} {m : MsgV} {c0 c1 c2 c3 d0 d1 d2 d3 : Int} (h : CSt w h3 h7 m c0 c1 c2 c3 wr) (hM : Mods (fun q => q = h7) wr wz) (hb : wz.heap[h7]? = some (.cells #[.int .i64 d0, .int .i64 d1, .int .i64 d2, .int .i64 d3] 67 (0, 0))) : CSt w h3 h7 m d0 d1 d2 d3 wz :=
  ⟨(hM.block h3 (Array.getElem?_eq_some_iff.1 h.msg).1 (by have := h.lo; omega)).trans h.msg, hb, h.below.trans (hM.below h.below.size fun k (hk : k = h7) => by have := h.lo; omega), h.lo⟩
theorem eqPools (w : World) : (Op.equalIn 10000 67 (.agg #[.int .i64 4, .int .i64 6, .int .i64 2, .int .i64 3]) (.agg #[.int .i64 4, .int .i64 6, .int .i64 2, .int .i64 3])).run Tryd.prog w = .ok true w := by kernel_rfl

set_option maxRecDepth 100000 in
set_option maxHeartbeats 4000000 in
theorem msgPools (A : Nat → Addr) (kind : Int) (m : MsgV) (w : World) (hs : SentAt w A) (_hk : -9223372036854775808 ≤ kind ∧ kind ≤ 9223372036854775807) (_hf : m.fit) : Calls Tryd.prog 13 #[.int .i64 kind, m.v] w (TruePost w) := by
  obtain ⟨K, C, N, t, o, ep, wd, v, x, y, z, q, b⟩ := m
  have HSE := Lib.hid hs
  simp only [MsgV.v]
  obtain ⟨p, hp⟩ : ∃ p, poolM kind = p := ⟨_, rfl⟩
  have HP := Lib.hid hp
  obtain ⟨is, his⟩ : ∃ s, decide (1 ≤ kind ∧ kind ≤ 15) = s := ⟨_, rfl⟩
  have HIS := Lib.hid his
  have hall : (is = true ∧ decide (kind ≥ 1) = true ∧ decide (kind ≤ 15) = true ∧ decide (p ≥ 0) = true ∧ decide (p ≤ 3) = true) ∨ (is = false ∧ p = -1 ∧ (decide (kind ≥ 1) = false ∨ (decide (kind ≥ 1) = true ∧ decide (kind ≤ 15) = false))) := by
    subst his
    unfold poolM at hp
    by_cases h : 1 ≤ kind ∧ kind ≤ 15
    · refine .inl ⟨by simpa using h, by simpa using h.1, by simpa using h.2, ?_, ?_⟩ <;> (repeat' split at hp) <;> simp <;> omega
    · refine .inr ⟨by simpa using h, by (repeat' split at hp) <;> omega, ?_⟩
      by_cases h1 : 1 ≤ kind
      · exact .inr ⟨by simpa using h1, by simp; omega⟩
      · exact .inl (by simpa using h1)
  clear hs hp his
  rcases hall with ⟨rfl, g1, g2, g3, g4⟩ | ⟨rfl, rfl, g1 | ⟨g1, g2⟩⟩
  · go_enter Tryd.func13, Tryd.ntmps13
    go_wp2_with fail
    refine (pool_c kind _).mono ?_
    rintro e w' ⟨rfl, rfl⟩
    rw [HP.out]
    go_upto_region 6 with fail
    have HS0 := Lib.hid (show CSt w w.heap.size (w.heap.size + 1) ⟨K, C, N, t, o, ep, wd, v, x, y, z, q, b⟩ 0 0 0 0 ((w.alloc (.cells #[.int .i64 K, .int .i64 C, .int .i64 N, .int .i64 t, .int .i64 o, .int .i64 ep, .int .i64 wd, .int .u32 v, .int .u32 x, .int .u32 y, .int .u32 z, .int .u32 q, .bool b] 54)).alloc (.cells #[.int .i64 0, .int .i64 0, .int .i64 0, .int .i64 0] 67)) from by
      have hb1 : Below w.heap.size w (w.alloc (.cells #[.int .i64 K, .int .i64 C, .int .i64 N, .int .i64 t, .int .i64 o, .int .i64 ep, .int .i64 wd, .int .u32 v, .int .u32 x, .int .u32 y, .int .u32 z, .int .u32 q, .bool b] 54)) := (Below.refl _ _).alloc (Nat.le_refl _) _
      have hs1 : (w.alloc (.cells #[.int .i64 K, .int .i64 C, .int .i64 N, .int .i64 t, .int .i64 o, .int .i64 ep, .int .i64 wd, .int .u32 v, .int .u32 x, .int .u32 y, .int .u32 z, .int .u32 q, .bool b] 54)).heap.size = w.heap.size + 1 := by simp
      have hb2 : Below (w.alloc (.cells #[.int .i64 K, .int .i64 C, .int .i64 N, .int .i64 t, .int .i64 o, .int .i64 ep, .int .i64 wd, .int .u32 v, .int .u32 x, .int .u32 y, .int .u32 z, .int .u32 q, .bool b] 54)).heap.size (w.alloc (.cells #[.int .i64 K, .int .i64 C, .int .i64 N, .int .i64 t, .int .i64 o, .int .i64 ep, .int .i64 wd, .int .u32 v, .int .u32 x, .int .u32 y, .int .u32 z, .int .u32 q, .bool b] 54)) ((w.alloc (.cells #[.int .i64 K, .int .i64 C, .int .i64 N, .int .i64 t, .int .i64 o, .int .i64 ep, .int .i64 wd, .int .u32 v, .int .u32 x, .int .u32 y, .int .u32 z, .int .u32 q, .bool b] 54)).alloc (.cells #[.int .i64 0, .int .i64 0, .int .i64 0, .int .i64 0] 67)) := (Below.refl _ _).alloc (Nat.le_refl _) _
      have hn := heap_alloc_new (w.alloc (.cells #[.int .i64 K, .int .i64 C, .int .i64 N, .int .i64 t, .int .i64 o, .int .i64 ep, .int .i64 wd, .int .u32 v, .int .u32 x, .int .u32 y, .int .u32 z, .int .u32 q, .bool b] 54)) (.cells #[.int .i64 0, .int .i64 0, .int .i64 0, .int .i64 0] 67)
      rw [hs1] at hb2 hn
      exact ⟨(hb2.block w.heap.size (by omega)).trans (heap_alloc_new _ _), hn, hb1.trans (hb2.mono (by omega)), ⟨Nat.le_refl _, by omega⟩⟩)
    obtain ⟨h7, hh7⟩ : ∃ h7, h7 = w.heap.size + 1 := ⟨_, rfl⟩
    rw [← hh7] at HS0 ⊢
    clear hh7
    obtain ⟨h3, hh3⟩ : ∃ h3, h3 = w.heap.size := ⟨_, rfl⟩
    have HS0 := Lib.hid (show CSt w h3 h7 ⟨K, C, N, t, o, ep, wd, v, x, y, z, q, b⟩ 0 0 0 0 ((w.alloc (.cells #[.int .i64 K, .int .i64 C, .int .i64 N, .int .i64 t, .int .i64 o, .int .i64 ep, .int .i64 wd, .int .u32 v, .int .u32 x, .int .u32 y, .int .u32 z, .int .u32 q, .bool b] 54)).alloc (.cells #[.int .i64 0, .int .i64 0, .int .i64 0, .int .i64 0] 67)) from by rw [hh3]; exact HS0.out)
    rw [← hh3]
    generalize (w.alloc (.cells #[.int .i64 K, .int .i64 C, .int .i64 N, .int .i64 t, .int .i64 o, .int .i64 ep, .int .i64 wd, .int .u32 v, .int .u32 x, .int .u32 y, .int .u32 z, .int .u32 q, .bool b] 54)).alloc (.cells #[.int .i64 0, .int .i64 0, .int .i64 0, .int .i64 0] 67) = w1 at *
    clear hh3
    go_wp2_with fail
    go_loopw [8] (fun s8 wr => ∃ (k : Nat) (i c0 c1 c2 c3 : Int), k ≤ 15 ∧ i = k + 1 ∧ s8 = .int .i64 i ∧ CntR k c0 c1 c2 c3 ∧ CSt w h3 h7 ⟨K, C, N, t, o, ep, wd, v, x, y, z, q, b⟩ c0 c1 c2 c3 wr) (fun s8 _ => 16 - (intOf s8).toNat)
    case atStart => exact ⟨0, 1, 0, 0, 0, 0, by omega, rfl, rfl, by unfold CntR; omega, HS0.out⟩
    case round =>
      clear HS0
      obtain ⟨k, i, c0, c1, c2, c3, hk, hik, rfl, hC, hS⟩ := hrel
      have HS := Lib.hid hS
      have HC := Lib.hid hC
      have i1 : 1 ≤ i := by omega
      have i2 : i ≤ 16 := by omega
      have cb : (0 ≤ c0 ∧ c0 ≤ 16) ∧ (0 ≤ c1 ∧ c1 ≤ 16) ∧ (0 ≤ c2 ∧ c2 ≤ 16) ∧ (0 ≤ c3 ∧ c3 ≤ 16) := by unfold CntR at hC; omega
      obtain ⟨⟨a1, a2⟩, ⟨a3, a4⟩, ⟨a5, a6⟩, a7, a8⟩ := cb
      clear hS hC
      by_cases hi : i ≤ 15
      · have g1 : decide (i ≤ 15) = true := by simpa using hi
        have hp4 : (poolM i = 0 ∧ k < 4) ∨ (poolM i = 1 ∧ 4 ≤ k ∧ k < 10) ∨ (poolM i = 2 ∧ 10 ≤ k ∧ k < 12) ∨ (poolM i = 3 ∧ 12 ≤ k ∧ k < 15) := by
          unfold poolM
          (repeat' split) <;> simp <;> omega
        have HIK := Lib.hid (And.intro hik hi)
        clear hik hi
        have hxd := HS.out.cnt
        have d0 := cell_of hxd 0
        have d1 := cell_of hxd 1
        have d2 := cell_of hxd 2
        have d3 := cell_of hxd 3
        simp only [List.getElem?_toArray, List.getElem?_cons_zero, List.getElem?_cons_succ] at d0 d1 d2 d3
        have hld := (Array.getElem?_eq_some_iff.1 hxd).1
        have zd0 := frozen_of hxd 0
        have zd1 := frozen_of hxd 1
        have zd2 := frozen_of hxd 2
        have zd3 := frozen_of hxd 3
        rcases hp4 with ⟨hp, hkk⟩ | ⟨hp, hkk⟩ | ⟨hp, hkk⟩ | ⟨hp, hkk⟩
        · have HPP := Lib.hid hp
          have HKK := Lib.hid hkk
          clear hp hkk
          have HT := Lib.hid (show CSt w h3 h7 ⟨K, C, N, t, o, ep, wd, v, x, y, z, q, b⟩ (c0 + 1) c1 c2 c3 (wr.setCell ⟨h7, 0, none⟩ (.int .i64 (c0 + 1))) from HS.out.set ((Mods.refl (fun q => q = h7) wr).setCell (p := ⟨h7, 0, none⟩) rfl _) ((heap_setCell_at (k := 0) (HS.out.cnt) _).trans rfl))
          go_wp2_with fail
          refine (pool_c i _).mono ?_
          rintro e w' ⟨rfl, rfl⟩
          rw [HPP.out]
          go_wp2_with fail
          go_roundw
          case rel => exact ⟨k + 1, i + 1, c0 + 1, c1, c2, c3, by have := HKK.out; omega, by have := HIK.out; omega, by go_num, by have := HC.out; have := HKK.out; unfold CntR at *; omega, HT.out⟩
          case measure => have := HIK.out; simp [intOf] <;> omega
        · have HPP := Lib.hid hp
          have HKK := Lib.hid hkk
          clear hp hkk
          have HT := Lib.hid (show CSt w h3 h7 ⟨K, C, N, t, o, ep, wd, v, x, y, z, q, b⟩ c0 (c1 + 1) c2 c3 (wr.setCell ⟨h7, 1, none⟩ (.int .i64 (c1 + 1))) from HS.out.set ((Mods.refl (fun q => q = h7) wr).setCell (p := ⟨h7, 1, none⟩) rfl _) ((heap_setCell_at (k := 1) (HS.out.cnt) _).trans rfl))
          go_wp2_with fail
          refine (pool_c i _).mono ?_
          rintro e w' ⟨rfl, rfl⟩
          rw [HPP.out]
          go_wp2_with fail
          go_roundw
          case rel => exact ⟨k + 1, i + 1, c0, c1 + 1, c2, c3, by have := HKK.out; omega, by have := HIK.out; omega, by go_num, by have := HC.out; have := HKK.out; unfold CntR at *; omega, HT.out⟩
          case measure => have := HIK.out; simp [intOf] <;> omega
        · have HPP := Lib.hid hp
          have HKK := Lib.hid hkk
          clear hp hkk
          have HT := Lib.hid (show CSt w h3 h7 ⟨K, C, N, t, o, ep, wd, v, x, y, z, q, b⟩ c0 c1 (c2 + 1) c3 (wr.setCell ⟨h7, 2, none⟩ (.int .i64 (c2 + 1))) from HS.out.set ((Mods.refl (fun q => q = h7) wr).setCell (p := ⟨h7, 2, none⟩) rfl _) ((heap_setCell_at (k := 2) (HS.out.cnt) _).trans rfl))
          go_wp2_with fail
          refine (pool_c i _).mono ?_
          rintro e w' ⟨rfl, rfl⟩
          rw [HPP.out]
          go_wp2_with fail
          go_roundw
          case rel => exact ⟨k + 1, i + 1, c0, c1, c2 + 1, c3, by have := HKK.out; omega, by have := HIK.out; omega, by go_num, by have := HC.out; have := HKK.out; unfold CntR at *; omega, HT.out⟩
          case measure => have := HIK.out; simp [intOf] <;> omega
        · have HPP := Lib.hid hp
          have HKK := Lib.hid hkk
          clear hp hkk
          have HT := Lib.hid (show CSt w h3 h7 ⟨K, C, N, t, o, ep, wd, v, x, y, z, q, b⟩ c0 c1 c2 (c3 + 1) (wr.setCell ⟨h7, 3, none⟩ (.int .i64 (c3 + 1))) from HS.out.set ((Mods.refl (fun q => q = h7) wr).setCell (p := ⟨h7, 3, none⟩) rfl _) ((heap_setCell_at (k := 3) (HS.out.cnt) _).trans rfl))
          go_wp2_with fail
          refine (pool_c i _).mono ?_
          rintro e w' ⟨rfl, rfl⟩
          rw [HPP.out]
          go_wp2_with fail
          go_roundw
          case rel => exact ⟨k + 1, i + 1, c0, c1, c2, c3 + 1, by have := HKK.out; omega, by have := HIK.out; omega, by go_num, by have := HC.out; have := HKK.out; unfold CntR at *; omega, HT.out⟩
          case measure => have := HIK.out; simp [intOf] <;> omega
      · have g1 : decide (i ≤ 15) = false := by simpa using hi
        have h15 : c0 = 4 ∧ c1 = 6 ∧ c2 = 2 ∧ c3 = 3 := by have := HC.out; unfold CntR at this; omega
        obtain ⟨rfl, rfl, rfl, rfl⟩ := h15
        clear a1 a2 a3 a4 a5 a6 a7 a8 HC hik hi
        have heq := eqPools
        have hxd := HS.out.cnt
        have d0 := cell_of hxd 0
        have d1 := cell_of hxd 1
        have d2 := cell_of hxd 2
        have d3 := cell_of hxd 3
        simp only [List.getElem?_toArray, List.getElem?_cons_zero, List.getElem?_cons_succ] at d0 d1 d2 d3
        have hld := (Array.getElem?_eq_some_iff.1 hxd).1
        have zd0 := frozen_of hxd 0
        have zd1 := frozen_of hxd 1
        have zd2 := frozen_of hxd 2
        have zd3 := frozen_of hxd 3
        have hxq := HS.out.msg
        have q0 := cell_of hxq 0
        have q1 := cell_of hxq 1
        have q2 := cell_of hxq 2
        have q3 := cell_of hxq 3
        have q4 := cell_of hxq 4
        have q5 := cell_of hxq 5
        have q6 := cell_of hxq 6
        have q7 := cell_of hxq 7
        have q8 := cell_of hxq 8
        have q9 := cell_of hxq 9
        have q10 := cell_of hxq 10
        have q11 := cell_of hxq 11
        have q12 := cell_of hxq 12
        simp only [List.getElem?_toArray, List.getElem?_cons_zero, List.getElem?_cons_succ] at q0 q1 q2 q3 q4 q5 q6 q7 q8 q9 q10 q11 q12
        have hlq := (Array.getElem?_eq_some_iff.1 hxq).1
        have zq0 := frozen_of hxq 0
        have hM := (Mods.refl (fun q => q = h3) wr).setCell (p := ⟨h3, 0, none⟩) rfl (.int .i64 kind)
        have HZ := Lib.hid (show CSt w h3 h7 ⟨kind, C, N, t, o, ep, wd, v, x, y, z, q, b⟩ 4 6 2 3 (wr.setCell ⟨h3, 0, none⟩ (.int .i64 kind)) from ⟨(heap_setCell_at (k := 0) HS.out.msg _).trans rfl, (hM.block h7 (Array.getElem?_eq_some_iff.1 HS.out.cnt).1 (by have := HS.out.lo; omega)).trans HS.out.cnt, HS.out.below.trans (hM.below HS.out.below.size fun k (hk : k = h3) => by have := HS.out.lo; omega), HS.out.lo⟩)
        go_upto_region 14 with fail
        generalize wr.setCell ⟨h3, 0, none⟩ (.int .i64 kind) = wz at *
        clear hM zd0 zd1 zd2 zd3 zq0 hxd hxq hld hlq d0 d1 d2 d3 q0 q1 q2 q3 q4 q5 q6 q7 q8 q9 q10 q11 q12
        have hxd := HZ.out.cnt
        have d0 := cell_of hxd 0
        have d1 := cell_of hxd 1
        have d2 := cell_of hxd 2
        have d3 := cell_of hxd 3
        simp only [List.getElem?_toArray, List.getElem?_cons_zero, List.getElem?_cons_succ] at d0 d1 d2 d3
        have hld := (Array.getElem?_eq_some_iff.1 hxd).1
        have hxq := HZ.out.msg
        have q0 := cell_of hxq 0
        have q1 := cell_of hxq 1
        have q2 := cell_of hxq 2
        have q3 := cell_of hxq 3
        have q4 := cell_of hxq 4
        have q5 := cell_of hxq 5
        have q6 := cell_of hxq 6
        have q7 := cell_of hxq 7
        have q8 := cell_of hxq 8
        have q9 := cell_of hxq 9
        have q10 := cell_of hxq 10
        have q11 := cell_of hxq 11
        have q12 := cell_of hxq 12
        simp only [List.getElem?_toArray, List.getElem?_cons_zero, List.getElem?_cons_succ] at q0 q1 q2 q3 q4 q5 q6 q7 q8 q9 q10 q11 q12
        have hlq := (Array.getElem?_eq_some_iff.1 hxq).1
        go_wp2_with fail
        refine (msgRuns A _ (HSE.out.below HZ.out.below)).mono ?_
        rintro ev w9 ⟨rfl, hb9⟩
        have HB9 := Lib.hid (HZ.out.below.trans (hb9.mono HZ.out.below.size))
        clear hb9
        go_wp2_with fail
        go_ret
        exact ⟨rfl, HB9.out⟩
  · go_enter Tryd.func13, Tryd.ntmps13
    go_wp2_with fail
    refine (pool_c kind _).mono ?_
    rintro e w' ⟨rfl, rfl⟩
    rw [HP.out]
    go_upto_region 6 with fail
    have HS0 := Lib.hid (show CSt w w.heap.size (w.heap.size + 1) ⟨K, C, N, t, o, ep, wd, v, x, y, z, q, b⟩ 0 0 0 0 ((w.alloc (.cells #[.int .i64 K, .int .i64 C, .int .i64 N, .int .i64 t, .int .i64 o, .int .i64 ep, .int .i64 wd, .int .u32 v, .int .u32 x, .int .u32 y, .int .u32 z, .int .u32 q, .bool b] 54)).alloc (.cells #[.int .i64 0, .int .i64 0, .int .i64 0, .int .i64 0] 67)) from by
      have hb1 : Below w.heap.size w (w.alloc (.cells #[.int .i64 K, .int .i64 C, .int .i64 N, .int .i64 t, .int .i64 o, .int .i64 ep, .int .i64 wd, .int .u32 v, .int .u32 x, .int .u32 y, .int .u32 z, .int .u32 q, .bool b] 54)) := (Below.refl _ _).alloc (Nat.le_refl _) _
      have hs1 : (w.alloc (.cells #[.int .i64 K, .int .i64 C, .int .i64 N, .int .i64 t, .int .i64 o, .int .i64 ep, .int .i64 wd, .int .u32 v, .int .u32 x, .int .u32 y, .int .u32 z, .int .u32 q, .bool b] 54)).heap.size = w.heap.size + 1 := by simp
      have hb2 : Below (w.alloc (.cells #[.int .i64 K, .int .i64 C, .int .i64 N, .int .i64 t, .int .i64 o, .int .i64 ep, .int .i64 wd, .int .u32 v, .int .u32 x, .int .u32 y, .int .u32 z, .int .u32 q, .bool b] 54)).heap.size (w.alloc (.cells #[.int .i64 K, .int .i64 C, .int .i64 N, .int .i64 t, .int .i64 o, .int .i64 ep, .int .i64 wd, .int .u32 v, .int .u32 x, .int .u32 y, .int .u32 z, .int .u32 q, .bool b] 54)) ((w.alloc (.cells #[.int .i64 K, .int .i64 C, .int .i64 N, .int .i64 t, .int .i64 o, .int .i64 ep, .int .i64 wd, .int .u32 v, .int .u32 x, .int .u32 y, .int .u32 z, .int .u32 q, .bool b] 54)).alloc (.cells #[.int .i64 0, .int .i64 0, .int .i64 0, .int .i64 0] 67)) := (Below.refl _ _).alloc (Nat.le_refl _) _
      have hn := heap_alloc_new (w.alloc (.cells #[.int .i64 K, .int .i64 C, .int .i64 N, .int .i64 t, .int .i64 o, .int .i64 ep, .int .i64 wd, .int .u32 v, .int .u32 x, .int .u32 y, .int .u32 z, .int .u32 q, .bool b] 54)) (.cells #[.int .i64 0, .int .i64 0, .int .i64 0, .int .i64 0] 67)
      rw [hs1] at hb2 hn
      exact ⟨(hb2.block w.heap.size (by omega)).trans (heap_alloc_new _ _), hn, hb1.trans (hb2.mono (by omega)), ⟨Nat.le_refl _, by omega⟩⟩)
    obtain ⟨h7, hh7⟩ : ∃ h7, h7 = w.heap.size + 1 := ⟨_, rfl⟩
    rw [← hh7] at HS0 ⊢
    clear hh7
    obtain ⟨h3, hh3⟩ : ∃ h3, h3 = w.heap.size := ⟨_, rfl⟩
    have HS0 := Lib.hid (show CSt w h3 h7 ⟨K, C, N, t, o, ep, wd, v, x, y, z, q, b⟩ 0 0 0 0 ((w.alloc (.cells #[.int .i64 K, .int .i64 C, .int .i64 N, .int .i64 t, .int .i64 o, .int .i64 ep, .int .i64 wd, .int .u32 v, .int .u32 x, .int .u32 y, .int .u32 z, .int .u32 q, .bool b] 54)).alloc (.cells #[.int .i64 0, .int .i64 0, .int .i64 0, .int .i64 0] 67)) from by rw [hh3]; exact HS0.out)
    rw [← hh3]
    generalize (w.alloc (.cells #[.int .i64 K, .int .i64 C, .int .i64 N, .int .i64 t, .int .i64 o, .int .i64 ep, .int .i64 wd, .int .u32 v, .int .u32 x, .int .u32 y, .int .u32 z, .int .u32 q, .bool b] 54)).alloc (.cells #[.int .i64 0, .int .i64 0, .int .i64 0, .int .i64 0] 67) = w1 at *
    clear hh3
    go_wp2_with fail
    go_loopw [8] (fun s8 wr => ∃ (k : Nat) (i c0 c1 c2 c3 : Int), k ≤ 15 ∧ i = k + 1 ∧ s8 = .int .i64 i ∧ CntR k c0 c1 c2 c3 ∧ CSt w h3 h7 ⟨K, C, N, t, o, ep, wd, v, x, y, z, q, b⟩ c0 c1 c2 c3 wr) (fun s8 _ => 16 - (intOf s8).toNat)
    case atStart => exact ⟨0, 1, 0, 0, 0, 0, by omega, rfl, rfl, by unfold CntR; omega, HS0.out⟩
    case round =>
      clear HS0
      obtain ⟨k, i, c0, c1, c2, c3, hk, hik, rfl, hC, hS⟩ := hrel
      have HS := Lib.hid hS
      have HC := Lib.hid hC
      have i1 : 1 ≤ i := by omega
      have i2 : i ≤ 16 := by omega
      have cb : (0 ≤ c0 ∧ c0 ≤ 16) ∧ (0 ≤ c1 ∧ c1 ≤ 16) ∧ (0 ≤ c2 ∧ c2 ≤ 16) ∧ (0 ≤ c3 ∧ c3 ≤ 16) := by unfold CntR at hC; omega
      obtain ⟨⟨a1, a2⟩, ⟨a3, a4⟩, ⟨a5, a6⟩, a7, a8⟩ := cb
      clear hS hC
      by_cases hi : i ≤ 15
      · have g1 : decide (i ≤ 15) = true := by simpa using hi
        have hp4 : (poolM i = 0 ∧ k < 4) ∨ (poolM i = 1 ∧ 4 ≤ k ∧ k < 10) ∨ (poolM i = 2 ∧ 10 ≤ k ∧ k < 12) ∨ (poolM i = 3 ∧ 12 ≤ k ∧ k < 15) := by
          unfold poolM
          (repeat' split) <;> simp <;> omega
        have HIK := Lib.hid (And.intro hik hi)
        clear hik hi
        have hxd := HS.out.cnt
        have d0 := cell_of hxd 0
        have d1 := cell_of hxd 1
        have d2 := cell_of hxd 2
        have d3 := cell_of hxd 3
        simp only [List.getElem?_toArray, List.getElem?_cons_zero, List.getElem?_cons_succ] at d0 d1 d2 d3
        have hld := (Array.getElem?_eq_some_iff.1 hxd).1
        have zd0 := frozen_of hxd 0
        have zd1 := frozen_of hxd 1
        have zd2 := frozen_of hxd 2
        have zd3 := frozen_of hxd 3
        rcases hp4 with ⟨hp, hkk⟩ | ⟨hp, hkk⟩ | ⟨hp, hkk⟩ | ⟨hp, hkk⟩
        · have HPP := Lib.hid hp
          have HKK := Lib.hid hkk
          clear hp hkk
          have HT := Lib.hid (show CSt w h3 h7 ⟨K, C, N, t, o, ep, wd, v, x, y, z, q, b⟩ (c0 + 1) c1 c2 c3 (wr.setCell ⟨h7, 0, none⟩ (.int .i64 (c0 + 1))) from HS.out.set ((Mods.refl (fun q => q = h7) wr).setCell (p := ⟨h7, 0, none⟩) rfl _) ((heap_setCell_at (k := 0) (HS.out.cnt) _).trans rfl))
          go_wp2_with fail
          refine (pool_c i _).mono ?_
          rintro e w' ⟨rfl, rfl⟩
          rw [HPP.out]
          go_wp2_with fail
          go_roundw
          case rel => exact ⟨k + 1, i + 1, c0 + 1, c1, c2, c3, by have := HKK.out; omega, by have := HIK.out; omega, by go_num, by have := HC.out; have := HKK.out; unfold CntR at *; omega, HT.out⟩
          case measure => have := HIK.out; simp [intOf] <;> omega
        · have HPP := Lib.hid hp
          have HKK := Lib.hid hkk
          clear hp hkk
          have HT := Lib.hid (show CSt w h3 h7 ⟨K, C, N, t, o, ep, wd, v, x, y, z, q, b⟩ c0 (c1 + 1) c2 c3 (wr.setCell ⟨h7, 1, none⟩ (.int .i64 (c1 + 1))) from HS.out.set ((Mods.refl (fun q => q = h7) wr).setCell (p := ⟨h7, 1, none⟩) rfl _) ((heap_setCell_at (k := 1) (HS.out.cnt) _).trans rfl))
          go_wp2_with fail
          refine (pool_c i _).mono ?_
          rintro e w' ⟨rfl, rfl⟩
          rw [HPP.out]
          go_wp2_with fail
          go_roundw
          case rel => exact ⟨k + 1, i + 1, c0, c1 + 1, c2, c3, by have := HKK.out; omega, by have := HIK.out; omega, by go_num, by have := HC.out; have := HKK.out; unfold CntR at *; omega, HT.out⟩
          case measure => have := HIK.out; simp [intOf] <;> omega
        · have HPP := Lib.hid hp
          have HKK := Lib.hid hkk
          clear hp hkk
          have HT := Lib.hid (show CSt w h3 h7 ⟨K, C, N, t, o, ep, wd, v, x, y, z, q, b⟩ c0 c1 (c2 + 1) c3 (wr.setCell ⟨h7, 2, none⟩ (.int .i64 (c2 + 1))) from HS.out.set ((Mods.refl (fun q => q = h7) wr).setCell (p := ⟨h7, 2, none⟩) rfl _) ((heap_setCell_at (k := 2) (HS.out.cnt) _).trans rfl))
          go_wp2_with fail
          refine (pool_c i _).mono ?_
          rintro e w' ⟨rfl, rfl⟩
          rw [HPP.out]
          go_wp2_with fail
          go_roundw
          case rel => exact ⟨k + 1, i + 1, c0, c1, c2 + 1, c3, by have := HKK.out; omega, by have := HIK.out; omega, by go_num, by have := HC.out; have := HKK.out; unfold CntR at *; omega, HT.out⟩
          case measure => have := HIK.out; simp [intOf] <;> omega
        · have HPP := Lib.hid hp
          have HKK := Lib.hid hkk
          clear hp hkk
          have HT := Lib.hid (show CSt w h3 h7 ⟨K, C, N, t, o, ep, wd, v, x, y, z, q, b⟩ c0 c1 c2 (c3 + 1) (wr.setCell ⟨h7, 3, none⟩ (.int .i64 (c3 + 1))) from HS.out.set ((Mods.refl (fun q => q = h7) wr).setCell (p := ⟨h7, 3, none⟩) rfl _) ((heap_setCell_at (k := 3) (HS.out.cnt) _).trans rfl))
          go_wp2_with fail
          refine (pool_c i _).mono ?_
          rintro e w' ⟨rfl, rfl⟩
          rw [HPP.out]
          go_wp2_with fail
          go_roundw
          case rel => exact ⟨k + 1, i + 1, c0, c1, c2, c3 + 1, by have := HKK.out; omega, by have := HIK.out; omega, by go_num, by have := HC.out; have := HKK.out; unfold CntR at *; omega, HT.out⟩
          case measure => have := HIK.out; simp [intOf] <;> omega
      · have g1 : decide (i ≤ 15) = false := by simpa using hi
        have h15 : c0 = 4 ∧ c1 = 6 ∧ c2 = 2 ∧ c3 = 3 := by have := HC.out; unfold CntR at this; omega
        obtain ⟨rfl, rfl, rfl, rfl⟩ := h15
        clear a1 a2 a3 a4 a5 a6 a7 a8 HC hik hi
        have heq := eqPools
        have hxd := HS.out.cnt
        have d0 := cell_of hxd 0
        have d1 := cell_of hxd 1
        have d2 := cell_of hxd 2
        have d3 := cell_of hxd 3
        simp only [List.getElem?_toArray, List.getElem?_cons_zero, List.getElem?_cons_succ] at d0 d1 d2 d3
        have hld := (Array.getElem?_eq_some_iff.1 hxd).1
        have zd0 := frozen_of hxd 0
        have zd1 := frozen_of hxd 1
        have zd2 := frozen_of hxd 2
        have zd3 := frozen_of hxd 3
        have hxq := HS.out.msg
        have q0 := cell_of hxq 0
        have q1 := cell_of hxq 1
        have q2 := cell_of hxq 2
        have q3 := cell_of hxq 3
        have q4 := cell_of hxq 4
        have q5 := cell_of hxq 5
        have q6 := cell_of hxq 6
        have q7 := cell_of hxq 7
        have q8 := cell_of hxq 8
        have q9 := cell_of hxq 9
        have q10 := cell_of hxq 10
        have q11 := cell_of hxq 11
        have q12 := cell_of hxq 12
        simp only [List.getElem?_toArray, List.getElem?_cons_zero, List.getElem?_cons_succ] at q0 q1 q2 q3 q4 q5 q6 q7 q8 q9 q10 q11 q12
        have hlq := (Array.getElem?_eq_some_iff.1 hxq).1
        have zq0 := frozen_of hxq 0
        have hM := (Mods.refl (fun q => q = h3) wr).setCell (p := ⟨h3, 0, none⟩) rfl (.int .i64 kind)
        have HZ := Lib.hid (show CSt w h3 h7 ⟨kind, C, N, t, o, ep, wd, v, x, y, z, q, b⟩ 4 6 2 3 (wr.setCell ⟨h3, 0, none⟩ (.int .i64 kind)) from ⟨(heap_setCell_at (k := 0) HS.out.msg _).trans rfl, (hM.block h7 (Array.getElem?_eq_some_iff.1 HS.out.cnt).1 (by have := HS.out.lo; omega)).trans HS.out.cnt, HS.out.below.trans (hM.below HS.out.below.size fun k (hk : k = h3) => by have := HS.out.lo; omega), HS.out.lo⟩)
        go_upto_region 14 with fail
        generalize wr.setCell ⟨h3, 0, none⟩ (.int .i64 kind) = wz at *
        clear hM zd0 zd1 zd2 zd3 zq0 hxd hxq hld hlq d0 d1 d2 d3 q0 q1 q2 q3 q4 q5 q6 q7 q8 q9 q10 q11 q12
        have hxd := HZ.out.cnt
        have d0 := cell_of hxd 0
        have d1 := cell_of hxd 1
        have d2 := cell_of hxd 2
        have d3 := cell_of hxd 3
        simp only [List.getElem?_toArray, List.getElem?_cons_zero, List.getElem?_cons_succ] at d0 d1 d2 d3
        have hld := (Array.getElem?_eq_some_iff.1 hxd).1
        have hxq := HZ.out.msg
        have q0 := cell_of hxq 0
        have q1 := cell_of hxq 1
        have q2 := cell_of hxq 2
        have q3 := cell_of hxq 3
        have q4 := cell_of hxq 4
        have q5 := cell_of hxq 5
        have q6 := cell_of hxq 6
        have q7 := cell_of hxq 7
        have q8 := cell_of hxq 8
        have q9 := cell_of hxq 9
        have q10 := cell_of hxq 10
        have q11 := cell_of hxq 11
        have q12 := cell_of hxq 12
        simp only [List.getElem?_toArray, List.getElem?_cons_zero, List.getElem?_cons_succ] at q0 q1 q2 q3 q4 q5 q6 q7 q8 q9 q10 q11 q12
        have hlq := (Array.getElem?_eq_some_iff.1 hxq).1
        go_wp2_with fail
        refine (mright_c ⟨kind, C, N, t, o, ep, wd, v, x, y, z, q, b⟩ _).mono ?_
        rintro ev w2 ⟨rfl, hb2⟩
        have HB2 := Lib.hid (HZ.out.below.trans (hb2.mono HZ.out.below.size))
        rw [show rightM ⟨kind, C, N, t, o, ep, wd, v, x, y, z, q, b⟩ = false by
          have h := HIS.out
          simp only [decide_eq_false_iff_not] at h
          simp [rightM, h]]
        clear hb2
        go_wp2_with fail
        refine (msgRuns A _ (HSE.out.below HB2.out)).mono ?_
        rintro ev w9 ⟨rfl, hb9⟩
        have HB9 := Lib.hid (HB2.out.trans (hb9.mono HB2.out.size))
        clear hb9
        go_wp2_with fail
        go_ret
        exact ⟨rfl, HB9.out⟩
  · go_enter Tryd.func13, Tryd.ntmps13
    go_wp2_with fail
    refine (pool_c kind _).mono ?_
    rintro e w' ⟨rfl, rfl⟩
    rw [HP.out]
    go_upto_region 6 with fail
    have HS0 := Lib.hid (show CSt w w.heap.size (w.heap.size + 1) ⟨K, C, N, t, o, ep, wd, v, x, y, z, q, b⟩ 0 0 0 0 ((w.alloc (.cells #[.int .i64 K, .int .i64 C, .int .i64 N, .int .i64 t, .int .i64 o, .int .i64 ep, .int .i64 wd, .int .u32 v, .int .u32 x, .int .u32 y, .int .u32 z, .int .u32 q, .bool b] 54)).alloc (.cells #[.int .i64 0, .int .i64 0, .int .i64 0, .int .i64 0] 67)) from by
      have hb1 : Below w.heap.size w (w.alloc (.cells #[.int .i64 K, .int .i64 C, .int .i64 N, .int .i64 t, .int .i64 o, .int .i64 ep, .int .i64 wd, .int .u32 v, .int .u32 x, .int .u32 y, .int .u32 z, .int .u32 q, .bool b] 54)) := (Below.refl _ _).alloc (Nat.le_refl _) _
      have hs1 : (w.alloc (.cells #[.int .i64 K, .int .i64 C, .int .i64 N, .int .i64 t, .int .i64 o, .int .i64 ep, .int .i64 wd, .int .u32 v, .int .u32 x, .int .u32 y, .int .u32 z, .int .u32 q, .bool b] 54)).heap.size = w.heap.size + 1 := by simp
      have hb2 : Below (w.alloc (.cells #[.int .i64 K, .int .i64 C, .int .i64 N, .int .i64 t, .int .i64 o, .int .i64 ep, .int .i64 wd, .int .u32 v, .int .u32 x, .int .u32 y, .int .u32 z, .int .u32 q, .bool b] 54)).heap.size (w.alloc (.cells #[.int .i64 K, .int .i64 C, .int .i64 N, .int .i64 t, .int .i64 o, .int .i64 ep, .int .i64 wd, .int .u32 v, .int .u32 x, .int .u32 y, .int .u32 z, .int .u32 q, .bool b] 54)) ((w.alloc (.cells #[.int .i64 K, .int .i64 C, .int .i64 N, .int .i64 t, .int .i64 o, .int .i64 ep, .int .i64 wd, .int .u32 v, .int .u32 x, .int .u32 y, .int .u32 z, .int .u32 q, .bool b] 54)).alloc (.cells #[.int .i64 0, .int .i64 0, .int .i64 0, .int .i64 0] 67)) := (Below.refl _ _).alloc (Nat.le_refl _) _
      have hn := heap_alloc_new (w.alloc (.cells #[.int .i64 K, .int .i64 C, .int .i64 N, .int .i64 t, .int .i64 o, .int .i64 ep, .int .i64 wd, .int .u32 v, .int .u32 x, .int .u32 y, .int .u32 z, .int .u32 q, .bool b] 54)) (.cells #[.int .i64 0, .int .i64 0, .int .i64 0, .int .i64 0] 67)
      rw [hs1] at hb2 hn
      exact ⟨(hb2.block w.heap.size (by omega)).trans (heap_alloc_new _ _), hn, hb1.trans (hb2.mono (by omega)), ⟨Nat.le_refl _, by omega⟩⟩)
    obtain ⟨h7, hh7⟩ : ∃ h7, h7 = w.heap.size + 1 := ⟨_, rfl⟩
    rw [← hh7] at HS0 ⊢
    clear hh7
    obtain ⟨h3, hh3⟩ : ∃ h3, h3 = w.heap.size := ⟨_, rfl⟩
    have HS0 := Lib.hid (show CSt w h3 h7 ⟨K, C, N, t, o, ep, wd, v, x, y, z, q, b⟩ 0 0 0 0 ((w.alloc (.cells #[.int .i64 K, .int .i64 C, .int .i64 N, .int .i64 t, .int .i64 o, .int .i64 ep, .int .i64 wd, .int .u32 v, .int .u32 x, .int .u32 y, .int .u32 z, .int .u32 q, .bool b] 54)).alloc (.cells #[.int .i64 0, .int .i64 0, .int .i64 0, .int .i64 0] 67)) from by rw [hh3]; exact HS0.out)
    rw [← hh3]
    generalize (w.alloc (.cells #[.int .i64 K, .int .i64 C, .int .i64 N, .int .i64 t, .int .i64 o, .int .i64 ep, .int .i64 wd, .int .u32 v, .int .u32 x, .int .u32 y, .int .u32 z, .int .u32 q, .bool b] 54)).alloc (.cells #[.int .i64 0, .int .i64 0, .int .i64 0, .int .i64 0] 67) = w1 at *
    clear hh3
    go_wp2_with fail
    go_loopw [8] (fun s8 wr => ∃ (k : Nat) (i c0 c1 c2 c3 : Int), k ≤ 15 ∧ i = k + 1 ∧ s8 = .int .i64 i ∧ CntR k c0 c1 c2 c3 ∧ CSt w h3 h7 ⟨K, C, N, t, o, ep, wd, v, x, y, z, q, b⟩ c0 c1 c2 c3 wr) (fun s8 _ => 16 - (intOf s8).toNat)
    case atStart => exact ⟨0, 1, 0, 0, 0, 0, by omega, rfl, rfl, by unfold CntR; omega, HS0.out⟩
    case round =>
      clear HS0
      obtain ⟨k, i, c0, c1, c2, c3, hk, hik, rfl, hC, hS⟩ := hrel
      have HS := Lib.hid hS
      have HC := Lib.hid hC
      have i1 : 1 ≤ i := by omega
      have i2 : i ≤ 16 := by omega
      have cb : (0 ≤ c0 ∧ c0 ≤ 16) ∧ (0 ≤ c1 ∧ c1 ≤ 16) ∧ (0 ≤ c2 ∧ c2 ≤ 16) ∧ (0 ≤ c3 ∧ c3 ≤ 16) := by unfold CntR at hC; omega
      obtain ⟨⟨a1, a2⟩, ⟨a3, a4⟩, ⟨a5, a6⟩, a7, a8⟩ := cb
      clear hS hC
      by_cases hi : i ≤ 15
      · have g1 : decide (i ≤ 15) = true := by simpa using hi
        have hp4 : (poolM i = 0 ∧ k < 4) ∨ (poolM i = 1 ∧ 4 ≤ k ∧ k < 10) ∨ (poolM i = 2 ∧ 10 ≤ k ∧ k < 12) ∨ (poolM i = 3 ∧ 12 ≤ k ∧ k < 15) := by
          unfold poolM
          (repeat' split) <;> simp <;> omega
        have HIK := Lib.hid (And.intro hik hi)
        clear hik hi
        have hxd := HS.out.cnt
        have d0 := cell_of hxd 0
        have d1 := cell_of hxd 1
        have d2 := cell_of hxd 2
        have d3 := cell_of hxd 3
        simp only [List.getElem?_toArray, List.getElem?_cons_zero, List.getElem?_cons_succ] at d0 d1 d2 d3
        have hld := (Array.getElem?_eq_some_iff.1 hxd).1
        have zd0 := frozen_of hxd 0
        have zd1 := frozen_of hxd 1
        have zd2 := frozen_of hxd 2
        have zd3 := frozen_of hxd 3
        rcases hp4 with ⟨hp, hkk⟩ | ⟨hp, hkk⟩ | ⟨hp, hkk⟩ | ⟨hp, hkk⟩
        · have HPP := Lib.hid hp
          have HKK := Lib.hid hkk
          clear hp hkk
          have HT := Lib.hid (show CSt w h3 h7 ⟨K, C, N, t, o, ep, wd, v, x, y, z, q, b⟩ (c0 + 1) c1 c2 c3 (wr.setCell ⟨h7, 0, none⟩ (.int .i64 (c0 + 1))) from HS.out.set ((Mods.refl (fun q => q = h7) wr).setCell (p := ⟨h7, 0, none⟩) rfl _) ((heap_setCell_at (k := 0) (HS.out.cnt) _).trans rfl))
          go_wp2_with fail
          refine (pool_c i _).mono ?_
          rintro e w' ⟨rfl, rfl⟩
          rw [HPP.out]
          go_wp2_with fail
          go_roundw
          case rel => exact ⟨k + 1, i + 1, c0 + 1, c1, c2, c3, by have := HKK.out; omega, by have := HIK.out; omega, by go_num, by have := HC.out; have := HKK.out; unfold CntR at *; omega, HT.out⟩
          case measure => have := HIK.out; simp [intOf] <;> omega
        · have HPP := Lib.hid hp
          have HKK := Lib.hid hkk
          clear hp hkk
          have HT := Lib.hid (show CSt w h3 h7 ⟨K, C, N, t, o, ep, wd, v, x, y, z, q, b⟩ c0 (c1 + 1) c2 c3 (wr.setCell ⟨h7, 1, none⟩ (.int .i64 (c1 + 1))) from HS.out.set ((Mods.refl (fun q => q = h7) wr).setCell (p := ⟨h7, 1, none⟩) rfl _) ((heap_setCell_at (k := 1) (HS.out.cnt) _).trans rfl))
          go_wp2_with fail
          refine (pool_c i _).mono ?_
          rintro e w' ⟨rfl, rfl⟩
          rw [HPP.out]
          go_wp2_with fail
          go_roundw
          case rel => exact ⟨k + 1, i + 1, c0, c1 + 1, c2, c3, by have := HKK.out; omega, by have := HIK.out; omega, by go_num, by have := HC.out; have := HKK.out; unfold CntR at *; omega, HT.out⟩
          case measure => have := HIK.out; simp [intOf] <;> omega
        · have HPP := Lib.hid hp
          have HKK := Lib.hid hkk
          clear hp hkk
          have HT := Lib.hid (show CSt w h3 h7 ⟨K, C, N, t, o, ep, wd, v, x, y, z, q, b⟩ c0 c1 (c2 + 1) c3 (wr.setCell ⟨h7, 2, none⟩ (.int .i64 (c2 + 1))) from HS.out.set ((Mods.refl (fun q => q = h7) wr).setCell (p := ⟨h7, 2, none⟩) rfl _) ((heap_setCell_at (k := 2) (HS.out.cnt) _).trans rfl))
          go_wp2_with fail
          refine (pool_c i _).mono ?_
          rintro e w' ⟨rfl, rfl⟩
          rw [HPP.out]
          go_wp2_with fail
          go_roundw
          case rel => exact ⟨k + 1, i + 1, c0, c1, c2 + 1, c3, by have := HKK.out; omega, by have := HIK.out; omega, by go_num, by have := HC.out; have := HKK.out; unfold CntR at *; omega, HT.out⟩
          case measure => have := HIK.out; simp [intOf] <;> omega
        · have HPP := Lib.hid hp
          have HKK := Lib.hid hkk
          clear hp hkk
          have HT := Lib.hid (show CSt w h3 h7 ⟨K, C, N, t, o, ep, wd, v, x, y, z, q, b⟩ c0 c1 c2 (c3 + 1) (wr.setCell ⟨h7, 3, none⟩ (.int .i64 (c3 + 1))) from HS.out.set ((Mods.refl (fun q => q = h7) wr).setCell (p := ⟨h7, 3, none⟩) rfl _) ((heap_setCell_at (k := 3) (HS.out.cnt) _).trans rfl))
          go_wp2_with fail
          refine (pool_c i _).mono ?_
          rintro e w' ⟨rfl, rfl⟩
          rw [HPP.out]
          go_wp2_with fail
          go_roundw
          case rel => exact ⟨k + 1, i + 1, c0, c1, c2, c3 + 1, by have := HKK.out; omega, by have := HIK.out; omega, by go_num, by have := HC.out; have := HKK.out; unfold CntR at *; omega, HT.out⟩
          case measure => have := HIK.out; simp [intOf] <;> omega
      · have g1 : decide (i ≤ 15) = false := by simpa using hi
        have h15 : c0 = 4 ∧ c1 = 6 ∧ c2 = 2 ∧ c3 = 3 := by have := HC.out; unfold CntR at this; omega
        obtain ⟨rfl, rfl, rfl, rfl⟩ := h15
        clear a1 a2 a3 a4 a5 a6 a7 a8 HC hik hi
        have heq := eqPools
        have hxd := HS.out.cnt
        have d0 := cell_of hxd 0
        have d1 := cell_of hxd 1
        have d2 := cell_of hxd 2
        have d3 := cell_of hxd 3
        simp only [List.getElem?_toArray, List.getElem?_cons_zero, List.getElem?_cons_succ] at d0 d1 d2 d3
        have hld := (Array.getElem?_eq_some_iff.1 hxd).1
        have zd0 := frozen_of hxd 0
        have zd1 := frozen_of hxd 1
        have zd2 := frozen_of hxd 2
        have zd3 := frozen_of hxd 3
        have hxq := HS.out.msg
        have q0 := cell_of hxq 0
        have q1 := cell_of hxq 1
        have q2 := cell_of hxq 2
        have q3 := cell_of hxq 3
        have q4 := cell_of hxq 4
        have q5 := cell_of hxq 5
        have q6 := cell_of hxq 6
        have q7 := cell_of hxq 7
        have q8 := cell_of hxq 8
        have q9 := cell_of hxq 9
        have q10 := cell_of hxq 10
        have q11 := cell_of hxq 11
        have q12 := cell_of hxq 12
        simp only [List.getElem?_toArray, List.getElem?_cons_zero, List.getElem?_cons_succ] at q0 q1 q2 q3 q4 q5 q6 q7 q8 q9 q10 q11 q12
        have hlq := (Array.getElem?_eq_some_iff.1 hxq).1
        have zq0 := frozen_of hxq 0
        have hM := (Mods.refl (fun q => q = h3) wr).setCell (p := ⟨h3, 0, none⟩) rfl (.int .i64 kind)
        have HZ := Lib.hid (show CSt w h3 h7 ⟨kind, C, N, t, o, ep, wd, v, x, y, z, q, b⟩ 4 6 2 3 (wr.setCell ⟨h3, 0, none⟩ (.int .i64 kind)) from ⟨(heap_setCell_at (k := 0) HS.out.msg _).trans rfl, (hM.block h7 (Array.getElem?_eq_some_iff.1 HS.out.cnt).1 (by have := HS.out.lo; omega)).trans HS.out.cnt, HS.out.below.trans (hM.below HS.out.below.size fun k (hk : k = h3) => by have := HS.out.lo; omega), HS.out.lo⟩)
        go_upto_region 14 with fail
        generalize wr.setCell ⟨h3, 0, none⟩ (.int .i64 kind) = wz at *
        clear hM zd0 zd1 zd2 zd3 zq0 hxd hxq hld hlq d0 d1 d2 d3 q0 q1 q2 q3 q4 q5 q6 q7 q8 q9 q10 q11 q12
        have hxd := HZ.out.cnt
        have d0 := cell_of hxd 0
        have d1 := cell_of hxd 1
        have d2 := cell_of hxd 2
        have d3 := cell_of hxd 3
        simp only [List.getElem?_toArray, List.getElem?_cons_zero, List.getElem?_cons_succ] at d0 d1 d2 d3
        have hld := (Array.getElem?_eq_some_iff.1 hxd).1
        have hxq := HZ.out.msg
        have q0 := cell_of hxq 0
        have q1 := cell_of hxq 1
        have q2 := cell_of hxq 2
        have q3 := cell_of hxq 3
        have q4 := cell_of hxq 4
        have q5 := cell_of hxq 5
        have q6 := cell_of hxq 6
        have q7 := cell_of hxq 7
        have q8 := cell_of hxq 8
        have q9 := cell_of hxq 9
        have q10 := cell_of hxq 10
        have q11 := cell_of hxq 11
        have q12 := cell_of hxq 12
        simp only [List.getElem?_toArray, List.getElem?_cons_zero, List.getElem?_cons_succ] at q0 q1 q2 q3 q4 q5 q6 q7 q8 q9 q10 q11 q12
        have hlq := (Array.getElem?_eq_some_iff.1 hxq).1
        go_wp2_with fail
        refine (mright_c ⟨kind, C, N, t, o, ep, wd, v, x, y, z, q, b⟩ _).mono ?_
        rintro ev w2 ⟨rfl, hb2⟩
        have HB2 := Lib.hid (HZ.out.below.trans (hb2.mono HZ.out.below.size))
        rw [show rightM ⟨kind, C, N, t, o, ep, wd, v, x, y, z, q, b⟩ = false by
          have h := HIS.out
          simp only [decide_eq_false_iff_not] at h
          simp [rightM, h]]
        clear hb2
        go_wp2_with fail
        refine (msgRuns A _ (HSE.out.below HB2.out)).mono ?_
        rintro ev w9 ⟨rfl, hb9⟩
        have HB9 := Lib.hid (HB2.out.trans (hb9.mono HB2.out.size))
        clear hb9
        go_wp2_with fail
        go_ret
        exact ⟨rfl, HB9.out⟩

end Go.Proofs.YtpljdbcifaeblaaDoor
