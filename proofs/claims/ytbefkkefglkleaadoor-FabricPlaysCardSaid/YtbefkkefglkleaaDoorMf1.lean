/- Messages: the walks of Pool, within, named, flag, Right. -/
import Derived.Test.YtbefkkefglkleaaDoorMfE
import Derived.Test.YtbefkkefglkleaaDoorErr7
import Derived.Test.YtbefkkefglkleaaDoorMods
import Derived.Deep.Cut
import Derived.Deep.CutRange
import Derived.Deep.CutBlock
namespace Go.Proofs.YtbefkkefglkleaaDoor
open Go.RowKit Go.Extern.Stop Go.Stop Go.Extern

theorem mwithin_c (n lo hi : Int) (w : World) : Calls Tryd.prog 39 #[.int .i64 n, .int .i64 lo, .int .i64 hi] w fun ev w' => ev = .returned (.bool (inOk lo hi n)) ∧ w = w' := by
  unfold inOk
  by_cases h1 : lo ≤ n
  · have g1 : decide (n ≥ lo) = true := by simpa using h1
    have e1 : decide (lo ≤ n) = true := by simpa using h1
    rw [e1]
    clear h1 e1
    go_enter Tryd.func39, Tryd.ntmps39
    go_wp2_with fail
    go_ret
    exact ⟨rfl, rfl⟩
  · have g1 : decide (n ≥ lo) = false := by simpa using h1
    have e1 : decide (lo ≤ n) = false := by simpa using h1
    rw [e1]
    clear h1 e1
    go_enter Tryd.func39, Tryd.ntmps39
    go_wp2_with fail
    go_ret
    exact ⟨rfl, rfl⟩
theorem pool_c (k : Int) (w : World) : Calls Tryd.prog 28 #[.int .i64 k] w fun ev w' => ev = .returned (.int .i64 (poolM k)) ∧ w = w' := by
  by_cases h1 : k < 1
  · have g1 : decide (k < 1) = true := by simpa using h1
    rw [show poolM k = -1 by unfold poolM; rw [if_pos h1]]
    clear h1
    go_enter Tryd.func28, Tryd.ntmps28
    go_wp2_with fail
    go_ret
    exact ⟨rfl, rfl⟩
  have g1 : decide (k < 1) = false := by simpa using h1
  by_cases h2 : k ≤ 4
  · have g2 : decide (k ≤ 4) = true := by simpa using h2
    rw [show poolM k = 0 by unfold poolM; rw [if_neg h1, if_pos h2]]
    clear h1 h2
    go_enter Tryd.func28, Tryd.ntmps28
    go_wp2_with fail
    go_ret
    exact ⟨rfl, rfl⟩
  have g2 : decide (k ≤ 4) = false := by simpa using h2
  by_cases h3 : k ≤ 10
  · have g3 : decide (k ≤ 10) = true := by simpa using h3
    rw [show poolM k = 1 by unfold poolM; rw [if_neg h1, if_neg h2, if_pos h3]]
    clear h1 h2 h3
    go_enter Tryd.func28, Tryd.ntmps28
    go_wp2_with fail
    go_ret
    exact ⟨rfl, rfl⟩
  have g3 : decide (k ≤ 10) = false := by simpa using h3
  by_cases h4 : k ≤ 12
  · have g4 : decide (k ≤ 12) = true := by simpa using h4
    rw [show poolM k = 2 by unfold poolM; rw [if_neg h1, if_neg h2, if_neg h3, if_pos h4]]
    clear h1 h2 h3 h4
    go_enter Tryd.func28, Tryd.ntmps28
    go_wp2_with fail
    go_ret
    exact ⟨rfl, rfl⟩
  have g4 : decide (k ≤ 12) = false := by simpa using h4
  by_cases h5 : k ≤ 15
  · have g5 : decide (k ≤ 15) = true := by simpa using h5
    rw [show poolM k = 3 by unfold poolM; rw [if_neg h1, if_neg h2, if_neg h3, if_neg h4, if_pos h5]]
    clear h1 h2 h3 h4 h5
    go_enter Tryd.func28, Tryd.ntmps28
    go_wp2_with fail
    go_ret
    exact ⟨rfl, rfl⟩
  have g5 : decide (k ≤ 15) = false := by simpa using h5
  rw [show poolM k = -1 by unfold poolM; rw [if_neg h1, if_neg h2, if_neg h3, if_neg h4, if_neg h5]]
  clear h1 h2 h3 h4 h5
  go_enter Tryd.func28, Tryd.ntmps28
  go_wp2_with fail
  go_ret
  exact ⟨rfl, rfl⟩
theorem mnamed_c (k : Int) (w : World) : Calls Tryd.prog 40 #[.int .i64 k] w fun ev w' => ev = .returned (.agg #[.bool (mgW k), .bool (mgM k), .bool (mgE k), .bool (mgS k)]) ∧ Below w.heap.size w w' := by
  by_cases h3 : k = 3
  · subst h3
    go_enter Tryd.func40, Tryd.ntmps40
    go_wp2_with fail
    refine bodyPost_ret_by (v := .agg #[.bool true, .bool false, .bool false, .bool false]) (by simp [results, Tryd.results40, go_sem]) rfl ?_
    exact ⟨rfl, ((Below.refl _ _).alloc (Nat.le_refl _) _).alloc (by simp) _⟩
  have g3 : (k == 3) = false := by simpa using h3
  by_cases h8 : k = 8
  · subst h8
    go_enter Tryd.func40, Tryd.ntmps40
    go_wp2_with fail
    refine bodyPost_ret_by (v := .agg #[.bool true, .bool false, .bool false, .bool false]) (by simp [results, Tryd.results40, go_sem]) rfl ?_
    exact ⟨rfl, ((Below.refl _ _).alloc (Nat.le_refl _) _).alloc (by simp) _⟩
  have g8 : (k == 8) = false := by simpa using h8
  by_cases h14 : k = 14
  · subst h14
    go_enter Tryd.func40, Tryd.ntmps40
    go_wp2_with fail
    refine bodyPost_ret_by (v := .agg #[.bool true, .bool false, .bool false, .bool false]) (by simp [results, Tryd.results40, go_sem]) rfl ?_
    exact ⟨rfl, ((Below.refl _ _).alloc (Nat.le_refl _) _).alloc (by simp) _⟩
  have g14 : (k == 14) = false := by simpa using h14
  by_cases h9 : k = 9
  · subst h9
    go_enter Tryd.func40, Tryd.ntmps40
    go_wp2_with fail
    refine bodyPost_ret_by (v := .agg #[.bool false, .bool true, .bool true, .bool false]) (by simp [results, Tryd.results40, go_sem]) rfl ?_
    exact ⟨rfl, ((Below.refl _ _).alloc (Nat.le_refl _) _).alloc (by simp) _⟩
  have g9 : (k == 9) = false := by simpa using h9
  by_cases h5 : k = 5
  · subst h5
    go_enter Tryd.func40, Tryd.ntmps40
    go_wp2_with fail
    refine bodyPost_ret_by (v := .agg #[.bool false, .bool true, .bool false, .bool false]) (by simp [results, Tryd.results40, go_sem]) rfl ?_
    exact ⟨rfl, ((Below.refl _ _).alloc (Nat.le_refl _) _).alloc (by simp) _⟩
  have g5 : (k == 5) = false := by simpa using h5
  by_cases h13 : k = 13
  · subst h13
    go_enter Tryd.func40, Tryd.ntmps40
    go_wp2_with fail
    refine bodyPost_ret_by (v := .agg #[.bool false, .bool true, .bool true, .bool true]) (by simp [results, Tryd.results40, go_sem]) rfl ?_
    exact ⟨rfl, ((Below.refl _ _).alloc (Nat.le_refl _) _).alloc (by simp) _⟩
  have g13 : (k == 13) = false := by simpa using h13
  by_cases h11 : k = 11
  · subst h11
    go_enter Tryd.func40, Tryd.ntmps40
    go_wp2_with fail
    refine bodyPost_ret_by (v := .agg #[.bool false, .bool false, .bool false, .bool true]) (by simp [results, Tryd.results40, go_sem]) rfl ?_
    exact ⟨rfl, ((Below.refl _ _).alloc (Nat.le_refl _) _).alloc (by simp) _⟩
  have g11 : (k == 11) = false := by simpa using h11
  rw [show mgW k = false by simp [mgW]; omega, show mgM k = false by simp [mgM]; omega, show mgE k = false by simp [mgE]; omega, show mgS k = false by simp [mgS]; omega]
  clear h3 h8 h14 h9 h5 h13 h11
  go_enter Tryd.func40, Tryd.ntmps40
  go_wp2_with fail
  refine bodyPost_ret_by (v := .agg #[.bool false, .bool false, .bool false, .bool false]) (by simp [results, Tryd.results40, go_sem]) rfl ?_
  exact ⟨rfl, ((Below.refl _ _).alloc (Nat.le_refl _) _).alloc (by simp) _⟩

def bareOf (m : MsgV) : MsgV := ⟨m.kind, m.core, m.line, if mgS m.kind then m.state else 0, if mgM m.kind then m.mode else 0, if mgE m.kind then m.epoch else 0, if mgW m.kind then m.word else 0, if mgW m.kind then m.val else 0,
  if mgS m.kind && m.has then m.d0 else 0, if mgS m.kind && m.has then m.d1 else 0, if mgS m.kind && m.has then m.d2 else 0, if mgS m.kind && m.has then m.d3 else 0, mgS m.kind && m.has⟩
def limB (m : MsgV) : Bool := inOk 0 3 m.word && inOk 0 4 m.state && inOk 0 3 m.mode && inOk 0 255 m.epoch
def granB (m : MsgV) : Bool := m.kind != 13 || (m.state != 0 && m.state != 3)
theorem bare_iff (m : MsgV) : m = bareOf m ↔ m.Bare := by
  rw [← bareB_iff]
  obtain ⟨K, C, N, t, o, ep, wd, v, x, y, z, q, b⟩ := m
  simp only [bareOf, bareB, MsgV.mk.injEq, true_and]
  generalize mgW K = f1
  generalize mgM K = f2
  generalize mgE K = f3
  generalize mgS K = f4
  cases f1 <;> cases f2 <;> cases f3 <;> cases f4 <;> cases b <;> simp <;> omega
theorem rightM_parts (m : MsgV) (hk : 1 ≤ m.kind ∧ m.kind ≤ 15) (hc : inOk 0 63 m.core = true) (hn : inOk 0 31 m.line = true) : rightM m = (eqM m (bareOf m) && limB m && granB m) := by
  rw [Bool.eq_iff_iff, rightM_iff]
  simp only [Bool.and_eq_true, eqM_iff, bare_iff, limB, granB, inOk, decide_eq_true_eq, Bool.or_eq_true, bne_iff_ne] at hc hn ⊢
  constructor
  · intro h
    refine ⟨⟨h.bare, ⟨⟨⟨h.word, h.state⟩, h.mode⟩, h.epoch⟩⟩, ?_⟩
    by_cases h13 : m.kind = 13
    · exact .inr (h.gran h13)
    · exact .inl h13
  · rintro ⟨⟨h1, ⟨⟨⟨h2, h3⟩, h4⟩, h5⟩⟩, h6⟩
    exact ⟨hk, hc, hn, h1, h2, h3, h4, h5, fun h => h6.resolve_left (fun x => x h)⟩
/-- The message, what its kind names, the bare one. -/
structure RSt (w : World) (h1 hF h4 : Nat) (f1 f2 f3 f4 : Bool) (m B : MsgV) (wx : World) : Prop where
  msg : wx.heap[h1]? = some (.cells #[.int .i64 m.kind, .int .i64 m.core, .int .i64 m.line, .int .i64 m.state, .int .i64 m.mode, .int .i64 m.epoch, .int .i64 m.word, .int .u32 m.val, .int .u32 m.d0, .int .u32 m.d1, .int .u32 m.d2, .int .u32 m.d3, .bool m.has] 32 (0, 0))
  fl : wx.heap[hF]? = some (.cells #[.bool f1, .bool f2, .bool f3, .bool f4] 84 (0, 0))
  bare : wx.heap[h4]? = some (.cells #[.int .i64 B.kind, .int .i64 B.core, .int .i64 B.line, .int .i64 B.state, .int .i64 B.mode, .int .i64 B.epoch, .int .i64 B.word, .int .u32 B.val, .int .u32 B.d0, .int .u32 B.d1, .int .u32 B.d2, .int .u32 B.d3, .bool B.has] 32 (0, 0))
  below : Below w.heap.size w wx
theorem RSt.set {w : World} {h1 hF h4 : Nat} {f1 f2 f3 f4 : Bool} {m B B' : MsgV} {wx wz : World} (h : RSt w h1 hF h4 f1 f2 f3 f4 m B wx) (hw : w.heap.size ≤ h4) (n1 : h1 ≠ h4) (nF : hF ≠ h4) (hM : Mods (fun q => q = h4) wx wz)
    (hb : wz.heap[h4]? = some (.cells #[.int .i64 B'.kind, .int .i64 B'.core, .int .i64 B'.line, .int .i64 B'.state, .int .i64 B'.mode, .int .i64 B'.epoch, .int .i64 B'.word, .int .u32 B'.val, .int .u32 B'.d0, .int .u32 B'.d1, .int .u32 B'.d2, .int .u32 B'.d3, .bool B'.has] 32 (0, 0))) : RSt w h1 hF h4 f1 f2 f3 f4 m B' wz :=
  ⟨(hM.block h1 (Array.getElem?_eq_some_iff.1 h.msg).1 n1).trans h.msg, (hM.block hF (Array.getElem?_eq_some_iff.1 h.fl).1 nF).trans h.fl, hb, h.below.trans (hM.below h.below.size fun k (hk : k = h4) => by omega)⟩
set_option maxRecDepth 100000 in
set_option maxHeartbeats 4000000 in
theorem mright_c (m : MsgV) (w : World) : Calls Tryd.prog 29 #[m.v] w fun ev w' => ev = .returned (.bool (rightM m)) ∧ Below w.heap.size w w' := by
  obtain ⟨K, C, N, t, o, ep, wd, v, x, y, z, q, b⟩ := m
  simp only [MsgV.v]
  obtain ⟨p, hp⟩ : ∃ p, poolM K = p := ⟨_, rfl⟩
  have HP := Lib.hid hp
  clear hp
  by_cases hp0 : p < 0
  · have g1 : decide (p < 0) = true := by simpa using hp0
    have HR := Lib.hid (show rightM ⟨K, C, N, t, o, ep, wd, v, x, y, z, q, b⟩ = false by
      have h := HP.out
      unfold poolM at h
      have : ¬ (1 ≤ K ∧ K ≤ 15) := fun hk => by (repeat' split at h) <;> omega
      simp [rightM, this])
    clear hp0
    go_enter Tryd.func29, Tryd.ntmps29
    go_wp2_with fail
    refine (pool_c K _).mono ?_
    rintro e w' ⟨rfl, rfl⟩
    rw [HP.out]
    go_wp2_with fail
    go_ret
    exact ⟨by rw [HR.out]; rfl, (Below.refl _ _).alloc (Nat.le_refl _) _⟩
  have g1 : decide (p < 0) = false := by simpa using hp0
  have HK := Lib.hid (show 1 ≤ K ∧ K ≤ 15 by
    have h := HP.out
    unfold poolM at h
    (repeat' split at h) <;> omega)
  clear hp0
  rcases (show inOk 0 63 C = false ∨ inOk 0 63 C = true by cases inOk 0 63 C <;> simp) with hC | hC
  · skip
    have HR := Lib.hid (show rightM ⟨K, C, N, t, o, ep, wd, v, x, y, z, q, b⟩ = false by
      have h := hC
      simp only [inOk, Bool.and_eq_false_iff, decide_eq_false_iff_not] at h
      simp [rightM]; omega)
    have HC := Lib.hid hC
    clear hC
    go_enter Tryd.func29, Tryd.ntmps29
    go_wp2_with fail
    refine (pool_c K _).mono ?_
    rintro e w' ⟨rfl, rfl⟩
    rw [HP.out]
    go_wp2_with fail
    refine (mwithin_c C 0 63 _).mono ?_
    rintro e w' ⟨rfl, rfl⟩
    rw [HC.out]
    go_wp2_with fail
    go_ret
    exact ⟨by rw [HR.out]; rfl, (Below.refl _ _).alloc (Nat.le_refl _) _⟩
  have HC := Lib.hid hC
  clear hC
  rcases (show inOk 0 31 N = false ∨ inOk 0 31 N = true by cases inOk 0 31 N <;> simp) with hN | hN
  · skip
    have HR := Lib.hid (show rightM ⟨K, C, N, t, o, ep, wd, v, x, y, z, q, b⟩ = false by
      have h := hN
      simp only [inOk, Bool.and_eq_false_iff, decide_eq_false_iff_not] at h
      simp [rightM]; omega)
    have HN := Lib.hid hN
    clear hN
    go_enter Tryd.func29, Tryd.ntmps29
    go_wp2_with fail
    refine (pool_c K _).mono ?_
    rintro e w' ⟨rfl, rfl⟩
    rw [HP.out]
    go_wp2_with fail
    refine (mwithin_c C 0 63 _).mono ?_
    rintro e w' ⟨rfl, rfl⟩
    rw [HC.out]
    go_wp2_with fail
    refine (mwithin_c N 0 31 _).mono ?_
    rintro e w' ⟨rfl, rfl⟩
    rw [HN.out]
    go_wp2_with fail
    go_ret
    exact ⟨by rw [HR.out]; rfl, (Below.refl _ _).alloc (Nat.le_refl _) _⟩
  have HN := Lib.hid hN
  clear hN
  have hX := heap_alloc_new w (.cells #[.int .i64 K, .int .i64 C, .int .i64 N, .int .i64 t, .int .i64 o, .int .i64 ep, .int .i64 wd, .int .u32 v, .int .u32 x, .int .u32 y, .int .u32 z, .int .u32 q, .bool b] 32)
  have hba : Below w.heap.size w (w.alloc (.cells #[.int .i64 K, .int .i64 C, .int .i64 N, .int .i64 t, .int .i64 o, .int .i64 ep, .int .i64 wd, .int .u32 v, .int .u32 x, .int .u32 y, .int .u32 z, .int .u32 q, .bool b] 32)) := (Below.refl _ _).alloc (Nat.le_refl _) _
  have HX := Lib.hid hX
  have HBA := Lib.hid hba
  clear hX hba
  go_enter Tryd.func29, Tryd.ntmps29
  go_wp2_with fail
  refine (pool_c K _).mono ?_
  rintro e w' ⟨rfl, rfl⟩
  rw [HP.out]
  go_wp2_with fail
  refine (mwithin_c C 0 63 _).mono ?_
  rintro e w' ⟨rfl, rfl⟩
  rw [HC.out]
  go_wp2_with fail
  refine (mwithin_c N 0 31 _).mono ?_
  rintro e w' ⟨rfl, rfl⟩
  rw [HN.out]
  go_wp2_with fail
  refine (mnamed_c K _).mono ?_
  obtain ⟨f1, hf1⟩ : ∃ f, mgW K = f := ⟨_, rfl⟩
  obtain ⟨f2, hf2⟩ : ∃ f, mgM K = f := ⟨_, rfl⟩
  obtain ⟨f3, hf3⟩ : ∃ f, mgE K = f := ⟨_, rfl⟩
  obtain ⟨f4, hf4⟩ : ∃ f, mgS K = f := ⟨_, rfl⟩
  rw [hf1, hf2, hf3, hf4]
  have HF1 := Lib.hid hf1
  have HF2 := Lib.hid hf2
  have HF3 := Lib.hid hf3
  have HF4 := Lib.hid hf4
  clear hf1 hf2 hf3 hf4
  rintro ev w2 ⟨rfl, hb2⟩
  have hX2 := (hb2.block w.heap.size (by simp)).trans HX.out
  have HB2 := Lib.hid (HBA.out.trans (hb2.mono (by simp)))
  have HX2 := Lib.hid hX2
  obtain ⟨h1, hh1⟩ : ∃ h1, h1 = w.heap.size := ⟨_, rfl⟩
  have HS2 := Lib.hid (show h1 < w2.heap.size by rw [hh1]; have := hb2.size; simp at this; omega)
  rw [← hh1] at HX2 ⊢
  clear hb2 hX2 HX HBA
  have HW1 := Lib.hid hh1
  clear hh1
  have q0 := cell_of HX2.out 0
  have q1 := cell_of HX2.out 1
  have q2 := cell_of HX2.out 2
  have q3 := cell_of HX2.out 3
  have q4 := cell_of HX2.out 4
  have q5 := cell_of HX2.out 5
  have q6 := cell_of HX2.out 6
  have q7 := cell_of HX2.out 7
  have q8 := cell_of HX2.out 8
  have q9 := cell_of HX2.out 9
  have q10 := cell_of HX2.out 10
  have q11 := cell_of HX2.out 11
  have q12 := cell_of HX2.out 12
  simp only [List.getElem?_toArray, List.getElem?_cons_zero, List.getElem?_cons_succ] at q0 q1 q2 q3 q4 q5 q6 q7 q8 q9 q10 q11 q12
  have hlx := (Array.getElem?_eq_some_iff.1 HX2.out).1
  go_upto_if 34 with fail
  have HS0 := Lib.hid (show RSt w h1 w2.heap.size (w2.heap.size + 1) f1 f2 f3 f4 ⟨K, C, N, t, o, ep, wd, v, x, y, z, q, b⟩ ⟨K, C, N, 0, 0, 0, 0, 0, 0, 0, 0, 0, false⟩ ((w2.alloc (.cells #[.bool f1, .bool f2, .bool f3, .bool f4] 84)).alloc (.cells #[.int .i64 K, .int .i64 C, .int .i64 N, .int .i64 0, .int .i64 0, .int .i64 0, .int .i64 0, .int .u32 0, .int .u32 0, .int .u32 0, .int .u32 0, .int .u32 0, .bool false] 32)) from by
    have hb1 : Below w2.heap.size w2 (w2.alloc (.cells #[.bool f1, .bool f2, .bool f3, .bool f4] 84)) := (Below.refl _ _).alloc (Nat.le_refl _) _
    have hb2 : Below (w2.heap.size + 1) (w2.alloc (.cells #[.bool f1, .bool f2, .bool f3, .bool f4] 84)) ((w2.alloc (.cells #[.bool f1, .bool f2, .bool f3, .bool f4] 84)).alloc (.cells #[.int .i64 K, .int .i64 C, .int .i64 N, .int .i64 0, .int .i64 0, .int .i64 0, .int .i64 0, .int .u32 0, .int .u32 0, .int .u32 0, .int .u32 0, .int .u32 0, .bool false] 32)) := by
      have := (Below.refl (w2.alloc (.cells #[.bool f1, .bool f2, .bool f3, .bool f4] 84)).heap.size (w2.alloc (.cells #[.bool f1, .bool f2, .bool f3, .bool f4] 84))).alloc (Nat.le_refl _) (.cells #[.int .i64 K, .int .i64 C, .int .i64 N, .int .i64 0, .int .i64 0, .int .i64 0, .int .i64 0, .int .u32 0, .int .u32 0, .int .u32 0, .int .u32 0, .int .u32 0, .bool false] 32)
      simpa using this
    have hb12 := hb1.trans (hb2.mono (by omega))
    refine ⟨(hb12.block h1 HS2.out).trans HX2.out, (hb2.block w2.heap.size (by omega)).trans (heap_alloc_new _ _), ?_, HB2.out.trans (hb12.mono HB2.out.size)⟩
    have := heap_alloc_new (w2.alloc (.cells #[.bool f1, .bool f2, .bool f3, .bool f4] 84)) (.cells #[.int .i64 K, .int .i64 C, .int .i64 N, .int .i64 0, .int .i64 0, .int .i64 0, .int .i64 0, .int .u32 0, .int .u32 0, .int .u32 0, .int .u32 0, .int .u32 0, .bool false] 32)
    simpa using this)
  have HLE := Lib.hid (show w.heap.size ≤ w2.heap.size + 1 ∧ h1 ≠ w2.heap.size + 1 ∧ w2.heap.size ≠ w2.heap.size + 1 from by have := HS2.out; have := HW1.out; omega)
  clear HX2 HB2 HS2 HW1 hlx q0 q1 q2 q3 q4 q5 q6 q7 q8 q9 q10 q11 q12
  obtain ⟨h4, hh4⟩ : ∃ h4, h4 = w2.heap.size + 1 := ⟨_, rfl⟩
  rw [← hh4] at HS0 HLE ⊢
  clear hh4
  obtain ⟨hF, hhF⟩ : ∃ hF, hF = w2.heap.size := ⟨_, rfl⟩
  rw [← hhF] at HS0 HLE ⊢
  generalize (w2.alloc (.cells #[.bool f1, .bool f2, .bool f3, .bool f4] 84)).alloc (.cells #[.int .i64 K, .int .i64 C, .int .i64 N, .int .i64 0, .int .i64 0, .int .i64 0, .int .i64 0, .int .u32 0, .int .u32 0, .int .u32 0, .int .u32 0, .int .u32 0, .bool false] 32) = w3 at *
  clear hhF
  go_cut [35] from 36 to 40 (fun _ wx => ∃ (a1 : Int) (a2 : Int), a1 = (if f1 then wd else 0) ∧ a2 = (if f1 then v else 0) ∧ RSt w h1 hF h4 f1 f2 f3 f4 ⟨K, C, N, t, o, ep, wd, v, x, y, z, q, b⟩ ⟨K, C, N, 0, 0, 0, a1, a2, 0, 0, 0, 0, false⟩ wx)
  case first =>
    cases f1 with
    | false =>
      go_wp2_with fail
      go_meet
      case rel => exact ⟨0, 0, rfl, rfl, HS0.out⟩
    | true =>
      have hxm := HS0.out.msg
      have hxb := HS0.out.bare
      have q0 := cell_of hxm 0
      have q1 := cell_of hxm 1
      have q2 := cell_of hxm 2
      have q3 := cell_of hxm 3
      have q4 := cell_of hxm 4
      have q5 := cell_of hxm 5
      have q6 := cell_of hxm 6
      have q7 := cell_of hxm 7
      have q8 := cell_of hxm 8
      have q9 := cell_of hxm 9
      have q10 := cell_of hxm 10
      have q11 := cell_of hxm 11
      have q12 := cell_of hxm 12
      have b0 := cell_of hxb 0
      have b1 := cell_of hxb 1
      have b2 := cell_of hxb 2
      have b3 := cell_of hxb 3
      have b4 := cell_of hxb 4
      have b5 := cell_of hxb 5
      have b6 := cell_of hxb 6
      have b7 := cell_of hxb 7
      have b8 := cell_of hxb 8
      have b9 := cell_of hxb 9
      have b10 := cell_of hxb 10
      have b11 := cell_of hxb 11
      have b12 := cell_of hxb 12
      simp only [List.getElem?_toArray, List.getElem?_cons_zero, List.getElem?_cons_succ] at q0 q1 q2 q3 q4 q5 q6 q7 q8 q9 q10 q11 q12 b0 b1 b2 b3 b4 b5 b6 b7 b8 b9 b10 b11 b12
      have hlx := (Array.getElem?_eq_some_iff.1 hxm).1
      have hlb := (Array.getElem?_eq_some_iff.1 hxb).1
      have z6 := frozen_of hxb 6
      have z7 := frozen_of hxb 7
      go_upto_region 6 with fail
      go_region
      go_wp2_with fail
      go_meet
      case rel => exact ⟨wd, v, rfl, rfl, HS0.out.set HLE.out.1 HLE.out.2.1 HLE.out.2.2 ((((Mods.refl (fun q => q = h4) w3).drew).setCell (p := ⟨h4, 6, none⟩) rfl _).setCell (p := ⟨h4, 7, none⟩) rfl _) ((heap_setCell_at (k := 7) ((heap_setCell_at (k := 6) (HS0.out.bare) _).trans rfl) _).trans rfl)⟩
  case rest =>
    obtain ⟨a1, a2, ea1, ea2, hS1⟩ := hcut
    have HS1 := Lib.hid hS1
    have Ha1 := Lib.hid ea1
    have Ha2 := Lib.hid ea2
    clear hS1 ea1 ea2 HS0
    generalize wc = w4 at *
    have hxf := HS1.out.fl
    have q0 := cell_of hxf 0
    have q1 := cell_of hxf 1
    have q2 := cell_of hxf 2
    have q3 := cell_of hxf 3
    simp only [List.getElem?_toArray, List.getElem?_cons_zero, List.getElem?_cons_succ] at q0 q1 q2 q3
    have hlf := (Array.getElem?_eq_some_iff.1 hxf).1
    go_upto_if 42 with fail
    clear hxf hlf q0 q1 q2 q3
    go_cut [43] from 44 to 45 (fun _ wx => ∃ (a3 : Int), a3 = (if f2 then o else 0) ∧ RSt w h1 hF h4 f1 f2 f3 f4 ⟨K, C, N, t, o, ep, wd, v, x, y, z, q, b⟩ ⟨K, C, N, 0, a3, 0, a1, a2, 0, 0, 0, 0, false⟩ wx)
    case first =>
      cases f2 with
      | false =>
        go_wp2_with fail
        go_meet
        case rel => exact ⟨0, rfl, HS1.out⟩
      | true =>
        have hxm := HS1.out.msg
        have hxb := HS1.out.bare
        have q0 := cell_of hxm 0
        have q1 := cell_of hxm 1
        have q2 := cell_of hxm 2
        have q3 := cell_of hxm 3
        have q4 := cell_of hxm 4
        have q5 := cell_of hxm 5
        have q6 := cell_of hxm 6
        have q7 := cell_of hxm 7
        have q8 := cell_of hxm 8
        have q9 := cell_of hxm 9
        have q10 := cell_of hxm 10
        have q11 := cell_of hxm 11
        have q12 := cell_of hxm 12
        have b0 := cell_of hxb 0
        have b1 := cell_of hxb 1
        have b2 := cell_of hxb 2
        have b3 := cell_of hxb 3
        have b4 := cell_of hxb 4
        have b5 := cell_of hxb 5
        have b6 := cell_of hxb 6
        have b7 := cell_of hxb 7
        have b8 := cell_of hxb 8
        have b9 := cell_of hxb 9
        have b10 := cell_of hxb 10
        have b11 := cell_of hxb 11
        have b12 := cell_of hxb 12
        simp only [List.getElem?_toArray, List.getElem?_cons_zero, List.getElem?_cons_succ] at q0 q1 q2 q3 q4 q5 q6 q7 q8 q9 q10 q11 q12 b0 b1 b2 b3 b4 b5 b6 b7 b8 b9 b10 b11 b12
        have hlx := (Array.getElem?_eq_some_iff.1 hxm).1
        have hlb := (Array.getElem?_eq_some_iff.1 hxb).1
        have z4 := frozen_of hxb 4
        go_wp2_with fail
        go_meet
        case rel => exact ⟨o, rfl, HS1.out.set HLE.out.1 HLE.out.2.1 HLE.out.2.2 ((Mods.refl (fun q => q = h4) w4).setCell (p := ⟨h4, 4, none⟩) rfl _) ((heap_setCell_at (k := 4) (HS1.out.bare) _).trans rfl)⟩
    case rest =>
      obtain ⟨a3, ea3, hS2⟩ := hcut
      have HS2 := Lib.hid hS2
      have Ha3 := Lib.hid ea3
      clear hS2 ea3 HS1
      generalize wc = w5 at *
      have hxf := HS2.out.fl
      have q0 := cell_of hxf 0
      have q1 := cell_of hxf 1
      have q2 := cell_of hxf 2
      have q3 := cell_of hxf 3
      simp only [List.getElem?_toArray, List.getElem?_cons_zero, List.getElem?_cons_succ] at q0 q1 q2 q3
      have hlf := (Array.getElem?_eq_some_iff.1 hxf).1
      go_upto_if 47 with fail
      clear hxf hlf q0 q1 q2 q3
      go_cut [48] from 49 to 50 (fun _ wx => ∃ (a4 : Int), a4 = (if f3 then ep else 0) ∧ RSt w h1 hF h4 f1 f2 f3 f4 ⟨K, C, N, t, o, ep, wd, v, x, y, z, q, b⟩ ⟨K, C, N, 0, a3, a4, a1, a2, 0, 0, 0, 0, false⟩ wx)
      case first =>
        cases f3 with
        | false =>
          go_wp2_with fail
          go_meet
          case rel => exact ⟨0, rfl, HS2.out⟩
        | true =>
          have hxm := HS2.out.msg
          have hxb := HS2.out.bare
          have q0 := cell_of hxm 0
          have q1 := cell_of hxm 1
          have q2 := cell_of hxm 2
          have q3 := cell_of hxm 3
          have q4 := cell_of hxm 4
          have q5 := cell_of hxm 5
          have q6 := cell_of hxm 6
          have q7 := cell_of hxm 7
          have q8 := cell_of hxm 8
          have q9 := cell_of hxm 9
          have q10 := cell_of hxm 10
          have q11 := cell_of hxm 11
          have q12 := cell_of hxm 12
          have b0 := cell_of hxb 0
          have b1 := cell_of hxb 1
          have b2 := cell_of hxb 2
          have b3 := cell_of hxb 3
          have b4 := cell_of hxb 4
          have b5 := cell_of hxb 5
          have b6 := cell_of hxb 6
          have b7 := cell_of hxb 7
          have b8 := cell_of hxb 8
          have b9 := cell_of hxb 9
          have b10 := cell_of hxb 10
          have b11 := cell_of hxb 11
          have b12 := cell_of hxb 12
          simp only [List.getElem?_toArray, List.getElem?_cons_zero, List.getElem?_cons_succ] at q0 q1 q2 q3 q4 q5 q6 q7 q8 q9 q10 q11 q12 b0 b1 b2 b3 b4 b5 b6 b7 b8 b9 b10 b11 b12
          have hlx := (Array.getElem?_eq_some_iff.1 hxm).1
          have hlb := (Array.getElem?_eq_some_iff.1 hxb).1
          have z5 := frozen_of hxb 5
          go_wp2_with fail
          go_meet
          case rel => exact ⟨ep, rfl, HS2.out.set HLE.out.1 HLE.out.2.1 HLE.out.2.2 ((Mods.refl (fun q => q = h4) w5).setCell (p := ⟨h4, 5, none⟩) rfl _) ((heap_setCell_at (k := 5) (HS2.out.bare) _).trans rfl)⟩
      case rest =>
        obtain ⟨a4, ea4, hS3⟩ := hcut
        have HS3 := Lib.hid hS3
        have Ha4 := Lib.hid ea4
        clear hS3 ea4 HS2
        generalize wc = w6 at *
        have hxf := HS3.out.fl
        have q0 := cell_of hxf 0
        have q1 := cell_of hxf 1
        have q2 := cell_of hxf 2
        have q3 := cell_of hxf 3
        simp only [List.getElem?_toArray, List.getElem?_cons_zero, List.getElem?_cons_succ] at q0 q1 q2 q3
        have hlf := (Array.getElem?_eq_some_iff.1 hxf).1
        go_upto_if 52 with fail
        clear hxf hlf q0 q1 q2 q3
        go_cut [53] from 54 to 58 (fun _ wx => ∃ (a5 : Int) (a6 : Bool), a5 = (if f4 then t else 0) ∧ a6 = (if f4 then b else false) ∧ RSt w h1 hF h4 f1 f2 f3 f4 ⟨K, C, N, t, o, ep, wd, v, x, y, z, q, b⟩ ⟨K, C, N, a5, a3, a4, a1, a2, 0, 0, 0, 0, a6⟩ wx)
        case first =>
          cases f4 with
          | false =>
            go_wp2_with fail
            go_meet
            case rel => exact ⟨0, false, rfl, rfl, HS3.out⟩
          | true =>
            have hxm := HS3.out.msg
            have hxb := HS3.out.bare
            have q0 := cell_of hxm 0
            have q1 := cell_of hxm 1
            have q2 := cell_of hxm 2
            have q3 := cell_of hxm 3
            have q4 := cell_of hxm 4
            have q5 := cell_of hxm 5
            have q6 := cell_of hxm 6
            have q7 := cell_of hxm 7
            have q8 := cell_of hxm 8
            have q9 := cell_of hxm 9
            have q10 := cell_of hxm 10
            have q11 := cell_of hxm 11
            have q12 := cell_of hxm 12
            have b0 := cell_of hxb 0
            have b1 := cell_of hxb 1
            have b2 := cell_of hxb 2
            have b3 := cell_of hxb 3
            have b4 := cell_of hxb 4
            have b5 := cell_of hxb 5
            have b6 := cell_of hxb 6
            have b7 := cell_of hxb 7
            have b8 := cell_of hxb 8
            have b9 := cell_of hxb 9
            have b10 := cell_of hxb 10
            have b11 := cell_of hxb 11
            have b12 := cell_of hxb 12
            simp only [List.getElem?_toArray, List.getElem?_cons_zero, List.getElem?_cons_succ] at q0 q1 q2 q3 q4 q5 q6 q7 q8 q9 q10 q11 q12 b0 b1 b2 b3 b4 b5 b6 b7 b8 b9 b10 b11 b12
            have hlx := (Array.getElem?_eq_some_iff.1 hxm).1
            have hlb := (Array.getElem?_eq_some_iff.1 hxb).1
            have z3 := frozen_of hxb 3
            have z12 := frozen_of hxb 12
            go_upto_region 12 with fail
            go_region
            go_wp2_with fail
            go_meet
            case rel => exact ⟨t, b, rfl, rfl, HS3.out.set HLE.out.1 HLE.out.2.1 HLE.out.2.2 ((((Mods.refl (fun q => q = h4) w6).drew).setCell (p := ⟨h4, 3, none⟩) rfl _).setCell (p := ⟨h4, 12, none⟩) rfl _) ((heap_setCell_at (k := 12) ((heap_setCell_at (k := 3) (HS3.out.bare) _).trans rfl) _).trans rfl)⟩
        case rest =>
          obtain ⟨a5, a6, ea5, ea6, hS4⟩ := hcut
          have HS4 := Lib.hid hS4
          have Ha5 := Lib.hid ea5
          have Ha6 := Lib.hid ea6
          clear hS4 ea5 ea6 HS3
          generalize wc = w7 at *
          go_upto_region 13 with fail
          go_cut [64] from 59 to 63 (fun s wx => s = .bool (f4 && b) ∧ RSt w h1 hF h4 f1 f2 f3 f4 ⟨K, C, N, t, o, ep, wd, v, x, y, z, q, b⟩ ⟨K, C, N, a5, a3, a4, a1, a2, 0, 0, 0, 0, a6⟩ wx)
          case first =>
            cases f4 with
            | false =>
              have hxf := HS4.out.fl
              have q0 := cell_of hxf 0
              have q1 := cell_of hxf 1
              have q2 := cell_of hxf 2
              have q3 := cell_of hxf 3
              simp only [List.getElem?_toArray, List.getElem?_cons_zero, List.getElem?_cons_succ] at q0 q1 q2 q3
              have hlf := (Array.getElem?_eq_some_iff.1 hxf).1
              go_wp2_with fail
              go_meet
              case rel => exact ⟨rfl, HS4.out⟩
            | true =>
              have hxf := HS4.out.fl
              have r0 := cell_of hxf 0
              have r1 := cell_of hxf 1
              have r2 := cell_of hxf 2
              have r3 := cell_of hxf 3
              simp only [List.getElem?_toArray, List.getElem?_cons_zero, List.getElem?_cons_succ] at r0 r1 r2 r3
              have hlf := (Array.getElem?_eq_some_iff.1 hxf).1
              have hxm := HS4.out.msg
              have q0 := cell_of hxm 0
              have q1 := cell_of hxm 1
              have q2 := cell_of hxm 2
              have q3 := cell_of hxm 3
              have q4 := cell_of hxm 4
              have q5 := cell_of hxm 5
              have q6 := cell_of hxm 6
              have q7 := cell_of hxm 7
              have q8 := cell_of hxm 8
              have q9 := cell_of hxm 9
              have q10 := cell_of hxm 10
              have q11 := cell_of hxm 11
              have q12 := cell_of hxm 12
              simp only [List.getElem?_toArray, List.getElem?_cons_zero, List.getElem?_cons_succ] at q0 q1 q2 q3 q4 q5 q6 q7 q8 q9 q10 q11 q12
              have hlx := (Array.getElem?_eq_some_iff.1 hxm).1
              go_wp2_with fail
              go_meet
              case rel => exact ⟨rfl, HS4.out⟩
          case rest =>
            obtain ⟨rfl, hS5⟩ := hcut
            have HS5 := Lib.hid hS5
            clear hS5 HS4
            generalize wc = w8 at *
            obtain ⟨f5, hf5⟩ : ∃ f, (f4 && b) = f := ⟨_, rfl⟩
            rw [hf5]
            have HF5 := Lib.hid hf5
            clear hf5
            go_upto_if 64 with fail
            go_cut [65] from 66 to 67 (fun _ wx => ∃ a7 a8 a9 a10 : Int, a7 = (if f5 then x else 0) ∧ a8 = (if f5 then y else 0) ∧ a9 = (if f5 then z else 0) ∧ a10 = (if f5 then q else 0) ∧ RSt w h1 hF h4 f1 f2 f3 f4 ⟨K, C, N, t, o, ep, wd, v, x, y, z, q, b⟩ ⟨K, C, N, a5, a3, a4, a1, a2, a7, a8, a9, a10, a6⟩ wx)
            case first =>
              cases f5 with
              | false =>
                go_wp2_with fail
                go_meet
                case rel => exact ⟨0, 0, 0, 0, rfl, rfl, rfl, rfl, HS5.out⟩
              | true =>
                have hxm := HS5.out.msg
                have hxb := HS5.out.bare
                have q0 := cell_of hxm 0
                have q1 := cell_of hxm 1
                have q2 := cell_of hxm 2
                have q3 := cell_of hxm 3
                have q4 := cell_of hxm 4
                have q5 := cell_of hxm 5
                have q6 := cell_of hxm 6
                have q7 := cell_of hxm 7
                have q8 := cell_of hxm 8
                have q9 := cell_of hxm 9
                have q10 := cell_of hxm 10
                have q11 := cell_of hxm 11
                have q12 := cell_of hxm 12
                have b0 := cell_of hxb 0
                have b1 := cell_of hxb 1
                have b2 := cell_of hxb 2
                have b3 := cell_of hxb 3
                have b4 := cell_of hxb 4
                have b5 := cell_of hxb 5
                have b6 := cell_of hxb 6
                have b7 := cell_of hxb 7
                have b8 := cell_of hxb 8
                have b9 := cell_of hxb 9
                have b10 := cell_of hxb 10
                have b11 := cell_of hxb 11
                have b12 := cell_of hxb 12
                simp only [List.getElem?_toArray, List.getElem?_cons_zero, List.getElem?_cons_succ] at q0 q1 q2 q3 q4 q5 q6 q7 q8 q9 q10 q11 q12 b0 b1 b2 b3 b4 b5 b6 b7 b8 b9 b10 b11 b12
                have hlx := (Array.getElem?_eq_some_iff.1 hxm).1
                have hlb := (Array.getElem?_eq_some_iff.1 hxb).1
                have z8 := frozen_of hxb 8
                have z9 := frozen_of hxb 9
                have z10 := frozen_of hxb 10
                have z11 := frozen_of hxb 11
                go_wp2_with fail
                go_meet
                case rel => exact ⟨x, y, z, q, rfl, rfl, rfl, rfl, HS5.out.set HLE.out.1 HLE.out.2.1 HLE.out.2.2 (((((Mods.refl (fun q => q = h4) w8).setCell (p := ⟨h4, 8, none⟩) rfl _).setCell (p := ⟨h4, 9, none⟩) rfl _).setCell (p := ⟨h4, 10, none⟩) rfl _).setCell (p := ⟨h4, 11, none⟩) rfl _) ((heap_setCell_at (k := 11) ((heap_setCell_at (k := 10) ((heap_setCell_at (k := 9) ((heap_setCell_at (k := 8) (HS5.out.bare) _).trans rfl) _).trans rfl) _).trans rfl) _).trans rfl)⟩
            case rest =>
              obtain ⟨a7, a8, a9, a10, ea7, ea8, ea9, ea10, hS6⟩ := hcut
              have HS6 := Lib.hid hS6
              have Ha7 := Lib.hid ea7
              have Ha8 := Lib.hid ea8
              have Ha9 := Lib.hid ea9
              have Ha10 := Lib.hid ea10
              clear hS6 ea7 ea8 ea9 ea10 HS5
              generalize wc = w9 at *
              obtain ⟨L, hL⟩ : ∃ L, limB ⟨K, C, N, t, o, ep, wd, v, x, y, z, q, b⟩ = L := ⟨_, rfl⟩
              have HL := Lib.hid hL
              clear hL
              go_upto_region 15 with fail
              go_cut [5] from 68 to 85 (fun s wx => s = .bool L ∧ RSt w h1 hF h4 f1 f2 f3 f4 ⟨K, C, N, t, o, ep, wd, v, x, y, z, q, b⟩ ⟨K, C, N, a5, a3, a4, a1, a2, a7, a8, a9, a10, a6⟩ wx)
              case first =>
                have hxm := HS6.out.msg
                have q0 := cell_of hxm 0
                have q1 := cell_of hxm 1
                have q2 := cell_of hxm 2
                have q3 := cell_of hxm 3
                have q4 := cell_of hxm 4
                have q5 := cell_of hxm 5
                have q6 := cell_of hxm 6
                have q7 := cell_of hxm 7
                have q8 := cell_of hxm 8
                have q9 := cell_of hxm 9
                have q10 := cell_of hxm 10
                have q11 := cell_of hxm 11
                have q12 := cell_of hxm 12
                simp only [List.getElem?_toArray, List.getElem?_cons_zero, List.getElem?_cons_succ] at q0 q1 q2 q3 q4 q5 q6 q7 q8 q9 q10 q11 q12
                have hlx := (Array.getElem?_eq_some_iff.1 hxm).1
                rcases (show inOk 0 3 wd = false ∨ inOk 0 3 wd = true by cases inOk 0 3 wd <;> simp) with hi | hi
                · have HI0 := Lib.hid hi
                  clear hi
                  go_wp2_with fail
                  refine (mwithin_c wd 0 3 _).mono ?_
                  rintro e w' ⟨rfl, rfl⟩
                  rw [HI0.out]
                  go_wp2_with fail
                  go_meet
                  case rel => exact ⟨by rw [show L = false from by rw [← HL.out]; show (inOk 0 3 wd && inOk 0 4 t && inOk 0 3 o && inOk 0 255 ep) = _; rw [HI0.out]; rfl], HS6.out⟩
                · have HI0 := Lib.hid hi
                  clear hi
                  rcases (show inOk 0 4 t = false ∨ inOk 0 4 t = true by cases inOk 0 4 t <;> simp) with hi | hi
                  · have HI1 := Lib.hid hi
                    clear hi
                    go_wp2_with fail
                    refine (mwithin_c wd 0 3 _).mono ?_
                    rintro e w' ⟨rfl, rfl⟩
                    rw [HI0.out]
                    go_wp2_with fail
                    refine (mwithin_c t 0 4 _).mono ?_
                    rintro e w' ⟨rfl, rfl⟩
                    rw [HI1.out]
                    go_wp2_with fail
                    go_meet
                    case rel => exact ⟨by rw [show L = false from by rw [← HL.out]; show (inOk 0 3 wd && inOk 0 4 t && inOk 0 3 o && inOk 0 255 ep) = _; rw [HI0.out, HI1.out]; rfl], HS6.out⟩
                  · have HI1 := Lib.hid hi
                    clear hi
                    rcases (show inOk 0 3 o = false ∨ inOk 0 3 o = true by cases inOk 0 3 o <;> simp) with hi | hi
                    · have HI2 := Lib.hid hi
                      clear hi
                      go_wp2_with fail
                      refine (mwithin_c wd 0 3 _).mono ?_
                      rintro e w' ⟨rfl, rfl⟩
                      rw [HI0.out]
                      go_wp2_with fail
                      refine (mwithin_c t 0 4 _).mono ?_
                      rintro e w' ⟨rfl, rfl⟩
                      rw [HI1.out]
                      go_wp2_with fail
                      refine (mwithin_c o 0 3 _).mono ?_
                      rintro e w' ⟨rfl, rfl⟩
                      rw [HI2.out]
                      go_wp2_with fail
                      go_meet
                      case rel => exact ⟨by rw [show L = false from by rw [← HL.out]; show (inOk 0 3 wd && inOk 0 4 t && inOk 0 3 o && inOk 0 255 ep) = _; rw [HI0.out, HI1.out, HI2.out]; rfl], HS6.out⟩
                    · have HI2 := Lib.hid hi
                      clear hi
                      rcases (show inOk 0 255 ep = false ∨ inOk 0 255 ep = true by cases inOk 0 255 ep <;> simp) with hi | hi
                      · have HI3 := Lib.hid hi
                        clear hi
                        go_wp2_with fail
                        refine (mwithin_c wd 0 3 _).mono ?_
                        rintro e w' ⟨rfl, rfl⟩
                        rw [HI0.out]
                        go_wp2_with fail
                        refine (mwithin_c t 0 4 _).mono ?_
                        rintro e w' ⟨rfl, rfl⟩
                        rw [HI1.out]
                        go_wp2_with fail
                        refine (mwithin_c o 0 3 _).mono ?_
                        rintro e w' ⟨rfl, rfl⟩
                        rw [HI2.out]
                        go_wp2_with fail
                        refine (mwithin_c ep 0 255 _).mono ?_
                        rintro e w' ⟨rfl, rfl⟩
                        rw [HI3.out]
                        go_wp2_with fail
                        go_meet
                        case rel => exact ⟨by rw [show L = false from by rw [← HL.out]; show (inOk 0 3 wd && inOk 0 4 t && inOk 0 3 o && inOk 0 255 ep) = _; rw [HI0.out, HI1.out, HI2.out, HI3.out]; rfl], HS6.out⟩
                      · have HI3 := Lib.hid hi
                        clear hi
                        go_wp2_with fail
                        refine (mwithin_c wd 0 3 _).mono ?_
                        rintro e w' ⟨rfl, rfl⟩
                        rw [HI0.out]
                        go_wp2_with fail
                        refine (mwithin_c t 0 4 _).mono ?_
                        rintro e w' ⟨rfl, rfl⟩
                        rw [HI1.out]
                        go_wp2_with fail
                        refine (mwithin_c o 0 3 _).mono ?_
                        rintro e w' ⟨rfl, rfl⟩
                        rw [HI2.out]
                        go_wp2_with fail
                        refine (mwithin_c ep 0 255 _).mono ?_
                        rintro e w' ⟨rfl, rfl⟩
                        rw [HI3.out]
                        go_wp2_with fail
                        go_meet
                        case rel => exact ⟨by rw [show L = true from by rw [← HL.out]; show (inOk 0 3 wd && inOk 0 4 t && inOk 0 3 o && inOk 0 255 ep) = _; rw [HI0.out, HI1.out, HI2.out, HI3.out]; rfl], HS6.out⟩
              case rest =>
                obtain ⟨rfl, hS7⟩ := hcut
                have HS7 := Lib.hid hS7
                clear hS7 HS6
                generalize wc = w10 at *
                obtain ⟨G, hG⟩ : ∃ G, granB ⟨K, C, N, t, o, ep, wd, v, x, y, z, q, b⟩ = G := ⟨_, rfl⟩
                have HG := Lib.hid hG
                clear hG
                go_upto_region 16 with fail
                go_cut [6] from 86 to 98 (fun s wx => s = .bool G ∧ RSt w h1 hF h4 f1 f2 f3 f4 ⟨K, C, N, t, o, ep, wd, v, x, y, z, q, b⟩ ⟨K, C, N, a5, a3, a4, a1, a2, a7, a8, a9, a10, a6⟩ wx)
                case first =>
                  have hxm := HS7.out.msg
                  have q0 := cell_of hxm 0
                  have q1 := cell_of hxm 1
                  have q2 := cell_of hxm 2
                  have q3 := cell_of hxm 3
                  have q4 := cell_of hxm 4
                  have q5 := cell_of hxm 5
                  have q6 := cell_of hxm 6
                  have q7 := cell_of hxm 7
                  have q8 := cell_of hxm 8
                  have q9 := cell_of hxm 9
                  have q10 := cell_of hxm 10
                  have q11 := cell_of hxm 11
                  have q12 := cell_of hxm 12
                  simp only [List.getElem?_toArray, List.getElem?_cons_zero, List.getElem?_cons_succ] at q0 q1 q2 q3 q4 q5 q6 q7 q8 q9 q10 q11 q12
                  have hlx := (Array.getElem?_eq_some_iff.1 hxm).1
                  rcases (show (K != 13) = true ∨ (K != 13) = false by cases (K != 13) <;> simp) with g1 | g1
                  · have H1 := Lib.hid g1
                    go_wp2_with fail
                    go_meet
                    case rel => exact ⟨by rw [show G = true from by rw [← HG.out]; show (K != 13 || (t != 0 && t != 3)) = _; rw [H1.out]; rfl], HS7.out⟩
                  · have H1 := Lib.hid g1
                    rcases (show (t != 0) = true ∨ (t != 0) = false by cases (t != 0) <;> simp) with g2 | g2
                    · have H2 := Lib.hid g2
                      rcases (show (t != 3) = true ∨ (t != 3) = false by cases (t != 3) <;> simp) with g3 | g3
                      · have H3 := Lib.hid g3
                        go_wp2_with fail
                        go_meet
                        case rel => exact ⟨by rw [show G = true from by rw [← HG.out]; show (K != 13 || (t != 0 && t != 3)) = _; rw [H1.out, H2.out, H3.out]; rfl], HS7.out⟩
                      · have H3 := Lib.hid g3
                        go_wp2_with fail
                        go_meet
                        case rel => exact ⟨by rw [show G = false from by rw [← HG.out]; show (K != 13 || (t != 0 && t != 3)) = _; rw [H1.out, H2.out, H3.out]; rfl], HS7.out⟩
                    · have H2 := Lib.hid g2
                      go_wp2_with fail
                      go_meet
                      case rel => exact ⟨by rw [show G = false from by rw [← HG.out]; show (K != 13 || (t != 0 && t != 3)) = _; rw [H1.out, H2.out]; rfl], HS7.out⟩
                case rest =>
                  obtain ⟨rfl, hS8⟩ := hcut
                  have HS8 := Lib.hid hS8
                  clear hS8 HS7
                  generalize wc = w11 at *
                  have hxm := HS8.out.msg
                  have hxb := HS8.out.bare
                  have q0 := cell_of hxm 0
                  have q1 := cell_of hxm 1
                  have q2 := cell_of hxm 2
                  have q3 := cell_of hxm 3
                  have q4 := cell_of hxm 4
                  have q5 := cell_of hxm 5
                  have q6 := cell_of hxm 6
                  have q7 := cell_of hxm 7
                  have q8 := cell_of hxm 8
                  have q9 := cell_of hxm 9
                  have q10 := cell_of hxm 10
                  have q11 := cell_of hxm 11
                  have q12 := cell_of hxm 12
                  have b0 := cell_of hxb 0
                  have b1 := cell_of hxb 1
                  have b2 := cell_of hxb 2
                  have b3 := cell_of hxb 3
                  have b4 := cell_of hxb 4
                  have b5 := cell_of hxb 5
                  have b6 := cell_of hxb 6
                  have b7 := cell_of hxb 7
                  have b8 := cell_of hxb 8
                  have b9 := cell_of hxb 9
                  have b10 := cell_of hxb 10
                  have b11 := cell_of hxb 11
                  have b12 := cell_of hxb 12
                  simp only [List.getElem?_toArray, List.getElem?_cons_zero, List.getElem?_cons_succ] at q0 q1 q2 q3 q4 q5 q6 q7 q8 q9 q10 q11 q12 b0 b1 b2 b3 b4 b5 b6 b7 b8 b9 b10 b11 b12
                  have hlx := (Array.getElem?_eq_some_iff.1 hxm).1
                  have hlb := (Array.getElem?_eq_some_iff.1 hxb).1
                  have HBV := Lib.hid (show bareOf ⟨K, C, N, t, o, ep, wd, v, x, y, z, q, b⟩ = ⟨K, C, N, a5, a3, a4, a1, a2, a7, a8, a9, a10, a6⟩ by
                    rw [Ha1.out, Ha2.out, Ha3.out, Ha4.out, Ha5.out, Ha6.out, Ha7.out, Ha8.out, Ha9.out, Ha10.out, ← HF5.out, ← HF1.out, ← HF2.out, ← HF3.out, ← HF4.out]
                    cases h : mgS K <;> simp [bareOf, h])
                  have HR := Lib.hid (show rightM ⟨K, C, N, t, o, ep, wd, v, x, y, z, q, b⟩ = (eqM ⟨K, C, N, t, o, ep, wd, v, x, y, z, q, b⟩ ⟨K, C, N, a5, a3, a4, a1, a2, a7, a8, a9, a10, a6⟩ && L && G) by
                    rw [← HBV.out, ← HL.out, ← HG.out]
                    exact rightM_parts ⟨K, C, N, t, o, ep, wd, v, x, y, z, q, b⟩ HK.out HC.out HN.out)
                  have heq := fun w => run_eqMs K C N t o ep wd v x y z q K C N a5 a3 a4 a1 a2 a7 a8 a9 a10 b a6 w
                  obtain ⟨E, hE⟩ : ∃ E, eqM ⟨K, C, N, t, o, ep, wd, v, x, y, z, q, b⟩ ⟨K, C, N, a5, a3, a4, a1, a2, a7, a8, a9, a10, a6⟩ = E := ⟨_, rfl⟩
                  rw [hE] at heq
                  have HE := Lib.hid hE
                  clear hE
                  cases E with
                  | false =>
                    go_wp2_with fail
                    go_ret
                    exact ⟨by rw [HR.out, HE.out]; rfl, HS8.out.below⟩
                  | true =>
                    cases L with
                    | false =>
                      go_wp2_with fail
                      go_ret
                      exact ⟨by rw [HR.out, HE.out]; rfl, HS8.out.below⟩
                    | true =>
                      cases G with
                      | false =>
                        go_wp2_with fail
                        go_ret
                        exact ⟨by rw [HR.out, HE.out]; rfl, HS8.out.below⟩
                      | true =>
                        go_wp2_with fail
                        go_ret
                        exact ⟨by rw [HR.out, HE.out]; rfl, HS8.out.below⟩

end Go.Proofs.YtbefkkefglkleaaDoor
