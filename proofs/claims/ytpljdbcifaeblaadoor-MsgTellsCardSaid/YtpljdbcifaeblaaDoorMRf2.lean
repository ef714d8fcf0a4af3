/- The reference's Put. -/
import Derived.Test.YtpljdbcifaeblaaDoorMRf1
import Derived.Test.YtpljdbcifaeblaaDoorMg2
import Derived.Test.YtpljdbcifaeblaaDoorRPk1
namespace Go.Proofs.YtpljdbcifaeblaaDoor
open Go.RowKit Go.Extern.Stop Go.Stop Go.Extern

/-- The message, and the bytes of the numbers so far. -/
structure PQ (w : World) (h1 : Nat) (m : MsgV) (s : Value) (l : List Int) (wx : World) : Prop where
  row : winRow wx (h1 + 1) 5 1 s (encL l).length (byteV (encL l))
  msg : wx.heap[h1]? = some (.cells #[.int .i64 m.kind, .int .i64 m.core, .int .i64 m.line, .int .i64 m.state, .int .i64 m.mode, .int .i64 m.epoch, .int .i64 m.word, .int .u32 m.val, .int .u32 m.d0, .int .u32 m.d1, .int .u32 m.d2, .int .u32 m.d3, .bool m.has] 54 (0, 0))
  below : Below w.heap.size w wx
  lo : w.heap.size ≤ h1
  fit : ∀ n ∈ l, in64 n
section
variable {w wr wq : World} {h1 : Nat} {m : MsgV} {s : Value} {l : List Int}
theorem PQ.lt (h : PQ w h1 m s l wr) : h1 < wr.heap.size := (Array.getElem?_eq_some_iff.1 h.msg).1
theorem PQ.bel (h : PQ w h1 m s l wr) (hb : Below wr.heap.size wr wq) : PQ w h1 m s l wq :=
  ⟨h.row.below hb, (hb.block h1 h.lt).trans h.msg, h.below.trans (hb.mono h.below.size), h.lo, h.fit⟩
theorem rnumP_c {n : Int} (h : PQ w h1 m s l wr) (hn : in64 n) (hl : l.length ≤ 15) : Calls Tryd.prog 50 #[s, .int .i64 n] wr fun ev w' => ∃ u, ev = .returned u ∧ PQ w h1 m u (l ++ [n]) w' ∧ Below wr.heap.size wr w' := by
  have h150 : (encL l).length ≤ 150 := by
    have := encL_len l h.fit
    omega
  refine (rNum_c s (encL l) n wr h.row.slc hn (by omega)).mono ?_
  rintro ev w' ⟨u, rfl, hu, hb⟩
  have e : encL (l ++ [n]) = encL l ++ enc (zig n) := by simp [encL_append, encL]
  refine ⟨u, rfl, ⟨?_, (hb.block h1 h.lt).trans h.msg, h.below.trans (hb.mono h.below.size), h.lo, ?_⟩, hb⟩
  · rw [e, List.length_append]
    exact hu.base2 h.lt
  · intro x hx
    rcases List.mem_append.1 hx with h2 | h2
    · exact h.fit x h2
    · rw [List.mem_singleton.1 h2]
      exact hn
theorem PQ.done (h : PQ w h1 m s l wr) (hr : putM m = encL l) : MPutP w m (.returned s) wr := by
  refine ⟨s, rfl, ?_, h.below⟩
  rw [hr]
  exact h.row.base2 (by have := h.lo; omega)
end

set_option maxRecDepth 100000 in
set_option maxHeartbeats 8000000 in
theorem rput_c (m : MsgV) (w : World) (hf : m.fit) : Calls Tryd.prog 32 #[m.v] w (MPutP w m) := by
  have HF := Lib.hid hf
  have HV := Lib.hid hf.val
  have HD := Lib.hid (And.intro (And.intro hf.d0 hf.d1) (And.intro hf.d2 hf.d3))
  obtain ⟨K, C, N, t, o, ep, wd, v, x, y, z, q, b⟩ := m
  simp only at HV HD
  have hv1 : 0 ≤ v := HV.out.1
  have hv2 : v ≤ 4294967295 := HV.out.2
  have HD1 := HD.out
  have x1 : 0 ≤ x := HD1.1.1.1
  have x2 : x ≤ 4294967295 := HD1.1.1.2
  have y1 : 0 ≤ y := HD1.1.2.1
  have y2 : y ≤ 4294967295 := HD1.1.2.2
  have z1 : 0 ≤ z := HD1.2.1.1
  have z2 : z ≤ 4294967295 := HD1.2.1.2
  have p1 : 0 ≤ q := HD1.2.2.1
  have p2 : q ≤ 4294967295 := HD1.2.2.2
  clear hf HV HD HD1
  simp only [MsgV.v]
  have hX := heap_alloc_new w (.cells #[.int .i64 K, .int .i64 C, .int .i64 N, .int .i64 t, .int .i64 o, .int .i64 ep, .int .i64 wd, .int .u32 v, .int .u32 x, .int .u32 y, .int .u32 z, .int .u32 q, .bool b] 54)
  have hba : Below w.heap.size w (w.alloc (.cells #[.int .i64 K, .int .i64 C, .int .i64 N, .int .i64 t, .int .i64 o, .int .i64 ep, .int .i64 wd, .int .u32 v, .int .u32 x, .int .u32 y, .int .u32 z, .int .u32 q, .bool b] 54)) := (Below.refl _ _).alloc (Nat.le_refl _) _
  have HX := Lib.hid hX
  have HBA := Lib.hid hba
  have HCN := Lib.hid (cell_of hX)
  clear hX hba
  go_enter Tryd.func32, Tryd.ntmps32
  go_wp2_with fail
  refine (rright_c ⟨K, C, N, t, o, ep, wd, v, x, y, z, q, b⟩ (w.alloc (.cells #[.int .i64 K, .int .i64 C, .int .i64 N, .int .i64 t, .int .i64 o, .int .i64 ep, .int .i64 wd, .int .u32 v, .int .u32 x, .int .u32 y, .int .u32 z, .int .u32 q, .bool b] 54))).mono ?_
  rintro ev w2 ⟨rfl, hb2⟩
  have HB2 := Lib.hid (HBA.out.trans (hb2.mono (by simp)))
  have HX2 := Lib.hid ((hb2.block w.heap.size (by simp)).trans HX.out)
  clear hb2 HX HBA HCN
  cases hr : rightM ⟨K, C, N, t, o, ep, wd, v, x, y, z, q, b⟩ with
  | false =>
    have HR := Lib.hid hr
    clear hr
    go_wp2_with fail
    go_ret
    unfold MPutP
    rw [show putM ⟨K, C, N, t, o, ep, wd, v, x, y, z, q, b⟩ = [] by unfold putM; rw [HR.out]; rfl]
    exact ⟨_, rfl, winRow_nil _ _ _ _, HB2.out⟩
  | true =>
    have HR := Lib.hid hr
    have HRI := Lib.hid ((rightM_iff _).1 hr)
    clear hr
    have HP0 := Lib.hid (show PQ w w.heap.size ⟨K, C, N, t, o, ep, wd, v, x, y, z, q, b⟩ (.slice none 0 0) [] w2 from ⟨winRow_nil _ _ _ _, HX2.out, HB2.out, Nat.le_refl _, by intro n hn; cases hn⟩)
    obtain ⟨h1, hh1⟩ : ∃ h1, h1 = w.heap.size := ⟨_, rfl⟩
    rw [← hh1] at HP0 ⊢
    clear hh1 HX2 HB2
    go_upto_region 3 with fail
    have hxm := HP0.out.msg
    have q0 := cell_of hxm 0
    have q1 := cell_of hxm 1
    have q2 := cell_of hxm 2
    simp only [List.getElem?_toArray, List.getElem?_cons_zero, List.getElem?_cons_succ] at q0 q1 q2
    have hlx := (Array.getElem?_eq_some_iff.1 hxm).1
    refine wp_region_lexA ⟨[], []⟩ (fun x => Below w2.heap.size w2 x) (by kernel_rfl) (by kernel_rfl) (Below.refl _ _).drew ?_
    intro S hto hof hne
    have x0 : ∀ u0 : Wd S, u0.w.cell? ⟨h1, 0, none⟩ = some (.int .i64 K) := fun u0 => ((hto u0).cell (p := ⟨h1, 0, none⟩) hlx).trans q0
    have x1 : ∀ u0 : Wd S, u0.w.cell? ⟨h1, 1, none⟩ = some (.int .i64 C) := fun u0 => ((hto u0).cell (p := ⟨h1, 1, none⟩) hlx).trans q1
    have x2 : ∀ u0 : Wd S, u0.w.cell? ⟨h1, 2, none⟩ = some (.int .i64 N) := fun u0 => ((hto u0).cell (p := ⟨h1, 2, none⟩) hlx).trans q2
    have Hof := Lib.hid hof
    clear hto hof
    clear hxm hlx q0 q1 q2
    refine lexW_light 2 (by kernel_rfl) ?_
    simp only [List.take_succ_cons, List.take_zero, List.drop_succ_cons, List.drop_zero]
    repeat (first | go_big_quiet_skip | (go_big_quiet_want; go_big_quiet_op; go_big_quiet_on))
    refine wpQuiet_nil ?_
    refine lexW_heavy (by kernel_rfl) ?_
    go_wp2_with fail
    refine (rnumP_c (l := []) (n := K) (HP0.out.bel (Below.refl _ _).drew) HF.out.kind (by simp)).mono ?_
    rintro ev y1 ⟨u1, rfl, hp, hb⟩
    have HP1 := Lib.hid (show PQ w h1 ⟨K, C, N, t, o, ep, wd, v, x, y, z, q, b⟩ u1 [K] y1 from hp)
    have HB1 := Lib.hid ((Below.refl w2.heap.size w2).drew.trans hb)
    clear hp hb
    go_wp2_with fail
    refine lexQ_more (Hof.out _ HB1.out) ?_
    refine lexW_light 2 (by kernel_rfl) ?_
    simp only [List.take_succ_cons, List.take_zero, List.drop_succ_cons, List.drop_zero]
    repeat (first | go_big_quiet_skip | (go_big_quiet_want; go_big_quiet_op; go_big_quiet_on))
    refine wpQuiet_nil ?_
    refine lexW_heavy (by kernel_rfl) ?_
    go_wp2_with fail
    refine (rnumP_c (l := [K]) (n := C) HP1.out HF.out.core (by simp)).mono ?_
    rintro ev y2 ⟨u2, rfl, hp, hb⟩
    have HP2 := Lib.hid (show PQ w h1 ⟨K, C, N, t, o, ep, wd, v, x, y, z, q, b⟩ u2 [K, C] y2 from hp)
    have HB2 := Lib.hid (HB1.out.trans (hb.mono HB1.out.size))
    clear hp hb
    go_wp2_with fail
    refine lexQ_more (Hof.out _ HB2.out) ?_
    refine lexW_light 2 (by kernel_rfl) ?_
    simp only [List.take_succ_cons, List.take_zero, List.drop_succ_cons, List.drop_zero]
    repeat (first | go_big_quiet_skip | (go_big_quiet_want; go_big_quiet_op; go_big_quiet_on))
    refine wpQuiet_nil ?_
    refine lexW_heavy (by kernel_rfl) ?_
    go_wp2_with fail
    refine (rnumP_c (l := [K, C]) (n := N) HP2.out HF.out.line (by simp)).mono ?_
    rintro ev y3 ⟨u3, rfl, hp, hb⟩
    have HP3 := Lib.hid (show PQ w h1 ⟨K, C, N, t, o, ep, wd, v, x, y, z, q, b⟩ u3 [K, C, N] y3 from hp)
    have HB3 := Lib.hid (HB2.out.trans (hb.mono HB2.out.size))
    clear hp hb
    go_wp2_with fail
    refine lexQ_more (Hof.out _ HB3.out) ?_
    refine lexW_light 1 (by kernel_rfl) ?_
    simp only [List.take_succ_cons, List.take_zero, List.drop_succ_cons, List.drop_zero]
    repeat (first | go_big_quiet_skip | (go_big_quiet_want; go_big_quiet_op; go_big_quiet_on))
    refine wpQuiet_nil ?_
    refine lexW_done ?_
    clear Hof hne x0 x1 x2
    have hxm := HP3.out.msg
    have q0 := cell_of hxm 0
    simp only [List.getElem?_toArray, List.getElem?_cons_zero] at q0
    have hlx := (Array.getElem?_eq_some_iff.1 hxm).1
    go_upto_block 0 with fail
    clear hxm hlx q0
    by_cases h3 : K = 3
    · subst h3
      obtain rfl : b = false := (HRI.out.bare.state rfl).2
      go_upto_region 24 with fail
      have hxm := HP3.out.msg
      have q6 := cell_of hxm 6
      have q7 := cell_of hxm 7
      simp only [List.getElem?_toArray, List.getElem?_cons_zero, List.getElem?_cons_succ] at q6 q7
      have hlx := (Array.getElem?_eq_some_iff.1 hxm).1
      refine wp_region_lexA ⟨[], []⟩ (fun x => Below y3.heap.size y3 x) (by kernel_rfl) (by kernel_rfl) (Below.refl _ _).drew ?_
      intro S hto hof hne
      have x6 : ∀ u0 : Wd S, u0.w.cell? ⟨h1, 6, none⟩ = some (.int .i64 wd) := fun u0 => ((hto u0).cell (p := ⟨h1, 6, none⟩) hlx).trans q6
      have x7 : ∀ u0 : Wd S, u0.w.cell? ⟨h1, 7, none⟩ = some (.int .u32 v) := fun u0 => ((hto u0).cell (p := ⟨h1, 7, none⟩) hlx).trans q7
      have Hof := Lib.hid hof
      clear hto hof
      clear hxm hlx q6 q7
      refine lexW_light 3 (by kernel_rfl) ?_
      simp only [List.take_succ_cons, List.take_zero, List.drop_succ_cons, List.drop_zero]
      repeat (first | go_big_quiet_skip | (go_big_quiet_want; go_big_quiet_op; go_big_quiet_on))
      refine wpQuiet_nil ?_
      refine lexW_heavy (by kernel_rfl) ?_
      go_wp2_with fail
      refine (rnumP_c (l := [3, C, N]) (n := wd) (HP3.out.bel (Below.refl _ _).drew) HF.out.word (by simp)).mono ?_
      rintro ev y4 ⟨u4, rfl, hp, hb⟩
      have HP4 := Lib.hid (show PQ w h1 ⟨3, C, N, t, o, ep, wd, v, x, y, z, q, false⟩ u4 [3, C, N, wd] y4 from hp)
      have HB4 := Lib.hid ((Below.refl y3.heap.size y3).drew.trans hb)
      clear hp hb
      go_wp2_with fail
      refine lexQ_more (Hof.out _ HB4.out) ?_
      refine lexW_light 3 (by kernel_rfl) ?_
      simp only [List.take_succ_cons, List.take_zero, List.drop_succ_cons, List.drop_zero]
      repeat (first | go_big_quiet_skip | (go_big_quiet_want; go_big_quiet_op; go_big_quiet_on))
      refine wpQuiet_nil ?_
      refine lexW_heavy (by kernel_rfl) ?_
      go_wp2_with fail
      refine (rnumP_c (l := [3, C, N, wd]) (n := v) HP4.out HF.out.val.big (by simp)).mono ?_
      rintro ev y5 ⟨u5, rfl, hp, hb⟩
      have HP5 := Lib.hid (show PQ w h1 ⟨3, C, N, t, o, ep, wd, v, x, y, z, q, false⟩ u5 [3, C, N, wd, v] y5 from hp)
      have HB5 := Lib.hid (HB4.out.trans (hb.mono HB4.out.size))
      clear hp hb
      go_wp2_with fail
      refine lexQ_more (Hof.out _ HB5.out) ?_
      refine lexW_light 1 (by kernel_rfl) ?_
      simp only [List.take_succ_cons, List.take_zero, List.drop_succ_cons, List.drop_zero]
      repeat (first | go_big_quiet_skip | (go_big_quiet_want; go_big_quiet_op; go_big_quiet_on))
      refine wpQuiet_nil ?_
      refine lexW_done ?_
      clear Hof hne x6 x7
      go_wp2_with fail
      go_ret
      exact HP5.out.done (by unfold putM; rw [HR.out, ← encL_nums]; rfl)
    have g3 : (K == 3) = false := by simpa using h3
    by_cases h8 : K = 8
    · subst h8
      obtain rfl : b = false := (HRI.out.bare.state rfl).2
      go_upto_region 24 with fail
      have hxm := HP3.out.msg
      have q6 := cell_of hxm 6
      have q7 := cell_of hxm 7
      simp only [List.getElem?_toArray, List.getElem?_cons_zero, List.getElem?_cons_succ] at q6 q7
      have hlx := (Array.getElem?_eq_some_iff.1 hxm).1
      refine wp_region_lexA ⟨[], []⟩ (fun x => Below y3.heap.size y3 x) (by kernel_rfl) (by kernel_rfl) (Below.refl _ _).drew ?_
      intro S hto hof hne
      have x6 : ∀ u0 : Wd S, u0.w.cell? ⟨h1, 6, none⟩ = some (.int .i64 wd) := fun u0 => ((hto u0).cell (p := ⟨h1, 6, none⟩) hlx).trans q6
      have x7 : ∀ u0 : Wd S, u0.w.cell? ⟨h1, 7, none⟩ = some (.int .u32 v) := fun u0 => ((hto u0).cell (p := ⟨h1, 7, none⟩) hlx).trans q7
      have Hof := Lib.hid hof
      clear hto hof
      clear hxm hlx q6 q7
      refine lexW_light 3 (by kernel_rfl) ?_
      simp only [List.take_succ_cons, List.take_zero, List.drop_succ_cons, List.drop_zero]
      repeat (first | go_big_quiet_skip | (go_big_quiet_want; go_big_quiet_op; go_big_quiet_on))
      refine wpQuiet_nil ?_
      refine lexW_heavy (by kernel_rfl) ?_
      go_wp2_with fail
      refine (rnumP_c (l := [8, C, N]) (n := wd) (HP3.out.bel (Below.refl _ _).drew) HF.out.word (by simp)).mono ?_
      rintro ev y4 ⟨u4, rfl, hp, hb⟩
      have HP4 := Lib.hid (show PQ w h1 ⟨8, C, N, t, o, ep, wd, v, x, y, z, q, false⟩ u4 [8, C, N, wd] y4 from hp)
      have HB4 := Lib.hid ((Below.refl y3.heap.size y3).drew.trans hb)
      clear hp hb
      go_wp2_with fail
      refine lexQ_more (Hof.out _ HB4.out) ?_
      refine lexW_light 3 (by kernel_rfl) ?_
      simp only [List.take_succ_cons, List.take_zero, List.drop_succ_cons, List.drop_zero]
      repeat (first | go_big_quiet_skip | (go_big_quiet_want; go_big_quiet_op; go_big_quiet_on))
      refine wpQuiet_nil ?_
      refine lexW_heavy (by kernel_rfl) ?_
      go_wp2_with fail
      refine (rnumP_c (l := [8, C, N, wd]) (n := v) HP4.out HF.out.val.big (by simp)).mono ?_
      rintro ev y5 ⟨u5, rfl, hp, hb⟩
      have HP5 := Lib.hid (show PQ w h1 ⟨8, C, N, t, o, ep, wd, v, x, y, z, q, false⟩ u5 [8, C, N, wd, v] y5 from hp)
      have HB5 := Lib.hid (HB4.out.trans (hb.mono HB4.out.size))
      clear hp hb
      go_wp2_with fail
      refine lexQ_more (Hof.out _ HB5.out) ?_
      refine lexW_light 1 (by kernel_rfl) ?_
      simp only [List.take_succ_cons, List.take_zero, List.drop_succ_cons, List.drop_zero]
      repeat (first | go_big_quiet_skip | (go_big_quiet_want; go_big_quiet_op; go_big_quiet_on))
      refine wpQuiet_nil ?_
      refine lexW_done ?_
      clear Hof hne x6 x7
      go_wp2_with fail
      go_ret
      exact HP5.out.done (by unfold putM; rw [HR.out, ← encL_nums]; rfl)
    have g8 : (K == 8) = false := by simpa using h8
    by_cases h14 : K = 14
    · subst h14
      obtain rfl : b = false := (HRI.out.bare.state rfl).2
      go_upto_region 24 with fail
      have hxm := HP3.out.msg
      have q6 := cell_of hxm 6
      have q7 := cell_of hxm 7
      simp only [List.getElem?_toArray, List.getElem?_cons_zero, List.getElem?_cons_succ] at q6 q7
      have hlx := (Array.getElem?_eq_some_iff.1 hxm).1
      refine wp_region_lexA ⟨[], []⟩ (fun x => Below y3.heap.size y3 x) (by kernel_rfl) (by kernel_rfl) (Below.refl _ _).drew ?_
      intro S hto hof hne
      have x6 : ∀ u0 : Wd S, u0.w.cell? ⟨h1, 6, none⟩ = some (.int .i64 wd) := fun u0 => ((hto u0).cell (p := ⟨h1, 6, none⟩) hlx).trans q6
      have x7 : ∀ u0 : Wd S, u0.w.cell? ⟨h1, 7, none⟩ = some (.int .u32 v) := fun u0 => ((hto u0).cell (p := ⟨h1, 7, none⟩) hlx).trans q7
      have Hof := Lib.hid hof
      clear hto hof
      clear hxm hlx q6 q7
      refine lexW_light 3 (by kernel_rfl) ?_
      simp only [List.take_succ_cons, List.take_zero, List.drop_succ_cons, List.drop_zero]
      repeat (first | go_big_quiet_skip | (go_big_quiet_want; go_big_quiet_op; go_big_quiet_on))
      refine wpQuiet_nil ?_
      refine lexW_heavy (by kernel_rfl) ?_
      go_wp2_with fail
      refine (rnumP_c (l := [14, C, N]) (n := wd) (HP3.out.bel (Below.refl _ _).drew) HF.out.word (by simp)).mono ?_
      rintro ev y4 ⟨u4, rfl, hp, hb⟩
      have HP4 := Lib.hid (show PQ w h1 ⟨14, C, N, t, o, ep, wd, v, x, y, z, q, false⟩ u4 [14, C, N, wd] y4 from hp)
      have HB4 := Lib.hid ((Below.refl y3.heap.size y3).drew.trans hb)
      clear hp hb
      go_wp2_with fail
      refine lexQ_more (Hof.out _ HB4.out) ?_
      refine lexW_light 3 (by kernel_rfl) ?_
      simp only [List.take_succ_cons, List.take_zero, List.drop_succ_cons, List.drop_zero]
      repeat (first | go_big_quiet_skip | (go_big_quiet_want; go_big_quiet_op; go_big_quiet_on))
      refine wpQuiet_nil ?_
      refine lexW_heavy (by kernel_rfl) ?_
      go_wp2_with fail
      refine (rnumP_c (l := [14, C, N, wd]) (n := v) HP4.out HF.out.val.big (by simp)).mono ?_
      rintro ev y5 ⟨u5, rfl, hp, hb⟩
      have HP5 := Lib.hid (show PQ w h1 ⟨14, C, N, t, o, ep, wd, v, x, y, z, q, false⟩ u5 [14, C, N, wd, v] y5 from hp)
      have HB5 := Lib.hid (HB4.out.trans (hb.mono HB4.out.size))
      clear hp hb
      go_wp2_with fail
      refine lexQ_more (Hof.out _ HB5.out) ?_
      refine lexW_light 1 (by kernel_rfl) ?_
      simp only [List.take_succ_cons, List.take_zero, List.drop_succ_cons, List.drop_zero]
      repeat (first | go_big_quiet_skip | (go_big_quiet_want; go_big_quiet_op; go_big_quiet_on))
      refine wpQuiet_nil ?_
      refine lexW_done ?_
      clear Hof hne x6 x7
      go_wp2_with fail
      go_ret
      exact HP5.out.done (by unfold putM; rw [HR.out, ← encL_nums]; rfl)
    have g14 : (K == 14) = false := by simpa using h14
    by_cases h9 : K = 9
    · subst h9
      obtain rfl : b = false := (HRI.out.bare.state rfl).2
      have hxm := HP3.out.msg
      have q5 := cell_of hxm 5
      simp only [List.getElem?_toArray, List.getElem?_cons_zero, List.getElem?_cons_succ] at q5
      have hlx := (Array.getElem?_eq_some_iff.1 hxm).1
      go_wp2_with fail
      refine (rnumP_c (l := [9, C, N]) (n := ep) HP3.out HF.out.epoch (by simp)).mono ?_
      rintro ev y4 ⟨u4, rfl, hp, hb⟩
      have HP4 := Lib.hid (show PQ w h1 ⟨9, C, N, t, o, ep, wd, v, x, y, z, q, false⟩ u4 [9, C, N, ep] y4 from hp)
      clear hp hb
      clear hxm hlx q5
      have hxm := HP4.out.msg
      have q4 := cell_of hxm 4
      simp only [List.getElem?_toArray, List.getElem?_cons_zero, List.getElem?_cons_succ] at q4
      have hlx := (Array.getElem?_eq_some_iff.1 hxm).1
      go_wp2_with fail
      refine (rnumP_c (l := [9, C, N, ep]) (n := o) HP4.out HF.out.mode (by simp)).mono ?_
      rintro ev y5 ⟨u5, rfl, hp, hb⟩
      have HP5 := Lib.hid (show PQ w h1 ⟨9, C, N, t, o, ep, wd, v, x, y, z, q, false⟩ u5 [9, C, N, ep, o] y5 from hp)
      clear hp hb
      clear hxm hlx q4
      go_wp2_with fail
      go_ret
      exact HP5.out.done (by unfold putM; rw [HR.out, ← encL_nums]; rfl)
    have g9 : (K == 9) = false := by simpa using h9
    by_cases h5 : K = 5
    · subst h5
      obtain rfl : b = false := (HRI.out.bare.state rfl).2
      have hxm := HP3.out.msg
      have q4 := cell_of hxm 4
      simp only [List.getElem?_toArray, List.getElem?_cons_zero, List.getElem?_cons_succ] at q4
      have hlx := (Array.getElem?_eq_some_iff.1 hxm).1
      go_wp2_with fail
      refine (rnumP_c (l := [5, C, N]) (n := o) HP3.out HF.out.mode (by simp)).mono ?_
      rintro ev y4 ⟨u4, rfl, hp, hb⟩
      have HP4 := Lib.hid (show PQ w h1 ⟨5, C, N, t, o, ep, wd, v, x, y, z, q, false⟩ u4 [5, C, N, o] y4 from hp)
      clear hp hb
      clear hxm hlx q4
      go_wp2_with fail
      go_ret
      exact HP4.out.done (by unfold putM; rw [HR.out, ← encL_nums]; rfl)
    have g5 : (K == 5) = false := by simpa using h5
    by_cases h13 : K = 13
    · subst h13
      go_upto_region 12 with fail
      have hxm := HP3.out.msg
      have q4 := cell_of hxm 4
      have q5 := cell_of hxm 5
      simp only [List.getElem?_toArray, List.getElem?_cons_zero, List.getElem?_cons_succ] at q4 q5
      have hlx := (Array.getElem?_eq_some_iff.1 hxm).1
      refine wp_region_lexA ⟨[], []⟩ (fun x => Below y3.heap.size y3 x) (by kernel_rfl) (by kernel_rfl) (Below.refl _ _).drew ?_
      intro S hto hof hne
      have x4 : ∀ u0 : Wd S, u0.w.cell? ⟨h1, 4, none⟩ = some (.int .i64 o) := fun u0 => ((hto u0).cell (p := ⟨h1, 4, none⟩) hlx).trans q4
      have x5 : ∀ u0 : Wd S, u0.w.cell? ⟨h1, 5, none⟩ = some (.int .i64 ep) := fun u0 => ((hto u0).cell (p := ⟨h1, 5, none⟩) hlx).trans q5
      have Hof := Lib.hid hof
      clear hto hof
      clear hxm hlx q4 q5
      refine lexW_light 3 (by kernel_rfl) ?_
      simp only [List.take_succ_cons, List.take_zero, List.drop_succ_cons, List.drop_zero]
      repeat (first | go_big_quiet_skip | (go_big_quiet_want; go_big_quiet_op; go_big_quiet_on))
      refine wpQuiet_nil ?_
      refine lexW_heavy (by kernel_rfl) ?_
      go_wp2_with fail
      refine (rnumP_c (l := [13, C, N]) (n := o) (HP3.out.bel (Below.refl _ _).drew) HF.out.mode (by simp)).mono ?_
      rintro ev y4 ⟨u4, rfl, hp, hb⟩
      have HP4 := Lib.hid (show PQ w h1 ⟨13, C, N, t, o, ep, wd, v, x, y, z, q, b⟩ u4 [13, C, N, o] y4 from hp)
      have HB4 := Lib.hid ((Below.refl y3.heap.size y3).drew.trans hb)
      clear hp hb
      go_wp2_with fail
      refine lexQ_more (Hof.out _ HB4.out) ?_
      refine lexW_light 2 (by kernel_rfl) ?_
      simp only [List.take_succ_cons, List.take_zero, List.drop_succ_cons, List.drop_zero]
      repeat (first | go_big_quiet_skip | (go_big_quiet_want; go_big_quiet_op; go_big_quiet_on))
      refine wpQuiet_nil ?_
      refine lexW_heavy (by kernel_rfl) ?_
      go_wp2_with fail
      refine (rnumP_c (l := [13, C, N, o]) (n := ep) HP4.out HF.out.epoch (by simp)).mono ?_
      rintro ev y5 ⟨u5, rfl, hp, hb⟩
      have HP5 := Lib.hid (show PQ w h1 ⟨13, C, N, t, o, ep, wd, v, x, y, z, q, b⟩ u5 [13, C, N, o, ep] y5 from hp)
      have HB5 := Lib.hid (HB4.out.trans (hb.mono HB4.out.size))
      clear hp hb
      go_wp2_with fail
      refine lexQ_more (Hof.out _ HB5.out) ?_
      refine lexW_light 1 (by kernel_rfl) ?_
      simp only [List.take_succ_cons, List.take_zero, List.drop_succ_cons, List.drop_zero]
      repeat (first | go_big_quiet_skip | (go_big_quiet_want; go_big_quiet_op; go_big_quiet_on))
      refine wpQuiet_nil ?_
      refine lexW_done ?_
      clear Hof hne x4 x5
      have hxm := HP5.out.msg
      have q3 := cell_of hxm 3
      simp only [List.getElem?_toArray, List.getElem?_cons_zero, List.getElem?_cons_succ] at q3
      have hlx := (Array.getElem?_eq_some_iff.1 hxm).1
      go_wp2_with fail
      refine (rnumP_c (l := [13, C, N, o, ep]) (n := t) HP5.out HF.out.state (by simp)).mono ?_
      rintro ev y6 ⟨u6, rfl, hp, hb⟩
      have HP6 := Lib.hid (show PQ w h1 ⟨13, C, N, t, o, ep, wd, v, x, y, z, q, b⟩ u6 [13, C, N, o, ep, t] y6 from hp)
      clear hp hb
      clear hxm hlx q3
      cases b with
      | false =>
        have hxm := HP6.out.msg
        have q12 := cell_of hxm 12
        simp only [List.getElem?_toArray, List.getElem?_cons_zero, List.getElem?_cons_succ] at q12
        have hlx := (Array.getElem?_eq_some_iff.1 hxm).1
        go_wp2_with fail
        refine (rnumP_c (l := [13, C, N, o, ep, t]) (n := 0) HP6.out (by unfold in64; omega) (by simp)).mono ?_
        rintro ev y7 ⟨u7, rfl, hp, hb⟩
        have HP7 := Lib.hid (show PQ w h1 ⟨13, C, N, t, o, ep, wd, v, x, y, z, q, false⟩ u7 [13, C, N, o, ep, t, 0] y7 from hp)
        clear hp hb
        clear hxm hlx q12
        go_wp2_with fail
        go_ret
        exact HP7.out.done (by unfold putM; rw [HR.out, ← encL_nums]; rfl)
      | true =>
        have hxm := HP6.out.msg
        have q12 := cell_of hxm 12
        simp only [List.getElem?_toArray, List.getElem?_cons_zero, List.getElem?_cons_succ] at q12
        have hlx := (Array.getElem?_eq_some_iff.1 hxm).1
        go_wp2_with fail
        refine (rnumP_c (l := [13, C, N, o, ep, t]) (n := 1) HP6.out (by unfold in64; omega) (by simp)).mono ?_
        rintro ev y7 ⟨u7, rfl, hp, hb⟩
        have HP7 := Lib.hid (show PQ w h1 ⟨13, C, N, t, o, ep, wd, v, x, y, z, q, true⟩ u7 [13, C, N, o, ep, t, 1] y7 from hp)
        clear hp hb
        clear hxm hlx q12
        go_wp2_with fail
        go_loopw [3, 49] (fun s3 s49 wr => ∃ (k : Nat) (i : Int), k ≤ 4 ∧ i = k ∧ s49 = .int .i64 i ∧ PQ w h1 ⟨13, C, N, t, o, ep, wd, v, x, y, z, q, true⟩ s3 ([13, C, N, o, ep, t, 1] ++ [x, y, z, q].take k) wr) (fun _ s49 _ => 4 - (intOf s49).toNat)
        case atStart => exact ⟨0, 0, by omega, rfl, rfl, by simpa using HP7.out⟩
        case round =>
          obtain ⟨k, i, hk, hik, rfl, hS⟩ := hrel
          have hk5 : k = 0 ∨ k = 1 ∨ k = 2 ∨ k = 3 ∨ k = 4 := by omega
          rcases hk5 with rfl | rfl | rfl | rfl | rfl
          · obtain rfl : i = 0 := by omega
            have HS := Lib.hid (show PQ w h1 ⟨13, C, N, t, o, ep, wd, v, x, y, z, q, true⟩ _ [13, C, N, o, ep, t, 1] wr from hS)
            clear hS hik hk
            have hxm := HS.out.msg
            have q8 := cell_of hxm 8
            simp only [List.getElem?_toArray, List.getElem?_cons_zero, List.getElem?_cons_succ] at q8
            have hlx := (Array.getElem?_eq_some_iff.1 hxm).1
            go_wp2_with fail
            refine (rnumP_c (l := [13, C, N, o, ep, t, 1]) (n := x) HS.out HF.out.d0.big (by simp)).mono ?_
            rintro ev wy ⟨uy, rfl, hp, hb⟩
            have HT := Lib.hid (show PQ w h1 ⟨13, C, N, t, o, ep, wd, v, x, y, z, q, true⟩ uy ([13, C, N, o, ep, t, 1] ++ [x, y, z, q].take 1) wy from hp)
            clear hp hb
            clear hxm hlx q8
            go_wp2_with fail
            go_roundw
            case rel => exact ⟨1, 1, by omega, rfl, by go_num, HT.out⟩
            case measure => simp [intOf]
          · obtain rfl : i = 1 := by omega
            have HS := Lib.hid (show PQ w h1 ⟨13, C, N, t, o, ep, wd, v, x, y, z, q, true⟩ _ [13, C, N, o, ep, t, 1, x] wr from hS)
            clear hS hik hk
            have hxm := HS.out.msg
            have q9 := cell_of hxm 9
            simp only [List.getElem?_toArray, List.getElem?_cons_zero, List.getElem?_cons_succ] at q9
            have hlx := (Array.getElem?_eq_some_iff.1 hxm).1
            go_wp2_with fail
            refine (rnumP_c (l := [13, C, N, o, ep, t, 1, x]) (n := y) HS.out HF.out.d1.big (by simp)).mono ?_
            rintro ev wy ⟨uy, rfl, hp, hb⟩
            have HT := Lib.hid (show PQ w h1 ⟨13, C, N, t, o, ep, wd, v, x, y, z, q, true⟩ uy ([13, C, N, o, ep, t, 1] ++ [x, y, z, q].take 2) wy from hp)
            clear hp hb
            clear hxm hlx q9
            go_wp2_with fail
            go_roundw
            case rel => exact ⟨2, 2, by omega, rfl, by go_num, HT.out⟩
            case measure => simp [intOf]
          · obtain rfl : i = 2 := by omega
            have HS := Lib.hid (show PQ w h1 ⟨13, C, N, t, o, ep, wd, v, x, y, z, q, true⟩ _ [13, C, N, o, ep, t, 1, x, y] wr from hS)
            clear hS hik hk
            have hxm := HS.out.msg
            have q10 := cell_of hxm 10
            simp only [List.getElem?_toArray, List.getElem?_cons_zero, List.getElem?_cons_succ] at q10
            have hlx := (Array.getElem?_eq_some_iff.1 hxm).1
            go_wp2_with fail
            refine (rnumP_c (l := [13, C, N, o, ep, t, 1, x, y]) (n := z) HS.out HF.out.d2.big (by simp)).mono ?_
            rintro ev wy ⟨uy, rfl, hp, hb⟩
            have HT := Lib.hid (show PQ w h1 ⟨13, C, N, t, o, ep, wd, v, x, y, z, q, true⟩ uy ([13, C, N, o, ep, t, 1] ++ [x, y, z, q].take 3) wy from hp)
            clear hp hb
            clear hxm hlx q10
            go_wp2_with fail
            go_roundw
            case rel => exact ⟨3, 3, by omega, rfl, by go_num, HT.out⟩
            case measure => simp [intOf]
          · obtain rfl : i = 3 := by omega
            have HS := Lib.hid (show PQ w h1 ⟨13, C, N, t, o, ep, wd, v, x, y, z, q, true⟩ _ [13, C, N, o, ep, t, 1, x, y, z] wr from hS)
            clear hS hik hk
            have hxm := HS.out.msg
            have q11 := cell_of hxm 11
            simp only [List.getElem?_toArray, List.getElem?_cons_zero, List.getElem?_cons_succ] at q11
            have hlx := (Array.getElem?_eq_some_iff.1 hxm).1
            go_wp2_with fail
            refine (rnumP_c (l := [13, C, N, o, ep, t, 1, x, y, z]) (n := q) HS.out HF.out.d3.big (by simp)).mono ?_
            rintro ev wy ⟨uy, rfl, hp, hb⟩
            have HT := Lib.hid (show PQ w h1 ⟨13, C, N, t, o, ep, wd, v, x, y, z, q, true⟩ uy ([13, C, N, o, ep, t, 1] ++ [x, y, z, q].take 4) wy from hp)
            clear hp hb
            clear hxm hlx q11
            go_wp2_with fail
            go_roundw
            case rel => exact ⟨4, 4, by omega, rfl, by go_num, HT.out⟩
            case measure => simp [intOf]
          · obtain rfl : i = 4 := by omega
            have HS := Lib.hid (show PQ w h1 ⟨13, C, N, t, o, ep, wd, v, x, y, z, q, true⟩ _ [13, C, N, o, ep, t, 1, x, y, z, q] wr from hS)
            clear hS hik hk
            go_wp2_with fail
            go_ret
            exact HS.out.done (by unfold putM; rw [HR.out, ← encL_nums]; rfl)
    have g13 : (K == 13) = false := by simpa using h13
    by_cases h11 : K = 11
    · subst h11
      have hxm := HP3.out.msg
      have q3 := cell_of hxm 3
      simp only [List.getElem?_toArray, List.getElem?_cons_zero, List.getElem?_cons_succ] at q3
      have hlx := (Array.getElem?_eq_some_iff.1 hxm).1
      go_wp2_with fail
      refine (rnumP_c (l := [11, C, N]) (n := t) HP3.out HF.out.state (by simp)).mono ?_
      rintro ev y4 ⟨u4, rfl, hp, hb⟩
      have HP4 := Lib.hid (show PQ w h1 ⟨11, C, N, t, o, ep, wd, v, x, y, z, q, b⟩ u4 [11, C, N, t] y4 from hp)
      clear hp hb
      clear hxm hlx q3
      cases b with
      | false =>
        have hxm := HP4.out.msg
        have q12 := cell_of hxm 12
        simp only [List.getElem?_toArray, List.getElem?_cons_zero, List.getElem?_cons_succ] at q12
        have hlx := (Array.getElem?_eq_some_iff.1 hxm).1
        go_wp2_with fail
        refine (rnumP_c (l := [11, C, N, t]) (n := 0) HP4.out (by unfold in64; omega) (by simp)).mono ?_
        rintro ev y5 ⟨u5, rfl, hp, hb⟩
        have HP5 := Lib.hid (show PQ w h1 ⟨11, C, N, t, o, ep, wd, v, x, y, z, q, false⟩ u5 [11, C, N, t, 0] y5 from hp)
        clear hp hb
        clear hxm hlx q12
        go_wp2_with fail
        go_ret
        exact HP5.out.done (by unfold putM; rw [HR.out, ← encL_nums]; rfl)
      | true =>
        have hxm := HP4.out.msg
        have q12 := cell_of hxm 12
        simp only [List.getElem?_toArray, List.getElem?_cons_zero, List.getElem?_cons_succ] at q12
        have hlx := (Array.getElem?_eq_some_iff.1 hxm).1
        go_wp2_with fail
        refine (rnumP_c (l := [11, C, N, t]) (n := 1) HP4.out (by unfold in64; omega) (by simp)).mono ?_
        rintro ev y5 ⟨u5, rfl, hp, hb⟩
        have HP5 := Lib.hid (show PQ w h1 ⟨11, C, N, t, o, ep, wd, v, x, y, z, q, true⟩ u5 [11, C, N, t, 1] y5 from hp)
        clear hp hb
        clear hxm hlx q12
        go_wp2_with fail
        go_loopw [3, 49] (fun s3 s49 wr => ∃ (k : Nat) (i : Int), k ≤ 4 ∧ i = k ∧ s49 = .int .i64 i ∧ PQ w h1 ⟨11, C, N, t, o, ep, wd, v, x, y, z, q, true⟩ s3 ([11, C, N, t, 1] ++ [x, y, z, q].take k) wr) (fun _ s49 _ => 4 - (intOf s49).toNat)
        case atStart => exact ⟨0, 0, by omega, rfl, rfl, by simpa using HP5.out⟩
        case round =>
          obtain ⟨k, i, hk, hik, rfl, hS⟩ := hrel
          have hk5 : k = 0 ∨ k = 1 ∨ k = 2 ∨ k = 3 ∨ k = 4 := by omega
          rcases hk5 with rfl | rfl | rfl | rfl | rfl
          · obtain rfl : i = 0 := by omega
            have HS := Lib.hid (show PQ w h1 ⟨11, C, N, t, o, ep, wd, v, x, y, z, q, true⟩ _ [11, C, N, t, 1] wr from hS)
            clear hS hik hk
            have hxm := HS.out.msg
            have q8 := cell_of hxm 8
            simp only [List.getElem?_toArray, List.getElem?_cons_zero, List.getElem?_cons_succ] at q8
            have hlx := (Array.getElem?_eq_some_iff.1 hxm).1
            go_wp2_with fail
            refine (rnumP_c (l := [11, C, N, t, 1]) (n := x) HS.out HF.out.d0.big (by simp)).mono ?_
            rintro ev wy ⟨uy, rfl, hp, hb⟩
            have HT := Lib.hid (show PQ w h1 ⟨11, C, N, t, o, ep, wd, v, x, y, z, q, true⟩ uy ([11, C, N, t, 1] ++ [x, y, z, q].take 1) wy from hp)
            clear hp hb
            clear hxm hlx q8
            go_wp2_with fail
            go_roundw
            case rel => exact ⟨1, 1, by omega, rfl, by go_num, HT.out⟩
            case measure => simp [intOf]
          · obtain rfl : i = 1 := by omega
            have HS := Lib.hid (show PQ w h1 ⟨11, C, N, t, o, ep, wd, v, x, y, z, q, true⟩ _ [11, C, N, t, 1, x] wr from hS)
            clear hS hik hk
            have hxm := HS.out.msg
            have q9 := cell_of hxm 9
            simp only [List.getElem?_toArray, List.getElem?_cons_zero, List.getElem?_cons_succ] at q9
            have hlx := (Array.getElem?_eq_some_iff.1 hxm).1
            go_wp2_with fail
            refine (rnumP_c (l := [11, C, N, t, 1, x]) (n := y) HS.out HF.out.d1.big (by simp)).mono ?_
            rintro ev wy ⟨uy, rfl, hp, hb⟩
            have HT := Lib.hid (show PQ w h1 ⟨11, C, N, t, o, ep, wd, v, x, y, z, q, true⟩ uy ([11, C, N, t, 1] ++ [x, y, z, q].take 2) wy from hp)
            clear hp hb
            clear hxm hlx q9
            go_wp2_with fail
            go_roundw
            case rel => exact ⟨2, 2, by omega, rfl, by go_num, HT.out⟩
            case measure => simp [intOf]
          · obtain rfl : i = 2 := by omega
            have HS := Lib.hid (show PQ w h1 ⟨11, C, N, t, o, ep, wd, v, x, y, z, q, true⟩ _ [11, C, N, t, 1, x, y] wr from hS)
            clear hS hik hk
            have hxm := HS.out.msg
            have q10 := cell_of hxm 10
            simp only [List.getElem?_toArray, List.getElem?_cons_zero, List.getElem?_cons_succ] at q10
            have hlx := (Array.getElem?_eq_some_iff.1 hxm).1
            go_wp2_with fail
            refine (rnumP_c (l := [11, C, N, t, 1, x, y]) (n := z) HS.out HF.out.d2.big (by simp)).mono ?_
            rintro ev wy ⟨uy, rfl, hp, hb⟩
            have HT := Lib.hid (show PQ w h1 ⟨11, C, N, t, o, ep, wd, v, x, y, z, q, true⟩ uy ([11, C, N, t, 1] ++ [x, y, z, q].take 3) wy from hp)
            clear hp hb
            clear hxm hlx q10
            go_wp2_with fail
            go_roundw
            case rel => exact ⟨3, 3, by omega, rfl, by go_num, HT.out⟩
            case measure => simp [intOf]
          · obtain rfl : i = 3 := by omega
            have HS := Lib.hid (show PQ w h1 ⟨11, C, N, t, o, ep, wd, v, x, y, z, q, true⟩ _ [11, C, N, t, 1, x, y, z] wr from hS)
            clear hS hik hk
            have hxm := HS.out.msg
            have q11 := cell_of hxm 11
            simp only [List.getElem?_toArray, List.getElem?_cons_zero, List.getElem?_cons_succ] at q11
            have hlx := (Array.getElem?_eq_some_iff.1 hxm).1
            go_wp2_with fail
            refine (rnumP_c (l := [11, C, N, t, 1, x, y, z]) (n := q) HS.out HF.out.d3.big (by simp)).mono ?_
            rintro ev wy ⟨uy, rfl, hp, hb⟩
            have HT := Lib.hid (show PQ w h1 ⟨11, C, N, t, o, ep, wd, v, x, y, z, q, true⟩ uy ([11, C, N, t, 1] ++ [x, y, z, q].take 4) wy from hp)
            clear hp hb
            clear hxm hlx q11
            go_wp2_with fail
            go_roundw
            case rel => exact ⟨4, 4, by omega, rfl, by go_num, HT.out⟩
            case measure => simp [intOf]
          · obtain rfl : i = 4 := by omega
            have HS := Lib.hid (show PQ w h1 ⟨11, C, N, t, o, ep, wd, v, x, y, z, q, true⟩ _ [11, C, N, t, 1, x, y, z, q] wr from hS)
            clear hS hik hk
            go_wp2_with fail
            go_ret
            exact HS.out.done (by unfold putM; rw [HR.out, ← encL_nums]; rfl)
    have g11 : (K == 11) = false := by simpa using h11
    have HCL := Lib.hid (show mgW K = false ∧ mg9 K = false ∧ mgM K = false ∧ mgD K = false ∧ mgS K = false by
      refine ⟨?_, ?_, ?_, ?_, ?_⟩ <;> simp [mgW, mg9, mgM, mgD, mgS] <;> omega)
    clear h3 h8 h14 h9 h5 h13 h11
    obtain rfl : b = false := (HRI.out.bare.state HCL.out.2.2.2.2).2
    go_wp2_with fail
    go_ret
    exact HP3.out.done (by unfold putM; rw [HR.out, ← encL_nums]; simp [numsM, numsA, HCL.out])

end Go.Proofs.YtpljdbcifaeblaaDoor
