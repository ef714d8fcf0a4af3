/- MsgBare: true; no condition but what a start gives. -/
import Derived.Test.YtpljdbcifaeblaaDoorLMg1
import Derived.Test.YtpljdbcifaeblaaDoorInts
import Derived.Test.YtpljdbcifaeblaaDoorBk
import Derived.Test.YtpljdbcifaeblaaDoorLexA
import Derived.Test.YtpljdbcifaeblaaDoorMgS
import Derived.Deep.Cut
import Derived.Deep.CutRange
namespace Go.Proofs.YtpljdbcifaeblaaDoor
open Go.RowKit Go.Extern.Stop Go.Stop Go.Extern

/-- A message in a block. -/
def MAt (w : World) (h : Nat) (m : MsgV) : Prop := w.heap[h]? = some (.cells #[.int .i64 m.kind, .int .i64 m.core, .int .i64 m.line, .int .i64 m.state, .int .i64 m.mode, .int .i64 m.epoch, .int .i64 m.word, .int .u32 m.val, .int .u32 m.d0, .int .u32 m.d1, .int .u32 m.d2, .int .u32 m.d3, .bool m.has] 54 (0, 0))
theorem MAt.below {w w' : World} {h : Nat} {m : MsgV} (x : MAt w h m) (hb : Below w.heap.size w w') : MAt w' h m := (hb.block h (Array.getElem?_eq_some_iff.1 x).1).trans x
theorem MAt.lt {w : World} {h : Nat} {m : MsgV} (x : MAt w h m) : h < w.heap.size := (Array.getElem?_eq_some_iff.1 x).1
theorem MAt.new (w : World) (m : MsgV) : MAt (w.alloc (.cells #[.int .i64 m.kind, .int .i64 m.core, .int .i64 m.line, .int .i64 m.state, .int .i64 m.mode, .int .i64 m.epoch, .int .i64 m.word, .int .u32 m.val, .int .u32 m.d0, .int .u32 m.d1, .int .u32 m.d2, .int .u32 m.d3, .bool m.has] 54)) w.heap.size m := heap_alloc_new _ _
theorem right_val {m : MsgV} {x : Int} (h : m.Right) (hx : mgW m.kind = false → x ≠ 0) : rightM ⟨m.kind, m.core, m.line, m.state, m.mode, m.epoch, m.word, x, m.d0, m.d1, m.d2, m.d3, m.has⟩ = mgW m.kind := by
  cases hg : mgW m.kind with
  | true => exact (rightM_iff _).2 ⟨h.kind, h.core, h.line, ⟨fun e => (by rw [hg] at e; cases e), h.bare.mode, h.bare.epoch, h.bare.state, h.bare.data⟩, h.word, h.state, h.mode, h.epoch, h.gran⟩
  | false =>
    cases hr : rightM ⟨m.kind, m.core, m.line, m.state, m.mode, m.epoch, m.word, x, m.d0, m.d1, m.d2, m.d3, m.has⟩ with
    | false => rfl
    | true => exact absurd (((rightM_iff _).1 hr).bare.word hg).2 (hx hg)
theorem right_mode {m : MsgV} {x : Int} (h : m.Right) (hb : 0 ≤ x ∧ x ≤ 3) (hx : mgM m.kind = false → x ≠ 0) : rightM ⟨m.kind, m.core, m.line, m.state, x, m.epoch, m.word, m.val, m.d0, m.d1, m.d2, m.d3, m.has⟩ = mgM m.kind := by
  cases hg : mgM m.kind with
  | true => exact (rightM_iff _).2 ⟨h.kind, h.core, h.line, ⟨h.bare.word, fun e => (by rw [hg] at e; cases e), h.bare.epoch, h.bare.state, h.bare.data⟩, h.word, h.state, hb, h.epoch, h.gran⟩
  | false =>
    cases hr : rightM ⟨m.kind, m.core, m.line, m.state, x, m.epoch, m.word, m.val, m.d0, m.d1, m.d2, m.d3, m.has⟩ with
    | false => rfl
    | true => exact absurd (((rightM_iff _).1 hr).bare.mode hg) (hx hg)
theorem right_epoch {m : MsgV} {x : Int} (h : m.Right) (hb : 0 ≤ x ∧ x ≤ 255) (hx : mgE m.kind = false → x ≠ 0) : rightM ⟨m.kind, m.core, m.line, m.state, m.mode, x, m.word, m.val, m.d0, m.d1, m.d2, m.d3, m.has⟩ = mgE m.kind := by
  cases hg : mgE m.kind with
  | true => exact (rightM_iff _).2 ⟨h.kind, h.core, h.line, ⟨h.bare.word, h.bare.mode, fun e => (by rw [hg] at e; cases e), h.bare.state, h.bare.data⟩, h.word, h.state, h.mode, hb, h.gran⟩
  | false =>
    cases hr : rightM ⟨m.kind, m.core, m.line, m.state, m.mode, x, m.word, m.val, m.d0, m.d1, m.d2, m.d3, m.has⟩ with
    | false => rfl
    | true => exact absurd (((rightM_iff _).1 hr).bare.epoch hg) (hx hg)
theorem right_has {m : MsgV} (h : m.Right) : rightM ⟨m.kind, m.core, m.line, m.state, m.mode, m.epoch, m.word, m.val, 0, 0, 0, 0, !m.has⟩ = mgS m.kind := by
  cases hg : mgS m.kind with
  | true => exact (rightM_iff _).2 ⟨h.kind, h.core, h.line, ⟨h.bare.word, h.bare.mode, h.bare.epoch, fun e => (by rw [hg] at e; cases e), fun _ => ⟨rfl, rfl, rfl, rfl⟩⟩, h.word, h.state, h.mode, h.epoch, h.gran⟩
  | false =>
    cases hr : rightM ⟨m.kind, m.core, m.line, m.state, m.mode, m.epoch, m.word, m.val, 0, 0, 0, 0, !m.has⟩ with
    | false => rfl
    | true =>
      have h1 := (h.bare.state hg).2
      have h2 := (((rightM_iff _).1 hr).bare.state hg).2
      simp only [h1] at h2
      cases h2
/-- The message and its four copies. -/
structure Qd (w : World) (h5 g11 g12 g13 g14 : Nat) (m a b c d : MsgV) (wx : World) : Prop where
  m : MAt wx h5 m
  a : MAt wx g11 a
  b : MAt wx g12 b
  c : MAt wx g13 c
  d : MAt wx g14 d
  n1 : g11 ≠ g12 ∧ g11 ≠ g13 ∧ g11 ≠ g14
  n2 : g12 ≠ g13 ∧ g12 ≠ g14 ∧ g13 ≠ g14
  n0 : h5 ≠ g11 ∧ h5 ≠ g12 ∧ h5 ≠ g13 ∧ h5 ≠ g14
  lo : w.heap.size ≤ g11 ∧ w.heap.size ≤ g12 ∧ w.heap.size ≤ g13 ∧ w.heap.size ≤ g14
  below : Below w.heap.size w wx
section
variable {w wx wz : World} {h5 g11 g12 g13 g14 : Nat} {m a b c d e : MsgV}
theorem MAt.mods {S : Nat → Prop} {h : Nat} (x : MAt wx h m) (hM : Mods S wx wz) (hn : ¬ S h) : MAt wz h m := (hM.block h x.lt hn).trans x
theorem Qd.bel (h : Qd w h5 g11 g12 g13 g14 m a b c d wx) (hb : Below wx.heap.size wx wz) : Qd w h5 g11 g12 g13 g14 m a b c d wz := ⟨h.m.below hb, h.a.below hb, h.b.below hb, h.c.below hb, h.d.below hb, h.n1, h.n2, h.n0, h.lo, h.below.trans (hb.mono h.below.size)⟩
theorem Qd.sa (h : Qd w h5 g11 g12 g13 g14 m a b c d wx) (hM : Mods (fun q => q = g11) wx wz) (hb : MAt wz g11 e) : Qd w h5 g11 g12 g13 g14 m e b c d wz :=
  ⟨h.m.mods hM h.n0.1, hb, h.b.mods hM h.n1.1.symm, h.c.mods hM h.n1.2.1.symm, h.d.mods hM h.n1.2.2.symm, h.n1, h.n2, h.n0, h.lo, h.below.trans (hM.below h.below.size fun k (hk : k = g11) => by have := h.lo; omega)⟩
theorem Qd.sb (h : Qd w h5 g11 g12 g13 g14 m a b c d wx) (hM : Mods (fun q => q = g12) wx wz) (hb : MAt wz g12 e) : Qd w h5 g11 g12 g13 g14 m a e c d wz :=
  ⟨h.m.mods hM h.n0.2.1, h.a.mods hM h.n1.1, hb, h.c.mods hM h.n2.1.symm, h.d.mods hM h.n2.2.1.symm, h.n1, h.n2, h.n0, h.lo, h.below.trans (hM.below h.below.size fun k (hk : k = g12) => by have := h.lo; omega)⟩
theorem Qd.sc (h : Qd w h5 g11 g12 g13 g14 m a b c d wx) (hM : Mods (fun q => q = g13) wx wz) (hb : MAt wz g13 e) : Qd w h5 g11 g12 g13 g14 m a b e d wz :=
  ⟨h.m.mods hM h.n0.2.2.1, h.a.mods hM h.n1.2.1, h.b.mods hM h.n2.1, hb, h.d.mods hM h.n2.2.2.symm, h.n1, h.n2, h.n0, h.lo, h.below.trans (hM.below h.below.size fun k (hk : k = g13) => by have := h.lo; omega)⟩
theorem Qd.sd (h : Qd w h5 g11 g12 g13 g14 m a b c d wx) (hM : Mods (fun q => q = g14) wx wz) (hb : MAt wz g14 e) : Qd w h5 g11 g12 g13 g14 m a b c e wz :=
  ⟨h.m.mods hM h.n0.2.2.2, h.a.mods hM h.n1.2.2, h.b.mods hM h.n2.2.1, h.c.mods hM h.n2.2.2, hb, h.n1, h.n2, h.n0, h.lo, h.below.trans (hM.below h.below.size fun k (hk : k = g14) => by have := h.lo; omega)⟩
end
theorem allocMsg (w : World) : (Instr.alloc 54 true (.tuple #[])).run Tryd.prog w = .ok (.pointer (some ⟨w.heap.size, 0, none⟩)) (w.alloc (.cells #[.int .i64 0, .int .i64 0, .int .i64 0, .int .i64 0, .int .i64 0, .int .i64 0, .int .i64 0, .int .u32 0, .int .u32 0, .int .u32 0, .int .u32 0, .int .u32 0, .bool false] 54)) := by kernel_rfl

set_option maxRecDepth 100000 in
set_option maxHeartbeats 20000000 in
theorem msgBare (A : Nat → Addr) (m : MsgV) (word vv mo ec : Int) (w : World) (hs : SentAt w A) (fm : m.fit) (_hw : -9223372036854775808 ≤ word ∧ word ≤ 9223372036854775807) (hvv : 0 ≤ vv ∧ vv ≤ 4294967295) (hmo : -9223372036854775808 ≤ mo ∧ mo ≤ 9223372036854775807) (hec : -9223372036854775808 ≤ ec ∧ ec ≤ 9223372036854775807) :
    Calls Tryd.prog 12 #[m.v, .int .i64 word, .int .u32 vv, .int .i64 mo, .int .i64 ec] w (TruePost w) := by
  have HSE := Lib.hid hs
  have HFM := Lib.hid fm
  have HVV := Lib.hid hvv
  have HMO := Lib.hid hmo
  have HEC := Lib.hid hec
  clear hs fm hvv hmo hec
  have HM0 := Lib.hid (MAt.new w m)
  obtain ⟨K, C, N, t, o, ep, wd, v, x, y, z, q, b⟩ := m
  simp only [MsgV.v]
  have hb0 : Below w.heap.size w (w.alloc (.cells #[.int .i64 K, .int .i64 C, .int .i64 N, .int .i64 t, .int .i64 o, .int .i64 ep, .int .i64 wd, .int .u32 v, .int .u32 x, .int .u32 y, .int .u32 z, .int .u32 q, .bool b] 54)) := (Below.refl _ _).alloc (Nat.le_refl _) _
  have HB0 := Lib.hid hb0
  clear hb0
  go_enter Tryd.func12, Tryd.ntmps12
  go_upto_region 1 with fail
  obtain ⟨h5, hh5⟩ : ∃ h5, h5 = w.heap.size := ⟨_, rfl⟩
  rw [← hh5] at HM0 ⊢
  simp only at HM0
  generalize w.alloc (.cells #[.int .i64 K, .int .i64 C, .int .i64 N, .int .i64 t, .int .i64 o, .int .i64 ep, .int .i64 wd, .int .u32 v, .int .u32 x, .int .u32 y, .int .u32 z, .int .u32 q, .bool b] 54) = w0 at *
  clear hh5
  have hxk := HM0.out
  have k0 := cell_of hxk 0
  have k1 := cell_of hxk 1
  have k2 := cell_of hxk 2
  have k3 := cell_of hxk 3
  have k4 := cell_of hxk 4
  have k5 := cell_of hxk 5
  have k6 := cell_of hxk 6
  have k7 := cell_of hxk 7
  have k8 := cell_of hxk 8
  have k9 := cell_of hxk 9
  have k10 := cell_of hxk 10
  have k11 := cell_of hxk 11
  have k12 := cell_of hxk 12
  simp only [List.getElem?_toArray, List.getElem?_cons_zero, List.getElem?_cons_succ] at k0 k1 k2 k3 k4 k5 k6 k7 k8 k9 k10 k11 k12
  have hlk := (Array.getElem?_eq_some_iff.1 hxk).1
  go_wp2_with fail
  refine (mright_c ⟨K, C, N, t, o, ep, wd, v, x, y, z, q, b⟩ w0).mono ?_
  rintro ev w1 ⟨rfl, hb1⟩
  have HM1 := Lib.hid (HM0.out.below hb1)
  have HB1 := Lib.hid (HB0.out.trans (hb1.mono HB0.out.size))
  clear hb1 HM0 HB0
  clear hxk hlk k0 k1 k2 k3 k4 k5 k6 k7 k8 k9 k10 k11 k12
  cases hr : rightM ⟨K, C, N, t, o, ep, wd, v, x, y, z, q, b⟩ with
  | false =>
    have HPW := Lib.hid (putM_wrong hr)
    clear hr
    have hxk := HM1.out
    have k0 := cell_of hxk 0
    have k1 := cell_of hxk 1
    have k2 := cell_of hxk 2
    have k3 := cell_of hxk 3
    have k4 := cell_of hxk 4
    have k5 := cell_of hxk 5
    have k6 := cell_of hxk 6
    have k7 := cell_of hxk 7
    have k8 := cell_of hxk 8
    have k9 := cell_of hxk 9
    have k10 := cell_of hxk 10
    have k11 := cell_of hxk 11
    have k12 := cell_of hxk 12
    simp only [List.getElem?_toArray, List.getElem?_cons_zero, List.getElem?_cons_succ] at k0 k1 k2 k3 k4 k5 k6 k7 k8 k9 k10 k11 k12
    have hlk := (Array.getElem?_eq_some_iff.1 hxk).1
    go_wp2_with fail
    refine (mput_c ⟨K, C, N, t, o, ep, wd, v, x, y, z, q, b⟩ w1 HFM.out).mono ?_
    rintro ev w2 ⟨u2, rfl, hu2, hb2⟩
    obtain ⟨ap2, cp2, rfl⟩ := hu2.len
    rw [HPW.out]
    have HB2 := Lib.hid (HB1.out.trans (hb2.mono HB1.out.size))
    clear hu2 hb2
    go_wp2_with fail
    refine (msgRuns A w2 (HSE.out.below HB2.out)).mono ?_
    rintro ev w3 ⟨rfl, hb3⟩
    have HB3 := Lib.hid (HB2.out.trans (hb3.mono HB2.out.size))
    clear hb3
    go_wp2_with fail
    go_ret
    exact ⟨rfl, HB3.out⟩
  | true =>
    have HR := Lib.hid ((rightM_iff _).1 hr)
    clear hr
    by_cases hv0 : vv = 0
    · subst hv0
      go_wp2_with fail
      refine (msgRuns A w1 (HSE.out.below HB1.out)).mono ?_
      rintro ev w2 ⟨rfl, hb2⟩
      have HB2 := Lib.hid (HB1.out.trans (hb2.mono HB1.out.size))
      clear hb2
      go_wp2_with fail
      go_ret
      exact ⟨rfl, HB2.out⟩
    · have gv : (vv == 0) = false := by simpa using hv0
      have HV0 := Lib.hid hv0
      clear hv0
      go_upto_region 5 with fail
      have hm5 := HM1.out.lt
      have hxk := HM1.out
      have k0 := cell_of hxk 0
      have k1 := cell_of hxk 1
      have k2 := cell_of hxk 2
      have k3 := cell_of hxk 3
      have k4 := cell_of hxk 4
      have k5 := cell_of hxk 5
      have k6 := cell_of hxk 6
      have k7 := cell_of hxk 7
      have k8 := cell_of hxk 8
      have k9 := cell_of hxk 9
      have k10 := cell_of hxk 10
      have k11 := cell_of hxk 11
      have k12 := cell_of hxk 12
      simp only [List.getElem?_toArray, List.getElem?_cons_zero, List.getElem?_cons_succ] at k0 k1 k2 k3 k4 k5 k6 k7 k8 k9 k10 k11 k12
      have hlk := (Array.getElem?_eq_some_iff.1 hxk).1
      go_cut [11, 12, 13, 14] from 29 to 32 (fun s11 s12 s13 s14 wx => ∃ g11 g12 g13 g14 : Nat, s11 = .pointer (some ⟨g11, 0, none⟩) ∧ s12 = .pointer (some ⟨g12, 0, none⟩) ∧ s13 = .pointer (some ⟨g13, 0, none⟩) ∧ s14 = .pointer (some ⟨g14, 0, none⟩) ∧ Qd w1 h5 g11 g12 g13 g14 ⟨K, C, N, t, o, ep, wd, v, x, y, z, q, b⟩ ⟨K, C, N, t, o, ep, wd, v, x, y, z, q, b⟩ ⟨K, C, N, t, o, ep, wd, v, x, y, z, q, b⟩ ⟨K, C, N, t, o, ep, wd, v, x, y, z, q, b⟩ ⟨K, C, N, t, o, ep, wd, v, x, y, z, q, b⟩ wx)
      case first =>
        refine wp_region_lexG ⟨[], []⟩ [(4, 5), (4, 6), (4, 7), (5, 6), (5, 7), (6, 7)] 12 [0, 1, 2, 3, 4, 5, 6, 7, 8, 9, 10, 11] rfl rfl (fun x => Below w1.heap.size w1 x) (by kernel_rfl) (by kernel_rfl) (Below.refl _ _).drew ?_
        intro S hto hof hne
        have x0 : ∀ u0 : Wd S, u0.w.cell? ⟨h5, 0, none⟩ = some (.int .i64 K) := fun u0 => ((hto u0).cell (p := ⟨h5, 0, none⟩) hm5).trans k0
        have x1 : ∀ u0 : Wd S, u0.w.cell? ⟨h5, 1, none⟩ = some (.int .i64 C) := fun u0 => ((hto u0).cell (p := ⟨h5, 1, none⟩) hm5).trans k1
        have x2 : ∀ u0 : Wd S, u0.w.cell? ⟨h5, 2, none⟩ = some (.int .i64 N) := fun u0 => ((hto u0).cell (p := ⟨h5, 2, none⟩) hm5).trans k2
        have x3 : ∀ u0 : Wd S, u0.w.cell? ⟨h5, 3, none⟩ = some (.int .i64 t) := fun u0 => ((hto u0).cell (p := ⟨h5, 3, none⟩) hm5).trans k3
        have x4 : ∀ u0 : Wd S, u0.w.cell? ⟨h5, 4, none⟩ = some (.int .i64 o) := fun u0 => ((hto u0).cell (p := ⟨h5, 4, none⟩) hm5).trans k4
        have x5 : ∀ u0 : Wd S, u0.w.cell? ⟨h5, 5, none⟩ = some (.int .i64 ep) := fun u0 => ((hto u0).cell (p := ⟨h5, 5, none⟩) hm5).trans k5
        have x6 : ∀ u0 : Wd S, u0.w.cell? ⟨h5, 6, none⟩ = some (.int .i64 wd) := fun u0 => ((hto u0).cell (p := ⟨h5, 6, none⟩) hm5).trans k6
        have x7 : ∀ u0 : Wd S, u0.w.cell? ⟨h5, 7, none⟩ = some (.int .u32 v) := fun u0 => ((hto u0).cell (p := ⟨h5, 7, none⟩) hm5).trans k7
        have x8 : ∀ u0 : Wd S, u0.w.cell? ⟨h5, 8, none⟩ = some (.int .u32 x) := fun u0 => ((hto u0).cell (p := ⟨h5, 8, none⟩) hm5).trans k8
        have x9 : ∀ u0 : Wd S, u0.w.cell? ⟨h5, 9, none⟩ = some (.int .u32 y) := fun u0 => ((hto u0).cell (p := ⟨h5, 9, none⟩) hm5).trans k9
        have x10 : ∀ u0 : Wd S, u0.w.cell? ⟨h5, 10, none⟩ = some (.int .u32 z) := fun u0 => ((hto u0).cell (p := ⟨h5, 10, none⟩) hm5).trans k10
        have x11 : ∀ u0 : Wd S, u0.w.cell? ⟨h5, 11, none⟩ = some (.int .u32 q) := fun u0 => ((hto u0).cell (p := ⟨h5, 11, none⟩) hm5).trans k11
        have x12 : ∀ u0 : Wd S, u0.w.cell? ⟨h5, 12, none⟩ = some (.bool b) := fun u0 => ((hto u0).cell (p := ⟨h5, 12, none⟩) hm5).trans k12
        have Hof := Lib.hid hof
        have Hto := Lib.hid hto
        clear hto hof
        refine lexG_lights 4 (by kernel_rfl) (by kernel_rfl) ?_
        simp only [opsAt, List.take_succ_cons, List.take_zero, List.drop_succ_cons, List.drop_zero, List.filterMap_cons, List.filterMap_nil, List.getElem?_toArray, List.getElem?_cons_succ, List.getElem?_cons_zero]
        change wpQuiet _ _ _ _ (_ :: _ :: _ :: _ :: []) _
        repeat (first | go_big_quiet_skip | (go_big_quiet_want; go_big_quiet_op; go_big_quiet_on))
        refine wpQuiet_nil ?_
        clear x0 x1 x2 x3 x4 x5 x6 x7 x8 x9 x10 x11 x12
        change lexG _ _ _ _ _ _ (4 + 4) ([4, 5, 6, 7] ++ [8, 9, 10, 11]) _ _
        refine lexG_allocs 54 _ allocMsg (fun p => p + 7) (fun w hw => Hof.out _ ((Hto.out ⟨w, hw⟩).alloc (Hto.out ⟨w, hw⟩).size _)) [8, 9, 10, 11] 4 4 [4, 5, 6, 7] _ _ rfl ?_ (by decide) (by decide) (by decide) (Hof.out _ (Below.refl _ _).drew) ?_
        · intro p hp
          simp only [List.mem_cons, List.not_mem_nil, or_false] at hp
          rcases hp with rfl | rfl | rfl | rfl <;> exact ⟨_, rfl, rfl, rfl, rfl, by kernel_rfl⟩
        intro g V hSV hbV hg hinj
        have HQ0 := Lib.hid (show Qd w1 h5 (g 4) (g 5) (g 6) (g 7) ⟨K, C, N, t, o, ep, wd, v, x, y, z, q, b⟩ ⟨0, 0, 0, 0, 0, 0, 0, 0, 0, 0, 0, 0, false⟩ ⟨0, 0, 0, 0, 0, 0, 0, 0, 0, 0, 0, 0, false⟩ ⟨0, 0, 0, 0, 0, 0, 0, 0, 0, 0, 0, 0, false⟩ ⟨0, 0, 0, 0, 0, 0, 0, 0, 0, 0, 0, 0, false⟩ V from by
          have e4 := hg 4 (by simp)
          have e5 := hg 5 (by simp)
          have e6 := hg 6 (by simp)
          have e7 := hg 7 (by simp)
          have ne : ∀ p ∈ [4, 5, 6, 7], ∀ q ∈ [4, 5, 6, 7], p ≠ q → g p ≠ g q := fun p hp q hq h e => h (hinj p hp q hq e)
          have hs : w1.drew.heap.size = w1.heap.size := rfl
          rw [hs] at e4 e5 e6 e7 hbV
          exact ⟨HM1.out.below ((Below.refl _ _).drew.trans hbV), e4.2, e5.2, e6.2, e7.2, ⟨ne 4 (by simp) 5 (by simp) (by decide), ne 4 (by simp) 6 (by simp) (by decide), ne 4 (by simp) 7 (by simp) (by decide)⟩, ⟨ne 5 (by simp) 6 (by simp) (by decide), ne 5 (by simp) 7 (by simp) (by decide), ne 6 (by simp) 7 (by simp) (by decide)⟩, ⟨by omega, by omega, by omega, by omega⟩, ⟨e4.1, e5.1, e6.1, e7.1⟩, (Below.refl _ _).drew.trans hbV⟩)
        simp only [putAll, Act.put, List.setIfInBounds_toArray, List.set_cons_zero, List.set_cons_succ, Nat.reduceAdd]
        generalize g 4 = g11 at *
        generalize g 5 = g12 at *
        generalize g 6 = g13 at *
        generalize g 7 = g14 at *
        clear hSV hbV hg hinj
        generalize V = V0 at *
        refine lexG_one (by kernel_rfl) (by kernel_rfl) ?_
        simp only [opsAt, List.filterMap_cons, List.filterMap_nil, List.getElem?_toArray, List.getElem?_cons_succ, List.getElem?_cons_zero]
        change wpList _ _ _ (_ :: []) _ _
        have hxc := HQ0.out.a
        have c0 := cell_of hxc 0
        have c1 := cell_of hxc 1
        have c2 := cell_of hxc 2
        have c3 := cell_of hxc 3
        have c4 := cell_of hxc 4
        have c5 := cell_of hxc 5
        have c6 := cell_of hxc 6
        have c7 := cell_of hxc 7
        have c8 := cell_of hxc 8
        have c9 := cell_of hxc 9
        have c10 := cell_of hxc 10
        have c11 := cell_of hxc 11
        have c12 := cell_of hxc 12
        simp only [List.getElem?_toArray, List.getElem?_cons_zero, List.getElem?_cons_succ] at c0 c1 c2 c3 c4 c5 c6 c7 c8 c9 c10 c11 c12
        have hlc := (Array.getElem?_eq_some_iff.1 hxc).1
        have zc0 := frozen_of hxc 0
        have zc1 := frozen_of hxc 1
        have zc2 := frozen_of hxc 2
        have zc3 := frozen_of hxc 3
        have zc4 := frozen_of hxc 4
        have zc5 := frozen_of hxc 5
        have zc6 := frozen_of hxc 6
        have zc7 := frozen_of hxc 7
        have zc8 := frozen_of hxc 8
        have zc9 := frozen_of hxc 9
        have zc10 := frozen_of hxc 10
        have zc11 := frozen_of hxc 11
        have zc12 := frozen_of hxc 12
        go_wp2_with fail
        rw [← set13 V0 g11]
        have HQ1 := Lib.hid (HQ0.out.sa (e := ⟨K, C, N, t, o, ep, wd, v, x, y, z, q, b⟩) (mods13 V0 g11 (.int .i64 K) (.int .i64 C) (.int .i64 N) (.int .i64 t) (.int .i64 o) (.int .i64 ep) (.int .i64 wd) (.int .u32 v) (.int .u32 x) (.int .u32 y) (.int .u32 z) (.int .u32 q) (.bool b)) (block13 HQ0.out.a (.int .i64 K) (.int .i64 C) (.int .i64 N) (.int .i64 t) (.int .i64 o) (.int .i64 ep) (.int .i64 wd) (.int .u32 v) (.int .u32 x) (.int .u32 y) (.int .u32 z) (.int .u32 q) (.bool b)))
        refine lexGQ_more (Hof.out _ HQ1.out.below) ?_
        generalize V0.setCells g11 0 [.int .i64 K, .int .i64 C, .int .i64 N, .int .i64 t, .int .i64 o, .int .i64 ep, .int .i64 wd, .int .u32 v, .int .u32 x, .int .u32 y, .int .u32 z, .int .u32 q, .bool b] = V1 at *
        clear hxc hlc c0 c1 c2 c3 c4 c5 c6 c7 c8 c9 c10 c11 c12 zc0 zc1 zc2 zc3 zc4 zc5 zc6 zc7 zc8 zc9 zc10 zc11 zc12
        refine lexG_one (by kernel_rfl) (by kernel_rfl) ?_
        simp only [opsAt, List.filterMap_cons, List.filterMap_nil, List.getElem?_toArray, List.getElem?_cons_succ, List.getElem?_cons_zero]
        change wpList _ _ _ (_ :: []) _ _
        have hxc := HQ1.out.b
        have c0 := cell_of hxc 0
        have c1 := cell_of hxc 1
        have c2 := cell_of hxc 2
        have c3 := cell_of hxc 3
        have c4 := cell_of hxc 4
        have c5 := cell_of hxc 5
        have c6 := cell_of hxc 6
        have c7 := cell_of hxc 7
        have c8 := cell_of hxc 8
        have c9 := cell_of hxc 9
        have c10 := cell_of hxc 10
        have c11 := cell_of hxc 11
        have c12 := cell_of hxc 12
        simp only [List.getElem?_toArray, List.getElem?_cons_zero, List.getElem?_cons_succ] at c0 c1 c2 c3 c4 c5 c6 c7 c8 c9 c10 c11 c12
        have hlc := (Array.getElem?_eq_some_iff.1 hxc).1
        have zc0 := frozen_of hxc 0
        have zc1 := frozen_of hxc 1
        have zc2 := frozen_of hxc 2
        have zc3 := frozen_of hxc 3
        have zc4 := frozen_of hxc 4
        have zc5 := frozen_of hxc 5
        have zc6 := frozen_of hxc 6
        have zc7 := frozen_of hxc 7
        have zc8 := frozen_of hxc 8
        have zc9 := frozen_of hxc 9
        have zc10 := frozen_of hxc 10
        have zc11 := frozen_of hxc 11
        have zc12 := frozen_of hxc 12
        go_wp2_with fail
        rw [← set13 V1 g12]
        have HQ2 := Lib.hid (HQ1.out.sb (e := ⟨K, C, N, t, o, ep, wd, v, x, y, z, q, b⟩) (mods13 V1 g12 (.int .i64 K) (.int .i64 C) (.int .i64 N) (.int .i64 t) (.int .i64 o) (.int .i64 ep) (.int .i64 wd) (.int .u32 v) (.int .u32 x) (.int .u32 y) (.int .u32 z) (.int .u32 q) (.bool b)) (block13 HQ1.out.b (.int .i64 K) (.int .i64 C) (.int .i64 N) (.int .i64 t) (.int .i64 o) (.int .i64 ep) (.int .i64 wd) (.int .u32 v) (.int .u32 x) (.int .u32 y) (.int .u32 z) (.int .u32 q) (.bool b)))
        refine lexGQ_more (Hof.out _ HQ2.out.below) ?_
        generalize V1.setCells g12 0 [.int .i64 K, .int .i64 C, .int .i64 N, .int .i64 t, .int .i64 o, .int .i64 ep, .int .i64 wd, .int .u32 v, .int .u32 x, .int .u32 y, .int .u32 z, .int .u32 q, .bool b] = V2 at *
        clear hxc hlc c0 c1 c2 c3 c4 c5 c6 c7 c8 c9 c10 c11 c12 zc0 zc1 zc2 zc3 zc4 zc5 zc6 zc7 zc8 zc9 zc10 zc11 zc12
        refine lexG_one (by kernel_rfl) (by kernel_rfl) ?_
        simp only [opsAt, List.filterMap_cons, List.filterMap_nil, List.getElem?_toArray, List.getElem?_cons_succ, List.getElem?_cons_zero]
        change wpList _ _ _ (_ :: []) _ _
        have hxc := HQ2.out.c
        have c0 := cell_of hxc 0
        have c1 := cell_of hxc 1
        have c2 := cell_of hxc 2
        have c3 := cell_of hxc 3
        have c4 := cell_of hxc 4
        have c5 := cell_of hxc 5
        have c6 := cell_of hxc 6
        have c7 := cell_of hxc 7
        have c8 := cell_of hxc 8
        have c9 := cell_of hxc 9
        have c10 := cell_of hxc 10
        have c11 := cell_of hxc 11
        have c12 := cell_of hxc 12
        simp only [List.getElem?_toArray, List.getElem?_cons_zero, List.getElem?_cons_succ] at c0 c1 c2 c3 c4 c5 c6 c7 c8 c9 c10 c11 c12
        have hlc := (Array.getElem?_eq_some_iff.1 hxc).1
        have zc0 := frozen_of hxc 0
        have zc1 := frozen_of hxc 1
        have zc2 := frozen_of hxc 2
        have zc3 := frozen_of hxc 3
        have zc4 := frozen_of hxc 4
        have zc5 := frozen_of hxc 5
        have zc6 := frozen_of hxc 6
        have zc7 := frozen_of hxc 7
        have zc8 := frozen_of hxc 8
        have zc9 := frozen_of hxc 9
        have zc10 := frozen_of hxc 10
        have zc11 := frozen_of hxc 11
        have zc12 := frozen_of hxc 12
        go_wp2_with fail
        rw [← set13 V2 g13]
        have HQ3 := Lib.hid (HQ2.out.sc (e := ⟨K, C, N, t, o, ep, wd, v, x, y, z, q, b⟩) (mods13 V2 g13 (.int .i64 K) (.int .i64 C) (.int .i64 N) (.int .i64 t) (.int .i64 o) (.int .i64 ep) (.int .i64 wd) (.int .u32 v) (.int .u32 x) (.int .u32 y) (.int .u32 z) (.int .u32 q) (.bool b)) (block13 HQ2.out.c (.int .i64 K) (.int .i64 C) (.int .i64 N) (.int .i64 t) (.int .i64 o) (.int .i64 ep) (.int .i64 wd) (.int .u32 v) (.int .u32 x) (.int .u32 y) (.int .u32 z) (.int .u32 q) (.bool b)))
        refine lexGQ_more (Hof.out _ HQ3.out.below) ?_
        generalize V2.setCells g13 0 [.int .i64 K, .int .i64 C, .int .i64 N, .int .i64 t, .int .i64 o, .int .i64 ep, .int .i64 wd, .int .u32 v, .int .u32 x, .int .u32 y, .int .u32 z, .int .u32 q, .bool b] = V3 at *
        clear hxc hlc c0 c1 c2 c3 c4 c5 c6 c7 c8 c9 c10 c11 c12 zc0 zc1 zc2 zc3 zc4 zc5 zc6 zc7 zc8 zc9 zc10 zc11 zc12
        refine lexG_one (by kernel_rfl) (by kernel_rfl) ?_
        simp only [opsAt, List.filterMap_cons, List.filterMap_nil, List.getElem?_toArray, List.getElem?_cons_succ, List.getElem?_cons_zero]
        change wpList _ _ _ (_ :: []) _ _
        have hxc := HQ3.out.d
        have c0 := cell_of hxc 0
        have c1 := cell_of hxc 1
        have c2 := cell_of hxc 2
        have c3 := cell_of hxc 3
        have c4 := cell_of hxc 4
        have c5 := cell_of hxc 5
        have c6 := cell_of hxc 6
        have c7 := cell_of hxc 7
        have c8 := cell_of hxc 8
        have c9 := cell_of hxc 9
        have c10 := cell_of hxc 10
        have c11 := cell_of hxc 11
        have c12 := cell_of hxc 12
        simp only [List.getElem?_toArray, List.getElem?_cons_zero, List.getElem?_cons_succ] at c0 c1 c2 c3 c4 c5 c6 c7 c8 c9 c10 c11 c12
        have hlc := (Array.getElem?_eq_some_iff.1 hxc).1
        have zc0 := frozen_of hxc 0
        have zc1 := frozen_of hxc 1
        have zc2 := frozen_of hxc 2
        have zc3 := frozen_of hxc 3
        have zc4 := frozen_of hxc 4
        have zc5 := frozen_of hxc 5
        have zc6 := frozen_of hxc 6
        have zc7 := frozen_of hxc 7
        have zc8 := frozen_of hxc 8
        have zc9 := frozen_of hxc 9
        have zc10 := frozen_of hxc 10
        have zc11 := frozen_of hxc 11
        have zc12 := frozen_of hxc 12
        go_wp2_with fail
        rw [← set13 V3 g14]
        have HQ4 := Lib.hid (HQ3.out.sd (e := ⟨K, C, N, t, o, ep, wd, v, x, y, z, q, b⟩) (mods13 V3 g14 (.int .i64 K) (.int .i64 C) (.int .i64 N) (.int .i64 t) (.int .i64 o) (.int .i64 ep) (.int .i64 wd) (.int .u32 v) (.int .u32 x) (.int .u32 y) (.int .u32 z) (.int .u32 q) (.bool b)) (block13 HQ3.out.d (.int .i64 K) (.int .i64 C) (.int .i64 N) (.int .i64 t) (.int .i64 o) (.int .i64 ep) (.int .i64 wd) (.int .u32 v) (.int .u32 x) (.int .u32 y) (.int .u32 z) (.int .u32 q) (.bool b)))
        refine lexGQ_more (Hof.out _ HQ4.out.below) ?_
        generalize V3.setCells g14 0 [.int .i64 K, .int .i64 C, .int .i64 N, .int .i64 t, .int .i64 o, .int .i64 ep, .int .i64 wd, .int .u32 v, .int .u32 x, .int .u32 y, .int .u32 z, .int .u32 q, .bool b] = V4 at *
        clear hxc hlc c0 c1 c2 c3 c4 c5 c6 c7 c8 c9 c10 c11 c12 zc0 zc1 zc2 zc3 zc4 zc5 zc6 zc7 zc8 zc9 zc10 zc11 zc12
        refine lexG_done ?_
        go_wp2_with fail
        go_meet
        case rel => exact ⟨g11, g12, g13, g14, rfl, rfl, rfl, rfl, HQ4.out⟩
      case rest =>
        obtain ⟨g11, g12, g13, g14, rfl, rfl, rfl, rfl, hQ⟩ := hcut
        have HQ := Lib.hid hQ
        clear hQ HM1
        generalize wc = w2 at *
        clear hxk hlk k0 k1 k2 k3 k4 k5 k6 k7 k8 k9 k10 k11 k12
        have hxk := HQ.out.m
        have k0 := cell_of hxk 0
        have k1 := cell_of hxk 1
        have k2 := cell_of hxk 2
        have k3 := cell_of hxk 3
        have k4 := cell_of hxk 4
        have k5 := cell_of hxk 5
        have k6 := cell_of hxk 6
        have k7 := cell_of hxk 7
        have k8 := cell_of hxk 8
        have k9 := cell_of hxk 9
        have k10 := cell_of hxk 10
        have k11 := cell_of hxk 11
        have k12 := cell_of hxk 12
        simp only [List.getElem?_toArray, List.getElem?_cons_zero, List.getElem?_cons_succ] at k0 k1 k2 k3 k4 k5 k6 k7 k8 k9 k10 k11 k12
        have hlk := (Array.getElem?_eq_some_iff.1 hxk).1
        have hxc := HQ.out.a
        have c0 := cell_of hxc 0
        have c1 := cell_of hxc 1
        have c2 := cell_of hxc 2
        have c3 := cell_of hxc 3
        have c4 := cell_of hxc 4
        have c5 := cell_of hxc 5
        have c6 := cell_of hxc 6
        have c7 := cell_of hxc 7
        have c8 := cell_of hxc 8
        have c9 := cell_of hxc 9
        have c10 := cell_of hxc 10
        have c11 := cell_of hxc 11
        have c12 := cell_of hxc 12
        simp only [List.getElem?_toArray, List.getElem?_cons_zero, List.getElem?_cons_succ] at c0 c1 c2 c3 c4 c5 c6 c7 c8 c9 c10 c11 c12
        have hlc := (Array.getElem?_eq_some_iff.1 hxc).1
        have zc7 := frozen_of hxc 7
        have v1 : 0 ≤ v := HFM.out.val.1
        have v2 : v ≤ 4294967295 := HFM.out.val.2
        have u1 : 0 ≤ vv := HVV.out.1
        have u2 : vv ≤ 4294967295 := HVV.out.2
        go_upto_region 7 with fail
        obtain ⟨va, hva⟩ : ∃ x, x = (v + vv) % 4294967296 := ⟨_, rfl⟩
        rw [← hva]
        have HVA := Lib.hid hva
        have HQ3 := Lib.hid (show Qd w1 h5 g11 g12 g13 g14 ⟨K, C, N, t, o, ep, wd, v, x, y, z, q, b⟩ ⟨K, C, N, t, o, ep, wd, va, x, y, z, q, b⟩ ⟨K, C, N, t, o, ep, wd, v, x, y, z, q, b⟩ ⟨K, C, N, t, o, ep, wd, v, x, y, z, q, b⟩ ⟨K, C, N, t, o, ep, wd, v, x, y, z, q, b⟩ (w2.setCell ⟨g11, 7, none⟩ (.int .u32 va)) from HQ.out.sa (e := ⟨K, C, N, t, o, ep, wd, va, x, y, z, q, b⟩) ((Mods.refl (fun q => q = g11) w2).setCell (p := ⟨g11, 7, none⟩) rfl _) ((heap_setCell_at (k := 7) (HQ.out.a) _).trans rfl))
        generalize w2.setCell ⟨g11, 7, none⟩ (.int .u32 va) = w3 at *
        clear hva v1 v2 u1 u2 HQ
        clear hxk hlk k0 k1 k2 k3 k4 k5 k6 k7 k8 k9 k10 k11 k12
        clear hxc hlc c0 c1 c2 c3 c4 c5 c6 c7 c8 c9 c10 c11 c12 zc7
        have hxk := HQ3.out.m
        have k0 := cell_of hxk 0
        have k1 := cell_of hxk 1
        have k2 := cell_of hxk 2
        have k3 := cell_of hxk 3
        have k4 := cell_of hxk 4
        have k5 := cell_of hxk 5
        have k6 := cell_of hxk 6
        have k7 := cell_of hxk 7
        have k8 := cell_of hxk 8
        have k9 := cell_of hxk 9
        have k10 := cell_of hxk 10
        have k11 := cell_of hxk 11
        have k12 := cell_of hxk 12
        simp only [List.getElem?_toArray, List.getElem?_cons_zero, List.getElem?_cons_succ] at k0 k1 k2 k3 k4 k5 k6 k7 k8 k9 k10 k11 k12
        have hlk := (Array.getElem?_eq_some_iff.1 hxk).1
        have hxc := HQ3.out.b
        have c0 := cell_of hxc 0
        have c1 := cell_of hxc 1
        have c2 := cell_of hxc 2
        have c3 := cell_of hxc 3
        have c4 := cell_of hxc 4
        have c5 := cell_of hxc 5
        have c6 := cell_of hxc 6
        have c7 := cell_of hxc 7
        have c8 := cell_of hxc 8
        have c9 := cell_of hxc 9
        have c10 := cell_of hxc 10
        have c11 := cell_of hxc 11
        have c12 := cell_of hxc 12
        simp only [List.getElem?_toArray, List.getElem?_cons_zero, List.getElem?_cons_succ] at c0 c1 c2 c3 c4 c5 c6 c7 c8 c9 c10 c11 c12
        have hlc := (Array.getElem?_eq_some_iff.1 hxc).1
        have zc4 := frozen_of hxc 4
        have hne1 : h5 ≠ g12 := HQ3.out.n0.2.1
        refine wp_region_lexA ⟨[27], []⟩ (fun x => Mods (fun q => q = g12) w3 x) (by kernel_rfl) (by kernel_rfl) (Mods.refl _ _).drew ?_
        intro S hto hof hne
        have x4 : ∀ u0 : Wd S, u0.w.cell? ⟨h5, 4, none⟩ = some (.int .i64 o) := fun u0 => ((hto u0).cell (p := ⟨h5, 4, none⟩) hlk hne1).trans k4
        have Hof := Lib.hid hof
        clear hto hof
        have hwb := wiF_b (n := mo) (lo := 1) (hi := 3) (by omega)
        have fb : 0 ≤ o ∧ o ≤ 3 := HR.out.mode
        obtain ⟨fb1, fb2⟩ := fb
        refine lexW_light 3 (by kernel_rfl) ?_
        simp only [List.take_succ_cons, List.take_zero, List.drop_succ_cons, List.drop_zero]
        repeat (first | go_big_quiet_skip | (go_big_quiet_want; go_big_quiet_op; go_big_quiet_on))
        refine wpQuiet_nil ?_
        refine lexW_pure (by kernel_rfl) (by rfl) rfl Tryd.func27 rfl (by kernel_rfl) (fun x => Within_b mo 1 3 x.w (by omega) (by omega) (by omega) HMO.out.1 HMO.out.2) (by go_simp) ?_
        simp only [Act.put, List.setIfInBounds_toArray, List.set_cons_zero, List.set_cons_succ]
        generalize wiF mo 1 3 = wm at *
        obtain ⟨wb1, wb2⟩ := hwb
        clear x4
        refine lexW_light 3 (by kernel_rfl) ?_
        simp only [List.take_succ_cons, List.take_zero, List.drop_succ_cons, List.drop_zero]
        repeat (first | go_big_quiet_skip | (go_big_quiet_want; go_big_quiet_op; go_big_quiet_on))
        refine wpQuiet_nil ?_
        refine lexW_heavy (by kernel_rfl) ?_
        go_wp2_with fail
        obtain ⟨vb, hvb⟩ : ∃ x, x = (o + wm) % 4 := ⟨_, rfl⟩
        rw [← hvb]
        have HVvb := Lib.hid (show 0 ≤ vb ∧ vb ≤ 3 ∧ (o = 0 → vb ≠ 0) by omega)
        have hMq := ((Mods.refl (fun q => q = g12) w3).setCell (p := ⟨g12, 4, none⟩) rfl (.int .i64 vb)).drew
        have HQ4 := Lib.hid (show Qd w1 h5 g11 g12 g13 g14 ⟨K, C, N, t, o, ep, wd, v, x, y, z, q, b⟩ ⟨K, C, N, t, o, ep, wd, va, x, y, z, q, b⟩ ⟨K, C, N, t, vb, ep, wd, v, x, y, z, q, b⟩ ⟨K, C, N, t, o, ep, wd, v, x, y, z, q, b⟩ ⟨K, C, N, t, o, ep, wd, v, x, y, z, q, b⟩ (w3.setCell ⟨g12, 4, none⟩ (.int .i64 vb)).drew from HQ3.out.sb (e := ⟨K, C, N, t, vb, ep, wd, v, x, y, z, q, b⟩) hMq ((heap_setCell_at (k := 4) (HQ3.out.b) _).trans rfl))
        refine lexQ_more (Hof.out _ hMq) ?_
        clear hMq
        generalize (w3.setCell ⟨g12, 4, none⟩ (.int .i64 vb)).drew = w4 at *
        refine lexW_done ?_
        clear hvb wb1 wb2 fb1 fb2 Hof hne hne1 HQ3
        clear hxk hlk k0 k1 k2 k3 k4 k5 k6 k7 k8 k9 k10 k11 k12
        clear hxc hlc c0 c1 c2 c3 c4 c5 c6 c7 c8 c9 c10 c11 c12 zc4
        go_upto_region 8 with fail
        have hxk := HQ4.out.m
        have k0 := cell_of hxk 0
        have k1 := cell_of hxk 1
        have k2 := cell_of hxk 2
        have k3 := cell_of hxk 3
        have k4 := cell_of hxk 4
        have k5 := cell_of hxk 5
        have k6 := cell_of hxk 6
        have k7 := cell_of hxk 7
        have k8 := cell_of hxk 8
        have k9 := cell_of hxk 9
        have k10 := cell_of hxk 10
        have k11 := cell_of hxk 11
        have k12 := cell_of hxk 12
        simp only [List.getElem?_toArray, List.getElem?_cons_zero, List.getElem?_cons_succ] at k0 k1 k2 k3 k4 k5 k6 k7 k8 k9 k10 k11 k12
        have hlk := (Array.getElem?_eq_some_iff.1 hxk).1
        have hxc := HQ4.out.c
        have c0 := cell_of hxc 0
        have c1 := cell_of hxc 1
        have c2 := cell_of hxc 2
        have c3 := cell_of hxc 3
        have c4 := cell_of hxc 4
        have c5 := cell_of hxc 5
        have c6 := cell_of hxc 6
        have c7 := cell_of hxc 7
        have c8 := cell_of hxc 8
        have c9 := cell_of hxc 9
        have c10 := cell_of hxc 10
        have c11 := cell_of hxc 11
        have c12 := cell_of hxc 12
        simp only [List.getElem?_toArray, List.getElem?_cons_zero, List.getElem?_cons_succ] at c0 c1 c2 c3 c4 c5 c6 c7 c8 c9 c10 c11 c12
        have hlc := (Array.getElem?_eq_some_iff.1 hxc).1
        have zc5 := frozen_of hxc 5
        have hne1 : h5 ≠ g13 := HQ4.out.n0.2.2.1
        refine wp_region_lexA ⟨[27], []⟩ (fun x => Mods (fun q => q = g13) w4 x) (by kernel_rfl) (by kernel_rfl) (Mods.refl _ _).drew ?_
        intro S hto hof hne
        have x4 : ∀ u0 : Wd S, u0.w.cell? ⟨h5, 5, none⟩ = some (.int .i64 ep) := fun u0 => ((hto u0).cell (p := ⟨h5, 5, none⟩) hlk hne1).trans k5
        have Hof := Lib.hid hof
        clear hto hof
        have hwb := wiF_b (n := ec) (lo := 1) (hi := 255) (by omega)
        have fb : 0 ≤ ep ∧ ep ≤ 255 := HR.out.epoch
        obtain ⟨fb1, fb2⟩ := fb
        refine lexW_light 3 (by kernel_rfl) ?_
        simp only [List.take_succ_cons, List.take_zero, List.drop_succ_cons, List.drop_zero]
        repeat (first | go_big_quiet_skip | (go_big_quiet_want; go_big_quiet_op; go_big_quiet_on))
        refine wpQuiet_nil ?_
        refine lexW_pure (by kernel_rfl) (by rfl) rfl Tryd.func27 rfl (by kernel_rfl) (fun x => Within_b ec 1 255 x.w (by omega) (by omega) (by omega) HEC.out.1 HEC.out.2) (by go_simp) ?_
        simp only [Act.put, List.setIfInBounds_toArray, List.set_cons_zero, List.set_cons_succ]
        generalize wiF ec 1 255 = we at *
        obtain ⟨wb1, wb2⟩ := hwb
        clear x4
        refine lexW_light 3 (by kernel_rfl) ?_
        simp only [List.take_succ_cons, List.take_zero, List.drop_succ_cons, List.drop_zero]
        repeat (first | go_big_quiet_skip | (go_big_quiet_want; go_big_quiet_op; go_big_quiet_on))
        refine wpQuiet_nil ?_
        refine lexW_heavy (by kernel_rfl) ?_
        go_wp2_with fail
        obtain ⟨vc, hvb⟩ : ∃ x, x = (ep + we) % 256 := ⟨_, rfl⟩
        rw [← hvb]
        have HVvc := Lib.hid (show 0 ≤ vc ∧ vc ≤ 255 ∧ (ep = 0 → vc ≠ 0) by omega)
        have hMq := ((Mods.refl (fun q => q = g13) w4).setCell (p := ⟨g13, 5, none⟩) rfl (.int .i64 vc)).drew
        have HQ5 := Lib.hid (show Qd w1 h5 g11 g12 g13 g14 ⟨K, C, N, t, o, ep, wd, v, x, y, z, q, b⟩ ⟨K, C, N, t, o, ep, wd, va, x, y, z, q, b⟩ ⟨K, C, N, t, vb, ep, wd, v, x, y, z, q, b⟩ ⟨K, C, N, t, o, vc, wd, v, x, y, z, q, b⟩ ⟨K, C, N, t, o, ep, wd, v, x, y, z, q, b⟩ (w4.setCell ⟨g13, 5, none⟩ (.int .i64 vc)).drew from HQ4.out.sc (e := ⟨K, C, N, t, o, vc, wd, v, x, y, z, q, b⟩) hMq ((heap_setCell_at (k := 5) (HQ4.out.c) _).trans rfl))
        refine lexQ_more (Hof.out _ hMq) ?_
        clear hMq
        generalize (w4.setCell ⟨g13, 5, none⟩ (.int .i64 vc)).drew = w5 at *
        refine lexW_done ?_
        clear hvb wb1 wb2 fb1 fb2 Hof hne hne1 HQ4
        clear hxk hlk k0 k1 k2 k3 k4 k5 k6 k7 k8 k9 k10 k11 k12
        clear hxc hlc c0 c1 c2 c3 c4 c5 c6 c7 c8 c9 c10 c11 c12 zc5
        have hxk := HQ5.out.m
        have k0 := cell_of hxk 0
        have k1 := cell_of hxk 1
        have k2 := cell_of hxk 2
        have k3 := cell_of hxk 3
        have k4 := cell_of hxk 4
        have k5 := cell_of hxk 5
        have k6 := cell_of hxk 6
        have k7 := cell_of hxk 7
        have k8 := cell_of hxk 8
        have k9 := cell_of hxk 9
        have k10 := cell_of hxk 10
        have k11 := cell_of hxk 11
        have k12 := cell_of hxk 12
        simp only [List.getElem?_toArray, List.getElem?_cons_zero, List.getElem?_cons_succ] at k0 k1 k2 k3 k4 k5 k6 k7 k8 k9 k10 k11 k12
        have hlk := (Array.getElem?_eq_some_iff.1 hxk).1
        have hxc := HQ5.out.d
        have c0 := cell_of hxc 0
        have c1 := cell_of hxc 1
        have c2 := cell_of hxc 2
        have c3 := cell_of hxc 3
        have c4 := cell_of hxc 4
        have c5 := cell_of hxc 5
        have c6 := cell_of hxc 6
        have c7 := cell_of hxc 7
        have c8 := cell_of hxc 8
        have c9 := cell_of hxc 9
        have c10 := cell_of hxc 10
        have c11 := cell_of hxc 11
        have c12 := cell_of hxc 12
        simp only [List.getElem?_toArray, List.getElem?_cons_zero, List.getElem?_cons_succ] at c0 c1 c2 c3 c4 c5 c6 c7 c8 c9 c10 c11 c12
        have hlc := (Array.getElem?_eq_some_iff.1 hxc).1
        have zc8 := frozen_of hxc 8
        have zc9 := frozen_of hxc 9
        have zc10 := frozen_of hxc 10
        have zc11 := frozen_of hxc 11
        have zc12 := frozen_of hxc 12
        go_upto_region 11 with fail
        have HQ6 := Lib.hid (show Qd w1 h5 g11 g12 g13 g14 ⟨K, C, N, t, o, ep, wd, v, x, y, z, q, b⟩ ⟨K, C, N, t, o, ep, wd, va, x, y, z, q, b⟩ ⟨K, C, N, t, vb, ep, wd, v, x, y, z, q, b⟩ ⟨K, C, N, t, o, vc, wd, v, x, y, z, q, b⟩ ⟨K, C, N, t, o, ep, wd, v, 0, 0, 0, 0, !b⟩ (((((w5.setCell ⟨g14, 12, none⟩ (.bool !b)).setCell ⟨g14, 8, none⟩ (.int .u32 0)).setCell ⟨g14, 9, none⟩ (.int .u32 0)).setCell ⟨g14, 10, none⟩ (.int .u32 0)).setCell ⟨g14, 11, none⟩ (.int .u32 0)) from HQ5.out.sd (e := ⟨K, C, N, t, o, ep, wd, v, 0, 0, 0, 0, !b⟩) ((((((Mods.refl (fun q => q = g14) w5).setCell (p := ⟨g14, 12, none⟩) rfl _).setCell (p := ⟨g14, 8, none⟩) rfl _).setCell (p := ⟨g14, 9, none⟩) rfl _).setCell (p := ⟨g14, 10, none⟩) rfl _).setCell (p := ⟨g14, 11, none⟩) rfl _) ((heap_setCell_at (k := 11) ((heap_setCell_at (k := 10) ((heap_setCell_at (k := 9) ((heap_setCell_at (k := 8) ((heap_setCell_at (k := 12) (HQ5.out.d) _).trans rfl) _).trans rfl) _).trans rfl) _).trans rfl) _).trans rfl))
        generalize (((((w5.setCell ⟨g14, 12, none⟩ (.bool !b)).setCell ⟨g14, 8, none⟩ (.int .u32 0)).setCell ⟨g14, 9, none⟩ (.int .u32 0)).setCell ⟨g14, 10, none⟩ (.int .u32 0)).setCell ⟨g14, 11, none⟩ (.int .u32 0)) = w6 at *
        clear HQ5
        clear hxk hlk k0 k1 k2 k3 k4 k5 k6 k7 k8 k9 k10 k11 k12
        clear hxc hlc c0 c1 c2 c3 c4 c5 c6 c7 c8 c9 c10 c11 c12 zc8 zc9 zc10 zc11 zc12
        have HRA := Lib.hid (show rightM ⟨K, C, N, t, o, ep, wd, va, x, y, z, q, b⟩ = mgW K from right_val HR.out fun h => by have h1 : v = 0 := (HR.out.bare.word h).2; have := HVA.out; have := HVV.out; have := HV0.out; omega)
        have HRB := Lib.hid (show rightM ⟨K, C, N, t, vb, ep, wd, v, x, y, z, q, b⟩ = mgM K from right_mode HR.out ⟨HVvb.out.1, HVvb.out.2.1⟩ fun h => HVvb.out.2.2 (HR.out.bare.mode h))
        have HRC := Lib.hid (show rightM ⟨K, C, N, t, o, vc, wd, v, x, y, z, q, b⟩ = mgE K from right_epoch HR.out ⟨HVvc.out.1, HVvc.out.2.1⟩ fun h => HVvc.out.2.2 (HR.out.bare.epoch h))
        have HRD := Lib.hid (show rightM ⟨K, C, N, t, o, ep, wd, v, 0, 0, 0, 0, !b⟩ = mgS K from right_has HR.out)
        clear HV0 HVA HVvb HVvc
        obtain ⟨vh, hvh⟩ : ∃ x, x = !b := ⟨_, rfl⟩
        rw [← hvh] at HQ6 HRD ⊢
        clear hvh
        by_cases kh3 : K = 3
        · subst kh3
          as_aux_lemma =>
            have hxk := HQ6.out.m
            have k0 := cell_of hxk 0
            have k1 := cell_of hxk 1
            have k2 := cell_of hxk 2
            have k3 := cell_of hxk 3
            have k4 := cell_of hxk 4
            have k5 := cell_of hxk 5
            have k6 := cell_of hxk 6
            have k7 := cell_of hxk 7
            have k8 := cell_of hxk 8
            have k9 := cell_of hxk 9
            have k10 := cell_of hxk 10
            have k11 := cell_of hxk 11
            have k12 := cell_of hxk 12
            simp only [List.getElem?_toArray, List.getElem?_cons_zero, List.getElem?_cons_succ] at k0 k1 k2 k3 k4 k5 k6 k7 k8 k9 k10 k11 k12
            have hlk := (Array.getElem?_eq_some_iff.1 hxk).1
            go_upto_region 12 with fail
            clear hxk hlk k0 k1 k2 k3 k4 k5 k6 k7 k8 k9 k10 k11 k12
            refine wp_region_lexA ⟨[], []⟩ (fun x => Below w6.heap.size w6 x) (by kernel_rfl) (by kernel_rfl) (Below.refl _ _).drew ?_
            intro S hto hof hne
            have Hof := Lib.hid hof
            have Hto := Lib.hid hto
            clear hto hof
            have hxr := HQ6.out.m
            have r0 := cell_of hxr 0
            have r1 := cell_of hxr 1
            have r2 := cell_of hxr 2
            have r3 := cell_of hxr 3
            have r4 := cell_of hxr 4
            have r5 := cell_of hxr 5
            have r6 := cell_of hxr 6
            have r7 := cell_of hxr 7
            have r8 := cell_of hxr 8
            have r9 := cell_of hxr 9
            have r10 := cell_of hxr 10
            have r11 := cell_of hxr 11
            have r12 := cell_of hxr 12
            simp only [List.getElem?_toArray, List.getElem?_cons_zero, List.getElem?_cons_succ] at r0 r1 r2 r3 r4 r5 r6 r7 r8 r9 r10 r11 r12
            have hlr := (Array.getElem?_eq_some_iff.1 hxr).1
            have xr0 : ∀ u0 : Wd S, u0.w.cell? ⟨h5, 0, none⟩ = some (.int .i64 3) := fun u0 => ((Hto.out u0).cell (p := ⟨h5, 0, none⟩) hlr).trans r0
            clear hxr hlr r0 r1 r2 r3 r4 r5 r6 r7 r8 r9 r10 r11 r12
            have hxe := HQ6.out.a
            have e0 := cell_of hxe 0
            have e1 := cell_of hxe 1
            have e2 := cell_of hxe 2
            have e3 := cell_of hxe 3
            have e4 := cell_of hxe 4
            have e5 := cell_of hxe 5
            have e6 := cell_of hxe 6
            have e7 := cell_of hxe 7
            have e8 := cell_of hxe 8
            have e9 := cell_of hxe 9
            have e10 := cell_of hxe 10
            have e11 := cell_of hxe 11
            have e12 := cell_of hxe 12
            simp only [List.getElem?_toArray, List.getElem?_cons_zero, List.getElem?_cons_succ] at e0 e1 e2 e3 e4 e5 e6 e7 e8 e9 e10 e11 e12
            have hle := (Array.getElem?_eq_some_iff.1 hxe).1
            have xe0 : ∀ u0 : Wd S, u0.w.cell? ⟨g11, 0, none⟩ = some (.int .i64 3) := fun u0 => ((Hto.out u0).cell (p := ⟨g11, 0, none⟩) hle).trans e0
            have xe1 : ∀ u0 : Wd S, u0.w.cell? ⟨g11, 1, none⟩ = some (.int .i64 C) := fun u0 => ((Hto.out u0).cell (p := ⟨g11, 1, none⟩) hle).trans e1
            have xe2 : ∀ u0 : Wd S, u0.w.cell? ⟨g11, 2, none⟩ = some (.int .i64 N) := fun u0 => ((Hto.out u0).cell (p := ⟨g11, 2, none⟩) hle).trans e2
            have xe3 : ∀ u0 : Wd S, u0.w.cell? ⟨g11, 3, none⟩ = some (.int .i64 t) := fun u0 => ((Hto.out u0).cell (p := ⟨g11, 3, none⟩) hle).trans e3
            have xe4 : ∀ u0 : Wd S, u0.w.cell? ⟨g11, 4, none⟩ = some (.int .i64 o) := fun u0 => ((Hto.out u0).cell (p := ⟨g11, 4, none⟩) hle).trans e4
            have xe5 : ∀ u0 : Wd S, u0.w.cell? ⟨g11, 5, none⟩ = some (.int .i64 ep) := fun u0 => ((Hto.out u0).cell (p := ⟨g11, 5, none⟩) hle).trans e5
            have xe6 : ∀ u0 : Wd S, u0.w.cell? ⟨g11, 6, none⟩ = some (.int .i64 wd) := fun u0 => ((Hto.out u0).cell (p := ⟨g11, 6, none⟩) hle).trans e6
            have xe7 : ∀ u0 : Wd S, u0.w.cell? ⟨g11, 7, none⟩ = some (.int .u32 va) := fun u0 => ((Hto.out u0).cell (p := ⟨g11, 7, none⟩) hle).trans e7
            have xe8 : ∀ u0 : Wd S, u0.w.cell? ⟨g11, 8, none⟩ = some (.int .u32 x) := fun u0 => ((Hto.out u0).cell (p := ⟨g11, 8, none⟩) hle).trans e8
            have xe9 : ∀ u0 : Wd S, u0.w.cell? ⟨g11, 9, none⟩ = some (.int .u32 y) := fun u0 => ((Hto.out u0).cell (p := ⟨g11, 9, none⟩) hle).trans e9
            have xe10 : ∀ u0 : Wd S, u0.w.cell? ⟨g11, 10, none⟩ = some (.int .u32 z) := fun u0 => ((Hto.out u0).cell (p := ⟨g11, 10, none⟩) hle).trans e10
            have xe11 : ∀ u0 : Wd S, u0.w.cell? ⟨g11, 11, none⟩ = some (.int .u32 q) := fun u0 => ((Hto.out u0).cell (p := ⟨g11, 11, none⟩) hle).trans e11
            have xe12 : ∀ u0 : Wd S, u0.w.cell? ⟨g11, 12, none⟩ = some (.bool b) := fun u0 => ((Hto.out u0).cell (p := ⟨g11, 12, none⟩) hle).trans e12
            clear hxe hle e0 e1 e2 e3 e4 e5 e6 e7 e8 e9 e10 e11 e12
            refine lexW_light 1 (by kernel_rfl) ?_
            simp only [List.take_succ_cons, List.take_zero, List.drop_succ_cons, List.drop_zero]
            repeat (first | go_big_quiet_skip | (go_big_quiet_want; go_big_quiet_op; go_big_quiet_on))
            refine wpQuiet_nil ?_
            clear xe0 xe1 xe2 xe3 xe4 xe5 xe6 xe7 xe8 xe9 xe10 xe11 xe12
            refine lexW_heavy (by kernel_rfl) ?_
            go_wp2_with fail
            refine (mright_c ⟨3, C, N, t, o, ep, wd, va, x, y, z, q, b⟩ w6.drew).mono ?_
            rintro ev y1 ⟨rfl, hby⟩
            rw [HRA.out, show mgW (3 : Int) = true from rfl]
            have HY1 := Lib.hid ((Below.refl w6.heap.size w6).drew.trans hby)
            clear hby
            go_wp2_with fail
            refine lexQ_more (Hof.out _ HY1.out) ?_
            have hxf := HQ6.out.b
            have f0 := cell_of hxf 0
            have f1 := cell_of hxf 1
            have f2 := cell_of hxf 2
            have f3 := cell_of hxf 3
            have f4 := cell_of hxf 4
            have f5 := cell_of hxf 5
            have f6 := cell_of hxf 6
            have f7 := cell_of hxf 7
            have f8 := cell_of hxf 8
            have f9 := cell_of hxf 9
            have f10 := cell_of hxf 10
            have f11 := cell_of hxf 11
            have f12 := cell_of hxf 12
            simp only [List.getElem?_toArray, List.getElem?_cons_zero, List.getElem?_cons_succ] at f0 f1 f2 f3 f4 f5 f6 f7 f8 f9 f10 f11 f12
            have hlf := (Array.getElem?_eq_some_iff.1 hxf).1
            have xf0 : ∀ u0 : Wd S, u0.w.cell? ⟨g12, 0, none⟩ = some (.int .i64 3) := fun u0 => ((Hto.out u0).cell (p := ⟨g12, 0, none⟩) hlf).trans f0
            have xf1 : ∀ u0 : Wd S, u0.w.cell? ⟨g12, 1, none⟩ = some (.int .i64 C) := fun u0 => ((Hto.out u0).cell (p := ⟨g12, 1, none⟩) hlf).trans f1
            have xf2 : ∀ u0 : Wd S, u0.w.cell? ⟨g12, 2, none⟩ = some (.int .i64 N) := fun u0 => ((Hto.out u0).cell (p := ⟨g12, 2, none⟩) hlf).trans f2
            have xf3 : ∀ u0 : Wd S, u0.w.cell? ⟨g12, 3, none⟩ = some (.int .i64 t) := fun u0 => ((Hto.out u0).cell (p := ⟨g12, 3, none⟩) hlf).trans f3
            have xf4 : ∀ u0 : Wd S, u0.w.cell? ⟨g12, 4, none⟩ = some (.int .i64 vb) := fun u0 => ((Hto.out u0).cell (p := ⟨g12, 4, none⟩) hlf).trans f4
            have xf5 : ∀ u0 : Wd S, u0.w.cell? ⟨g12, 5, none⟩ = some (.int .i64 ep) := fun u0 => ((Hto.out u0).cell (p := ⟨g12, 5, none⟩) hlf).trans f5
            have xf6 : ∀ u0 : Wd S, u0.w.cell? ⟨g12, 6, none⟩ = some (.int .i64 wd) := fun u0 => ((Hto.out u0).cell (p := ⟨g12, 6, none⟩) hlf).trans f6
            have xf7 : ∀ u0 : Wd S, u0.w.cell? ⟨g12, 7, none⟩ = some (.int .u32 v) := fun u0 => ((Hto.out u0).cell (p := ⟨g12, 7, none⟩) hlf).trans f7
            have xf8 : ∀ u0 : Wd S, u0.w.cell? ⟨g12, 8, none⟩ = some (.int .u32 x) := fun u0 => ((Hto.out u0).cell (p := ⟨g12, 8, none⟩) hlf).trans f8
            have xf9 : ∀ u0 : Wd S, u0.w.cell? ⟨g12, 9, none⟩ = some (.int .u32 y) := fun u0 => ((Hto.out u0).cell (p := ⟨g12, 9, none⟩) hlf).trans f9
            have xf10 : ∀ u0 : Wd S, u0.w.cell? ⟨g12, 10, none⟩ = some (.int .u32 z) := fun u0 => ((Hto.out u0).cell (p := ⟨g12, 10, none⟩) hlf).trans f10
            have xf11 : ∀ u0 : Wd S, u0.w.cell? ⟨g12, 11, none⟩ = some (.int .u32 q) := fun u0 => ((Hto.out u0).cell (p := ⟨g12, 11, none⟩) hlf).trans f11
            have xf12 : ∀ u0 : Wd S, u0.w.cell? ⟨g12, 12, none⟩ = some (.bool b) := fun u0 => ((Hto.out u0).cell (p := ⟨g12, 12, none⟩) hlf).trans f12
            clear hxf hlf f0 f1 f2 f3 f4 f5 f6 f7 f8 f9 f10 f11 f12
            refine lexW_light 4 (by kernel_rfl) ?_
            simp only [List.take_succ_cons, List.take_zero, List.drop_succ_cons, List.drop_zero]
            repeat (first | go_big_quiet_skip | (go_big_quiet_want; go_big_quiet_op; go_big_quiet_on))
            refine wpQuiet_nil ?_
            clear xf0 xf1 xf2 xf3 xf4 xf5 xf6 xf7 xf8 xf9 xf10 xf11 xf12
            refine lexW_heavy (by kernel_rfl) ?_
            go_wp2_with fail
            refine (mright_c ⟨3, C, N, t, vb, ep, wd, v, x, y, z, q, b⟩ y1).mono ?_
            rintro ev y2 ⟨rfl, hby⟩
            rw [HRB.out, show mgM (3 : Int) = false from rfl]
            have HY2 := Lib.hid (HY1.out.trans (hby.mono HY1.out.size))
            clear hby
            go_wp2_with fail
            refine lexQ_more (Hof.out _ HY2.out) ?_
            have hxj := HQ6.out.c
            have j0 := cell_of hxj 0
            have j1 := cell_of hxj 1
            have j2 := cell_of hxj 2
            have j3 := cell_of hxj 3
            have j4 := cell_of hxj 4
            have j5 := cell_of hxj 5
            have j6 := cell_of hxj 6
            have j7 := cell_of hxj 7
            have j8 := cell_of hxj 8
            have j9 := cell_of hxj 9
            have j10 := cell_of hxj 10
            have j11 := cell_of hxj 11
            have j12 := cell_of hxj 12
            simp only [List.getElem?_toArray, List.getElem?_cons_zero, List.getElem?_cons_succ] at j0 j1 j2 j3 j4 j5 j6 j7 j8 j9 j10 j11 j12
            have hlj := (Array.getElem?_eq_some_iff.1 hxj).1
            have xj0 : ∀ u0 : Wd S, u0.w.cell? ⟨g13, 0, none⟩ = some (.int .i64 3) := fun u0 => ((Hto.out u0).cell (p := ⟨g13, 0, none⟩) hlj).trans j0
            have xj1 : ∀ u0 : Wd S, u0.w.cell? ⟨g13, 1, none⟩ = some (.int .i64 C) := fun u0 => ((Hto.out u0).cell (p := ⟨g13, 1, none⟩) hlj).trans j1
            have xj2 : ∀ u0 : Wd S, u0.w.cell? ⟨g13, 2, none⟩ = some (.int .i64 N) := fun u0 => ((Hto.out u0).cell (p := ⟨g13, 2, none⟩) hlj).trans j2
            have xj3 : ∀ u0 : Wd S, u0.w.cell? ⟨g13, 3, none⟩ = some (.int .i64 t) := fun u0 => ((Hto.out u0).cell (p := ⟨g13, 3, none⟩) hlj).trans j3
            have xj4 : ∀ u0 : Wd S, u0.w.cell? ⟨g13, 4, none⟩ = some (.int .i64 o) := fun u0 => ((Hto.out u0).cell (p := ⟨g13, 4, none⟩) hlj).trans j4
            have xj5 : ∀ u0 : Wd S, u0.w.cell? ⟨g13, 5, none⟩ = some (.int .i64 vc) := fun u0 => ((Hto.out u0).cell (p := ⟨g13, 5, none⟩) hlj).trans j5
            have xj6 : ∀ u0 : Wd S, u0.w.cell? ⟨g13, 6, none⟩ = some (.int .i64 wd) := fun u0 => ((Hto.out u0).cell (p := ⟨g13, 6, none⟩) hlj).trans j6
            have xj7 : ∀ u0 : Wd S, u0.w.cell? ⟨g13, 7, none⟩ = some (.int .u32 v) := fun u0 => ((Hto.out u0).cell (p := ⟨g13, 7, none⟩) hlj).trans j7
            have xj8 : ∀ u0 : Wd S, u0.w.cell? ⟨g13, 8, none⟩ = some (.int .u32 x) := fun u0 => ((Hto.out u0).cell (p := ⟨g13, 8, none⟩) hlj).trans j8
            have xj9 : ∀ u0 : Wd S, u0.w.cell? ⟨g13, 9, none⟩ = some (.int .u32 y) := fun u0 => ((Hto.out u0).cell (p := ⟨g13, 9, none⟩) hlj).trans j9
            have xj10 : ∀ u0 : Wd S, u0.w.cell? ⟨g13, 10, none⟩ = some (.int .u32 z) := fun u0 => ((Hto.out u0).cell (p := ⟨g13, 10, none⟩) hlj).trans j10
            have xj11 : ∀ u0 : Wd S, u0.w.cell? ⟨g13, 11, none⟩ = some (.int .u32 q) := fun u0 => ((Hto.out u0).cell (p := ⟨g13, 11, none⟩) hlj).trans j11
            have xj12 : ∀ u0 : Wd S, u0.w.cell? ⟨g13, 12, none⟩ = some (.bool b) := fun u0 => ((Hto.out u0).cell (p := ⟨g13, 12, none⟩) hlj).trans j12
            clear hxj hlj j0 j1 j2 j3 j4 j5 j6 j7 j8 j9 j10 j11 j12
            refine lexW_light 17 (by kernel_rfl) ?_
            simp only [List.take_succ_cons, List.take_zero, List.drop_succ_cons, List.drop_zero]
            repeat (first | go_big_quiet_skip | (go_big_quiet_want; go_big_quiet_op; go_big_quiet_on))
            refine wpQuiet_nil ?_
            clear xj0 xj1 xj2 xj3 xj4 xj5 xj6 xj7 xj8 xj9 xj10 xj11 xj12
            refine lexW_heavy (by kernel_rfl) ?_
            go_wp2_with fail
            refine (mright_c ⟨3, C, N, t, o, vc, wd, v, x, y, z, q, b⟩ y2).mono ?_
            rintro ev y3 ⟨rfl, hby⟩
            rw [HRC.out, show mgE (3 : Int) = false from rfl]
            have HY3 := Lib.hid (HY2.out.trans (hby.mono HY2.out.size))
            clear hby
            go_wp2_with fail
            refine lexQ_more (Hof.out _ HY3.out) ?_
            have hxp := HQ6.out.d
            have p0 := cell_of hxp 0
            have p1 := cell_of hxp 1
            have p2 := cell_of hxp 2
            have p3 := cell_of hxp 3
            have p4 := cell_of hxp 4
            have p5 := cell_of hxp 5
            have p6 := cell_of hxp 6
            have p7 := cell_of hxp 7
            have p8 := cell_of hxp 8
            have p9 := cell_of hxp 9
            have p10 := cell_of hxp 10
            have p11 := cell_of hxp 11
            have p12 := cell_of hxp 12
            simp only [List.getElem?_toArray, List.getElem?_cons_zero, List.getElem?_cons_succ] at p0 p1 p2 p3 p4 p5 p6 p7 p8 p9 p10 p11 p12
            have hlp := (Array.getElem?_eq_some_iff.1 hxp).1
            have xp0 : ∀ u0 : Wd S, u0.w.cell? ⟨g14, 0, none⟩ = some (.int .i64 3) := fun u0 => ((Hto.out u0).cell (p := ⟨g14, 0, none⟩) hlp).trans p0
            have xp1 : ∀ u0 : Wd S, u0.w.cell? ⟨g14, 1, none⟩ = some (.int .i64 C) := fun u0 => ((Hto.out u0).cell (p := ⟨g14, 1, none⟩) hlp).trans p1
            have xp2 : ∀ u0 : Wd S, u0.w.cell? ⟨g14, 2, none⟩ = some (.int .i64 N) := fun u0 => ((Hto.out u0).cell (p := ⟨g14, 2, none⟩) hlp).trans p2
            have xp3 : ∀ u0 : Wd S, u0.w.cell? ⟨g14, 3, none⟩ = some (.int .i64 t) := fun u0 => ((Hto.out u0).cell (p := ⟨g14, 3, none⟩) hlp).trans p3
            have xp4 : ∀ u0 : Wd S, u0.w.cell? ⟨g14, 4, none⟩ = some (.int .i64 o) := fun u0 => ((Hto.out u0).cell (p := ⟨g14, 4, none⟩) hlp).trans p4
            have xp5 : ∀ u0 : Wd S, u0.w.cell? ⟨g14, 5, none⟩ = some (.int .i64 ep) := fun u0 => ((Hto.out u0).cell (p := ⟨g14, 5, none⟩) hlp).trans p5
            have xp6 : ∀ u0 : Wd S, u0.w.cell? ⟨g14, 6, none⟩ = some (.int .i64 wd) := fun u0 => ((Hto.out u0).cell (p := ⟨g14, 6, none⟩) hlp).trans p6
            have xp7 : ∀ u0 : Wd S, u0.w.cell? ⟨g14, 7, none⟩ = some (.int .u32 v) := fun u0 => ((Hto.out u0).cell (p := ⟨g14, 7, none⟩) hlp).trans p7
            have xp8 : ∀ u0 : Wd S, u0.w.cell? ⟨g14, 8, none⟩ = some (.int .u32 0) := fun u0 => ((Hto.out u0).cell (p := ⟨g14, 8, none⟩) hlp).trans p8
            have xp9 : ∀ u0 : Wd S, u0.w.cell? ⟨g14, 9, none⟩ = some (.int .u32 0) := fun u0 => ((Hto.out u0).cell (p := ⟨g14, 9, none⟩) hlp).trans p9
            have xp10 : ∀ u0 : Wd S, u0.w.cell? ⟨g14, 10, none⟩ = some (.int .u32 0) := fun u0 => ((Hto.out u0).cell (p := ⟨g14, 10, none⟩) hlp).trans p10
            have xp11 : ∀ u0 : Wd S, u0.w.cell? ⟨g14, 11, none⟩ = some (.int .u32 0) := fun u0 => ((Hto.out u0).cell (p := ⟨g14, 11, none⟩) hlp).trans p11
            have xp12 : ∀ u0 : Wd S, u0.w.cell? ⟨g14, 12, none⟩ = some (.bool vh) := fun u0 => ((Hto.out u0).cell (p := ⟨g14, 12, none⟩) hlp).trans p12
            clear hxp hlp p0 p1 p2 p3 p4 p5 p6 p7 p8 p9 p10 p11 p12
            refine lexW_light 12 (by kernel_rfl) ?_
            simp only [List.take_succ_cons, List.take_zero, List.drop_succ_cons, List.drop_zero]
            repeat (first | go_big_quiet_skip | (go_big_quiet_want; go_big_quiet_op; go_big_quiet_on))
            refine wpQuiet_nil ?_
            clear xp0 xp1 xp2 xp3 xp4 xp5 xp6 xp7 xp8 xp9 xp10 xp11 xp12
            refine lexW_heavy (by kernel_rfl) ?_
            go_wp2_with fail
            refine (mright_c ⟨3, C, N, t, o, ep, wd, v, 0, 0, 0, 0, vh⟩ y3).mono ?_
            rintro ev y4 ⟨rfl, hby⟩
            rw [HRD.out, show mgS (3 : Int) = false from rfl]
            have HY4 := Lib.hid (HY3.out.trans (hby.mono HY3.out.size))
            clear hby
            go_wp2_with fail
            refine lexQ_more (Hof.out _ HY4.out) ?_
            refine lexW_light 11 (by kernel_rfl) ?_
            simp only [List.take_succ_cons, List.take_zero, List.drop_succ_cons, List.drop_zero]
            repeat (first | go_big_quiet_skip | (go_big_quiet_want; go_big_quiet_op; go_big_quiet_on))
            refine wpQuiet_nil ?_
            refine lexW_heavy (by kernel_rfl) ?_
            go_wp2_with fail
            refine (msgRuns A y4 (HSE.out.below (HB1.out.trans ((HQ6.out.below.trans (HY4.out.mono HQ6.out.below.size)).mono HB1.out.size)))).mono ?_
            rintro ev y5 ⟨rfl, hby⟩
            have HY5 := Lib.hid (HY4.out.trans (hby.mono HY4.out.size))
            clear hby
            go_wp2_with fail
            refine lexQ_more (Hof.out _ HY5.out) ?_
            refine lexW_light 2 (by kernel_rfl) ?_
            simp only [List.take_succ_cons, List.take_zero, List.drop_succ_cons, List.drop_zero]
            repeat (first | go_big_quiet_skip | (go_big_quiet_want; go_big_quiet_op; go_big_quiet_on))
            refine wpQuiet_nil ?_
            refine lexW_done ?_
            clear xr0 Hto
            go_wp2_with fail
            go_ret
            exact ⟨rfl, HB1.out.trans ((HQ6.out.below.trans (HY5.out.mono HQ6.out.below.size)).mono HB1.out.size)⟩
        have kg3 : (K == 3) = false := by simpa using kh3
        by_cases kh8 : K = 8
        · subst kh8
          as_aux_lemma =>
            have hxk := HQ6.out.m
            have k0 := cell_of hxk 0
            have k1 := cell_of hxk 1
            have k2 := cell_of hxk 2
            have k3 := cell_of hxk 3
            have k4 := cell_of hxk 4
            have k5 := cell_of hxk 5
            have k6 := cell_of hxk 6
            have k7 := cell_of hxk 7
            have k8 := cell_of hxk 8
            have k9 := cell_of hxk 9
            have k10 := cell_of hxk 10
            have k11 := cell_of hxk 11
            have k12 := cell_of hxk 12
            simp only [List.getElem?_toArray, List.getElem?_cons_zero, List.getElem?_cons_succ] at k0 k1 k2 k3 k4 k5 k6 k7 k8 k9 k10 k11 k12
            have hlk := (Array.getElem?_eq_some_iff.1 hxk).1
            go_upto_region 12 with fail
            clear hxk hlk k0 k1 k2 k3 k4 k5 k6 k7 k8 k9 k10 k11 k12
            refine wp_region_lexA ⟨[], []⟩ (fun x => Below w6.heap.size w6 x) (by kernel_rfl) (by kernel_rfl) (Below.refl _ _).drew ?_
            intro S hto hof hne
            have Hof := Lib.hid hof
            have Hto := Lib.hid hto
            clear hto hof
            have hxr := HQ6.out.m
            have r0 := cell_of hxr 0
            have r1 := cell_of hxr 1
            have r2 := cell_of hxr 2
            have r3 := cell_of hxr 3
            have r4 := cell_of hxr 4
            have r5 := cell_of hxr 5
            have r6 := cell_of hxr 6
            have r7 := cell_of hxr 7
            have r8 := cell_of hxr 8
            have r9 := cell_of hxr 9
            have r10 := cell_of hxr 10
            have r11 := cell_of hxr 11
            have r12 := cell_of hxr 12
            simp only [List.getElem?_toArray, List.getElem?_cons_zero, List.getElem?_cons_succ] at r0 r1 r2 r3 r4 r5 r6 r7 r8 r9 r10 r11 r12
            have hlr := (Array.getElem?_eq_some_iff.1 hxr).1
            have xr0 : ∀ u0 : Wd S, u0.w.cell? ⟨h5, 0, none⟩ = some (.int .i64 8) := fun u0 => ((Hto.out u0).cell (p := ⟨h5, 0, none⟩) hlr).trans r0
            clear hxr hlr r0 r1 r2 r3 r4 r5 r6 r7 r8 r9 r10 r11 r12
            have hxe := HQ6.out.a
            have e0 := cell_of hxe 0
            have e1 := cell_of hxe 1
            have e2 := cell_of hxe 2
            have e3 := cell_of hxe 3
            have e4 := cell_of hxe 4
            have e5 := cell_of hxe 5
            have e6 := cell_of hxe 6
            have e7 := cell_of hxe 7
            have e8 := cell_of hxe 8
            have e9 := cell_of hxe 9
            have e10 := cell_of hxe 10
            have e11 := cell_of hxe 11
            have e12 := cell_of hxe 12
            simp only [List.getElem?_toArray, List.getElem?_cons_zero, List.getElem?_cons_succ] at e0 e1 e2 e3 e4 e5 e6 e7 e8 e9 e10 e11 e12
            have hle := (Array.getElem?_eq_some_iff.1 hxe).1
            have xe0 : ∀ u0 : Wd S, u0.w.cell? ⟨g11, 0, none⟩ = some (.int .i64 8) := fun u0 => ((Hto.out u0).cell (p := ⟨g11, 0, none⟩) hle).trans e0
            have xe1 : ∀ u0 : Wd S, u0.w.cell? ⟨g11, 1, none⟩ = some (.int .i64 C) := fun u0 => ((Hto.out u0).cell (p := ⟨g11, 1, none⟩) hle).trans e1
            have xe2 : ∀ u0 : Wd S, u0.w.cell? ⟨g11, 2, none⟩ = some (.int .i64 N) := fun u0 => ((Hto.out u0).cell (p := ⟨g11, 2, none⟩) hle).trans e2
            have xe3 : ∀ u0 : Wd S, u0.w.cell? ⟨g11, 3, none⟩ = some (.int .i64 t) := fun u0 => ((Hto.out u0).cell (p := ⟨g11, 3, none⟩) hle).trans e3
            have xe4 : ∀ u0 : Wd S, u0.w.cell? ⟨g11, 4, none⟩ = some (.int .i64 o) := fun u0 => ((Hto.out u0).cell (p := ⟨g11, 4, none⟩) hle).trans e4
            have xe5 : ∀ u0 : Wd S, u0.w.cell? ⟨g11, 5, none⟩ = some (.int .i64 ep) := fun u0 => ((Hto.out u0).cell (p := ⟨g11, 5, none⟩) hle).trans e5
            have xe6 : ∀ u0 : Wd S, u0.w.cell? ⟨g11, 6, none⟩ = some (.int .i64 wd) := fun u0 => ((Hto.out u0).cell (p := ⟨g11, 6, none⟩) hle).trans e6
            have xe7 : ∀ u0 : Wd S, u0.w.cell? ⟨g11, 7, none⟩ = some (.int .u32 va) := fun u0 => ((Hto.out u0).cell (p := ⟨g11, 7, none⟩) hle).trans e7
            have xe8 : ∀ u0 : Wd S, u0.w.cell? ⟨g11, 8, none⟩ = some (.int .u32 x) := fun u0 => ((Hto.out u0).cell (p := ⟨g11, 8, none⟩) hle).trans e8
            have xe9 : ∀ u0 : Wd S, u0.w.cell? ⟨g11, 9, none⟩ = some (.int .u32 y) := fun u0 => ((Hto.out u0).cell (p := ⟨g11, 9, none⟩) hle).trans e9
            have xe10 : ∀ u0 : Wd S, u0.w.cell? ⟨g11, 10, none⟩ = some (.int .u32 z) := fun u0 => ((Hto.out u0).cell (p := ⟨g11, 10, none⟩) hle).trans e10
            have xe11 : ∀ u0 : Wd S, u0.w.cell? ⟨g11, 11, none⟩ = some (.int .u32 q) := fun u0 => ((Hto.out u0).cell (p := ⟨g11, 11, none⟩) hle).trans e11
            have xe12 : ∀ u0 : Wd S, u0.w.cell? ⟨g11, 12, none⟩ = some (.bool b) := fun u0 => ((Hto.out u0).cell (p := ⟨g11, 12, none⟩) hle).trans e12
            clear hxe hle e0 e1 e2 e3 e4 e5 e6 e7 e8 e9 e10 e11 e12
            refine lexW_light 1 (by kernel_rfl) ?_
            simp only [List.take_succ_cons, List.take_zero, List.drop_succ_cons, List.drop_zero]
            repeat (first | go_big_quiet_skip | (go_big_quiet_want; go_big_quiet_op; go_big_quiet_on))
            refine wpQuiet_nil ?_
            clear xe0 xe1 xe2 xe3 xe4 xe5 xe6 xe7 xe8 xe9 xe10 xe11 xe12
            refine lexW_heavy (by kernel_rfl) ?_
            go_wp2_with fail
            refine (mright_c ⟨8, C, N, t, o, ep, wd, va, x, y, z, q, b⟩ w6.drew).mono ?_
            rintro ev y1 ⟨rfl, hby⟩
            rw [HRA.out, show mgW (8 : Int) = true from rfl]
            have HY1 := Lib.hid ((Below.refl w6.heap.size w6).drew.trans hby)
            clear hby
            go_wp2_with fail
            refine lexQ_more (Hof.out _ HY1.out) ?_
            have hxf := HQ6.out.b
            have f0 := cell_of hxf 0
            have f1 := cell_of hxf 1
            have f2 := cell_of hxf 2
            have f3 := cell_of hxf 3
            have f4 := cell_of hxf 4
            have f5 := cell_of hxf 5
            have f6 := cell_of hxf 6
            have f7 := cell_of hxf 7
            have f8 := cell_of hxf 8
            have f9 := cell_of hxf 9
            have f10 := cell_of hxf 10
            have f11 := cell_of hxf 11
            have f12 := cell_of hxf 12
            simp only [List.getElem?_toArray, List.getElem?_cons_zero, List.getElem?_cons_succ] at f0 f1 f2 f3 f4 f5 f6 f7 f8 f9 f10 f11 f12
            have hlf := (Array.getElem?_eq_some_iff.1 hxf).1
            have xf0 : ∀ u0 : Wd S, u0.w.cell? ⟨g12, 0, none⟩ = some (.int .i64 8) := fun u0 => ((Hto.out u0).cell (p := ⟨g12, 0, none⟩) hlf).trans f0
            have xf1 : ∀ u0 : Wd S, u0.w.cell? ⟨g12, 1, none⟩ = some (.int .i64 C) := fun u0 => ((Hto.out u0).cell (p := ⟨g12, 1, none⟩) hlf).trans f1
            have xf2 : ∀ u0 : Wd S, u0.w.cell? ⟨g12, 2, none⟩ = some (.int .i64 N) := fun u0 => ((Hto.out u0).cell (p := ⟨g12, 2, none⟩) hlf).trans f2
            have xf3 : ∀ u0 : Wd S, u0.w.cell? ⟨g12, 3, none⟩ = some (.int .i64 t) := fun u0 => ((Hto.out u0).cell (p := ⟨g12, 3, none⟩) hlf).trans f3
            have xf4 : ∀ u0 : Wd S, u0.w.cell? ⟨g12, 4, none⟩ = some (.int .i64 vb) := fun u0 => ((Hto.out u0).cell (p := ⟨g12, 4, none⟩) hlf).trans f4
            have xf5 : ∀ u0 : Wd S, u0.w.cell? ⟨g12, 5, none⟩ = some (.int .i64 ep) := fun u0 => ((Hto.out u0).cell (p := ⟨g12, 5, none⟩) hlf).trans f5
            have xf6 : ∀ u0 : Wd S, u0.w.cell? ⟨g12, 6, none⟩ = some (.int .i64 wd) := fun u0 => ((Hto.out u0).cell (p := ⟨g12, 6, none⟩) hlf).trans f6
            have xf7 : ∀ u0 : Wd S, u0.w.cell? ⟨g12, 7, none⟩ = some (.int .u32 v) := fun u0 => ((Hto.out u0).cell (p := ⟨g12, 7, none⟩) hlf).trans f7
            have xf8 : ∀ u0 : Wd S, u0.w.cell? ⟨g12, 8, none⟩ = some (.int .u32 x) := fun u0 => ((Hto.out u0).cell (p := ⟨g12, 8, none⟩) hlf).trans f8
            have xf9 : ∀ u0 : Wd S, u0.w.cell? ⟨g12, 9, none⟩ = some (.int .u32 y) := fun u0 => ((Hto.out u0).cell (p := ⟨g12, 9, none⟩) hlf).trans f9
            have xf10 : ∀ u0 : Wd S, u0.w.cell? ⟨g12, 10, none⟩ = some (.int .u32 z) := fun u0 => ((Hto.out u0).cell (p := ⟨g12, 10, none⟩) hlf).trans f10
            have xf11 : ∀ u0 : Wd S, u0.w.cell? ⟨g12, 11, none⟩ = some (.int .u32 q) := fun u0 => ((Hto.out u0).cell (p := ⟨g12, 11, none⟩) hlf).trans f11
            have xf12 : ∀ u0 : Wd S, u0.w.cell? ⟨g12, 12, none⟩ = some (.bool b) := fun u0 => ((Hto.out u0).cell (p := ⟨g12, 12, none⟩) hlf).trans f12
            clear hxf hlf f0 f1 f2 f3 f4 f5 f6 f7 f8 f9 f10 f11 f12
            refine lexW_light 4 (by kernel_rfl) ?_
            simp only [List.take_succ_cons, List.take_zero, List.drop_succ_cons, List.drop_zero]
            repeat (first | go_big_quiet_skip | (go_big_quiet_want; go_big_quiet_op; go_big_quiet_on))
            refine wpQuiet_nil ?_
            clear xf0 xf1 xf2 xf3 xf4 xf5 xf6 xf7 xf8 xf9 xf10 xf11 xf12
            refine lexW_heavy (by kernel_rfl) ?_
            go_wp2_with fail
            refine (mright_c ⟨8, C, N, t, vb, ep, wd, v, x, y, z, q, b⟩ y1).mono ?_
            rintro ev y2 ⟨rfl, hby⟩
            rw [HRB.out, show mgM (8 : Int) = false from rfl]
            have HY2 := Lib.hid (HY1.out.trans (hby.mono HY1.out.size))
            clear hby
            go_wp2_with fail
            refine lexQ_more (Hof.out _ HY2.out) ?_
            have hxj := HQ6.out.c
            have j0 := cell_of hxj 0
            have j1 := cell_of hxj 1
            have j2 := cell_of hxj 2
            have j3 := cell_of hxj 3
            have j4 := cell_of hxj 4
            have j5 := cell_of hxj 5
            have j6 := cell_of hxj 6
            have j7 := cell_of hxj 7
            have j8 := cell_of hxj 8
            have j9 := cell_of hxj 9
            have j10 := cell_of hxj 10
            have j11 := cell_of hxj 11
            have j12 := cell_of hxj 12
            simp only [List.getElem?_toArray, List.getElem?_cons_zero, List.getElem?_cons_succ] at j0 j1 j2 j3 j4 j5 j6 j7 j8 j9 j10 j11 j12
            have hlj := (Array.getElem?_eq_some_iff.1 hxj).1
            have xj0 : ∀ u0 : Wd S, u0.w.cell? ⟨g13, 0, none⟩ = some (.int .i64 8) := fun u0 => ((Hto.out u0).cell (p := ⟨g13, 0, none⟩) hlj).trans j0
            have xj1 : ∀ u0 : Wd S, u0.w.cell? ⟨g13, 1, none⟩ = some (.int .i64 C) := fun u0 => ((Hto.out u0).cell (p := ⟨g13, 1, none⟩) hlj).trans j1
            have xj2 : ∀ u0 : Wd S, u0.w.cell? ⟨g13, 2, none⟩ = some (.int .i64 N) := fun u0 => ((Hto.out u0).cell (p := ⟨g13, 2, none⟩) hlj).trans j2
            have xj3 : ∀ u0 : Wd S, u0.w.cell? ⟨g13, 3, none⟩ = some (.int .i64 t) := fun u0 => ((Hto.out u0).cell (p := ⟨g13, 3, none⟩) hlj).trans j3
            have xj4 : ∀ u0 : Wd S, u0.w.cell? ⟨g13, 4, none⟩ = some (.int .i64 o) := fun u0 => ((Hto.out u0).cell (p := ⟨g13, 4, none⟩) hlj).trans j4
            have xj5 : ∀ u0 : Wd S, u0.w.cell? ⟨g13, 5, none⟩ = some (.int .i64 vc) := fun u0 => ((Hto.out u0).cell (p := ⟨g13, 5, none⟩) hlj).trans j5
            have xj6 : ∀ u0 : Wd S, u0.w.cell? ⟨g13, 6, none⟩ = some (.int .i64 wd) := fun u0 => ((Hto.out u0).cell (p := ⟨g13, 6, none⟩) hlj).trans j6
            have xj7 : ∀ u0 : Wd S, u0.w.cell? ⟨g13, 7, none⟩ = some (.int .u32 v) := fun u0 => ((Hto.out u0).cell (p := ⟨g13, 7, none⟩) hlj).trans j7
            have xj8 : ∀ u0 : Wd S, u0.w.cell? ⟨g13, 8, none⟩ = some (.int .u32 x) := fun u0 => ((Hto.out u0).cell (p := ⟨g13, 8, none⟩) hlj).trans j8
            have xj9 : ∀ u0 : Wd S, u0.w.cell? ⟨g13, 9, none⟩ = some (.int .u32 y) := fun u0 => ((Hto.out u0).cell (p := ⟨g13, 9, none⟩) hlj).trans j9
            have xj10 : ∀ u0 : Wd S, u0.w.cell? ⟨g13, 10, none⟩ = some (.int .u32 z) := fun u0 => ((Hto.out u0).cell (p := ⟨g13, 10, none⟩) hlj).trans j10
            have xj11 : ∀ u0 : Wd S, u0.w.cell? ⟨g13, 11, none⟩ = some (.int .u32 q) := fun u0 => ((Hto.out u0).cell (p := ⟨g13, 11, none⟩) hlj).trans j11
            have xj12 : ∀ u0 : Wd S, u0.w.cell? ⟨g13, 12, none⟩ = some (.bool b) := fun u0 => ((Hto.out u0).cell (p := ⟨g13, 12, none⟩) hlj).trans j12
            clear hxj hlj j0 j1 j2 j3 j4 j5 j6 j7 j8 j9 j10 j11 j12
            refine lexW_light 17 (by kernel_rfl) ?_
            simp only [List.take_succ_cons, List.take_zero, List.drop_succ_cons, List.drop_zero]
            repeat (first | go_big_quiet_skip | (go_big_quiet_want; go_big_quiet_op; go_big_quiet_on))
            refine wpQuiet_nil ?_
            clear xj0 xj1 xj2 xj3 xj4 xj5 xj6 xj7 xj8 xj9 xj10 xj11 xj12
            refine lexW_heavy (by kernel_rfl) ?_
            go_wp2_with fail
            refine (mright_c ⟨8, C, N, t, o, vc, wd, v, x, y, z, q, b⟩ y2).mono ?_
            rintro ev y3 ⟨rfl, hby⟩
            rw [HRC.out, show mgE (8 : Int) = false from rfl]
            have HY3 := Lib.hid (HY2.out.trans (hby.mono HY2.out.size))
            clear hby
            go_wp2_with fail
            refine lexQ_more (Hof.out _ HY3.out) ?_
            have hxp := HQ6.out.d
            have p0 := cell_of hxp 0
            have p1 := cell_of hxp 1
            have p2 := cell_of hxp 2
            have p3 := cell_of hxp 3
            have p4 := cell_of hxp 4
            have p5 := cell_of hxp 5
            have p6 := cell_of hxp 6
            have p7 := cell_of hxp 7
            have p8 := cell_of hxp 8
            have p9 := cell_of hxp 9
            have p10 := cell_of hxp 10
            have p11 := cell_of hxp 11
            have p12 := cell_of hxp 12
            simp only [List.getElem?_toArray, List.getElem?_cons_zero, List.getElem?_cons_succ] at p0 p1 p2 p3 p4 p5 p6 p7 p8 p9 p10 p11 p12
            have hlp := (Array.getElem?_eq_some_iff.1 hxp).1
            have xp0 : ∀ u0 : Wd S, u0.w.cell? ⟨g14, 0, none⟩ = some (.int .i64 8) := fun u0 => ((Hto.out u0).cell (p := ⟨g14, 0, none⟩) hlp).trans p0
            have xp1 : ∀ u0 : Wd S, u0.w.cell? ⟨g14, 1, none⟩ = some (.int .i64 C) := fun u0 => ((Hto.out u0).cell (p := ⟨g14, 1, none⟩) hlp).trans p1
            have xp2 : ∀ u0 : Wd S, u0.w.cell? ⟨g14, 2, none⟩ = some (.int .i64 N) := fun u0 => ((Hto.out u0).cell (p := ⟨g14, 2, none⟩) hlp).trans p2
            have xp3 : ∀ u0 : Wd S, u0.w.cell? ⟨g14, 3, none⟩ = some (.int .i64 t) := fun u0 => ((Hto.out u0).cell (p := ⟨g14, 3, none⟩) hlp).trans p3
            have xp4 : ∀ u0 : Wd S, u0.w.cell? ⟨g14, 4, none⟩ = some (.int .i64 o) := fun u0 => ((Hto.out u0).cell (p := ⟨g14, 4, none⟩) hlp).trans p4
            have xp5 : ∀ u0 : Wd S, u0.w.cell? ⟨g14, 5, none⟩ = some (.int .i64 ep) := fun u0 => ((Hto.out u0).cell (p := ⟨g14, 5, none⟩) hlp).trans p5
            have xp6 : ∀ u0 : Wd S, u0.w.cell? ⟨g14, 6, none⟩ = some (.int .i64 wd) := fun u0 => ((Hto.out u0).cell (p := ⟨g14, 6, none⟩) hlp).trans p6
            have xp7 : ∀ u0 : Wd S, u0.w.cell? ⟨g14, 7, none⟩ = some (.int .u32 v) := fun u0 => ((Hto.out u0).cell (p := ⟨g14, 7, none⟩) hlp).trans p7
            have xp8 : ∀ u0 : Wd S, u0.w.cell? ⟨g14, 8, none⟩ = some (.int .u32 0) := fun u0 => ((Hto.out u0).cell (p := ⟨g14, 8, none⟩) hlp).trans p8
            have xp9 : ∀ u0 : Wd S, u0.w.cell? ⟨g14, 9, none⟩ = some (.int .u32 0) := fun u0 => ((Hto.out u0).cell (p := ⟨g14, 9, none⟩) hlp).trans p9
            have xp10 : ∀ u0 : Wd S, u0.w.cell? ⟨g14, 10, none⟩ = some (.int .u32 0) := fun u0 => ((Hto.out u0).cell (p := ⟨g14, 10, none⟩) hlp).trans p10
            have xp11 : ∀ u0 : Wd S, u0.w.cell? ⟨g14, 11, none⟩ = some (.int .u32 0) := fun u0 => ((Hto.out u0).cell (p := ⟨g14, 11, none⟩) hlp).trans p11
            have xp12 : ∀ u0 : Wd S, u0.w.cell? ⟨g14, 12, none⟩ = some (.bool vh) := fun u0 => ((Hto.out u0).cell (p := ⟨g14, 12, none⟩) hlp).trans p12
            clear hxp hlp p0 p1 p2 p3 p4 p5 p6 p7 p8 p9 p10 p11 p12
            refine lexW_light 12 (by kernel_rfl) ?_
            simp only [List.take_succ_cons, List.take_zero, List.drop_succ_cons, List.drop_zero]
            repeat (first | go_big_quiet_skip | (go_big_quiet_want; go_big_quiet_op; go_big_quiet_on))
            refine wpQuiet_nil ?_
            clear xp0 xp1 xp2 xp3 xp4 xp5 xp6 xp7 xp8 xp9 xp10 xp11 xp12
            refine lexW_heavy (by kernel_rfl) ?_
            go_wp2_with fail
            refine (mright_c ⟨8, C, N, t, o, ep, wd, v, 0, 0, 0, 0, vh⟩ y3).mono ?_
            rintro ev y4 ⟨rfl, hby⟩
            rw [HRD.out, show mgS (8 : Int) = false from rfl]
            have HY4 := Lib.hid (HY3.out.trans (hby.mono HY3.out.size))
            clear hby
            go_wp2_with fail
            refine lexQ_more (Hof.out _ HY4.out) ?_
            refine lexW_light 11 (by kernel_rfl) ?_
            simp only [List.take_succ_cons, List.take_zero, List.drop_succ_cons, List.drop_zero]
            repeat (first | go_big_quiet_skip | (go_big_quiet_want; go_big_quiet_op; go_big_quiet_on))
            refine wpQuiet_nil ?_
            refine lexW_heavy (by kernel_rfl) ?_
            go_wp2_with fail
            refine (msgRuns A y4 (HSE.out.below (HB1.out.trans ((HQ6.out.below.trans (HY4.out.mono HQ6.out.below.size)).mono HB1.out.size)))).mono ?_
            rintro ev y5 ⟨rfl, hby⟩
            have HY5 := Lib.hid (HY4.out.trans (hby.mono HY4.out.size))
            clear hby
            go_wp2_with fail
            refine lexQ_more (Hof.out _ HY5.out) ?_
            refine lexW_light 2 (by kernel_rfl) ?_
            simp only [List.take_succ_cons, List.take_zero, List.drop_succ_cons, List.drop_zero]
            repeat (first | go_big_quiet_skip | (go_big_quiet_want; go_big_quiet_op; go_big_quiet_on))
            refine wpQuiet_nil ?_
            refine lexW_done ?_
            clear xr0 Hto
            go_wp2_with fail
            go_ret
            exact ⟨rfl, HB1.out.trans ((HQ6.out.below.trans (HY5.out.mono HQ6.out.below.size)).mono HB1.out.size)⟩
        have kg8 : (K == 8) = false := by simpa using kh8
        by_cases kh14 : K = 14
        · subst kh14
          as_aux_lemma =>
            have hxk := HQ6.out.m
            have k0 := cell_of hxk 0
            have k1 := cell_of hxk 1
            have k2 := cell_of hxk 2
            have k3 := cell_of hxk 3
            have k4 := cell_of hxk 4
            have k5 := cell_of hxk 5
            have k6 := cell_of hxk 6
            have k7 := cell_of hxk 7
            have k8 := cell_of hxk 8
            have k9 := cell_of hxk 9
            have k10 := cell_of hxk 10
            have k11 := cell_of hxk 11
            have k12 := cell_of hxk 12
            simp only [List.getElem?_toArray, List.getElem?_cons_zero, List.getElem?_cons_succ] at k0 k1 k2 k3 k4 k5 k6 k7 k8 k9 k10 k11 k12
            have hlk := (Array.getElem?_eq_some_iff.1 hxk).1
            go_upto_region 12 with fail
            clear hxk hlk k0 k1 k2 k3 k4 k5 k6 k7 k8 k9 k10 k11 k12
            refine wp_region_lexA ⟨[], []⟩ (fun x => Below w6.heap.size w6 x) (by kernel_rfl) (by kernel_rfl) (Below.refl _ _).drew ?_
            intro S hto hof hne
            have Hof := Lib.hid hof
            have Hto := Lib.hid hto
            clear hto hof
            have hxr := HQ6.out.m
            have r0 := cell_of hxr 0
            have r1 := cell_of hxr 1
            have r2 := cell_of hxr 2
            have r3 := cell_of hxr 3
            have r4 := cell_of hxr 4
            have r5 := cell_of hxr 5
            have r6 := cell_of hxr 6
            have r7 := cell_of hxr 7
            have r8 := cell_of hxr 8
            have r9 := cell_of hxr 9
            have r10 := cell_of hxr 10
            have r11 := cell_of hxr 11
            have r12 := cell_of hxr 12
            simp only [List.getElem?_toArray, List.getElem?_cons_zero, List.getElem?_cons_succ] at r0 r1 r2 r3 r4 r5 r6 r7 r8 r9 r10 r11 r12
            have hlr := (Array.getElem?_eq_some_iff.1 hxr).1
            have xr0 : ∀ u0 : Wd S, u0.w.cell? ⟨h5, 0, none⟩ = some (.int .i64 14) := fun u0 => ((Hto.out u0).cell (p := ⟨h5, 0, none⟩) hlr).trans r0
            clear hxr hlr r0 r1 r2 r3 r4 r5 r6 r7 r8 r9 r10 r11 r12
            have hxe := HQ6.out.a
            have e0 := cell_of hxe 0
            have e1 := cell_of hxe 1
            have e2 := cell_of hxe 2
            have e3 := cell_of hxe 3
            have e4 := cell_of hxe 4
            have e5 := cell_of hxe 5
            have e6 := cell_of hxe 6
            have e7 := cell_of hxe 7
            have e8 := cell_of hxe 8
            have e9 := cell_of hxe 9
            have e10 := cell_of hxe 10
            have e11 := cell_of hxe 11
            have e12 := cell_of hxe 12
            simp only [List.getElem?_toArray, List.getElem?_cons_zero, List.getElem?_cons_succ] at e0 e1 e2 e3 e4 e5 e6 e7 e8 e9 e10 e11 e12
            have hle := (Array.getElem?_eq_some_iff.1 hxe).1
            have xe0 : ∀ u0 : Wd S, u0.w.cell? ⟨g11, 0, none⟩ = some (.int .i64 14) := fun u0 => ((Hto.out u0).cell (p := ⟨g11, 0, none⟩) hle).trans e0
            have xe1 : ∀ u0 : Wd S, u0.w.cell? ⟨g11, 1, none⟩ = some (.int .i64 C) := fun u0 => ((Hto.out u0).cell (p := ⟨g11, 1, none⟩) hle).trans e1
            have xe2 : ∀ u0 : Wd S, u0.w.cell? ⟨g11, 2, none⟩ = some (.int .i64 N) := fun u0 => ((Hto.out u0).cell (p := ⟨g11, 2, none⟩) hle).trans e2
            have xe3 : ∀ u0 : Wd S, u0.w.cell? ⟨g11, 3, none⟩ = some (.int .i64 t) := fun u0 => ((Hto.out u0).cell (p := ⟨g11, 3, none⟩) hle).trans e3
            have xe4 : ∀ u0 : Wd S, u0.w.cell? ⟨g11, 4, none⟩ = some (.int .i64 o) := fun u0 => ((Hto.out u0).cell (p := ⟨g11, 4, none⟩) hle).trans e4
            have xe5 : ∀ u0 : Wd S, u0.w.cell? ⟨g11, 5, none⟩ = some (.int .i64 ep) := fun u0 => ((Hto.out u0).cell (p := ⟨g11, 5, none⟩) hle).trans e5
            have xe6 : ∀ u0 : Wd S, u0.w.cell? ⟨g11, 6, none⟩ = some (.int .i64 wd) := fun u0 => ((Hto.out u0).cell (p := ⟨g11, 6, none⟩) hle).trans e6
            have xe7 : ∀ u0 : Wd S, u0.w.cell? ⟨g11, 7, none⟩ = some (.int .u32 va) := fun u0 => ((Hto.out u0).cell (p := ⟨g11, 7, none⟩) hle).trans e7
            have xe8 : ∀ u0 : Wd S, u0.w.cell? ⟨g11, 8, none⟩ = some (.int .u32 x) := fun u0 => ((Hto.out u0).cell (p := ⟨g11, 8, none⟩) hle).trans e8
            have xe9 : ∀ u0 : Wd S, u0.w.cell? ⟨g11, 9, none⟩ = some (.int .u32 y) := fun u0 => ((Hto.out u0).cell (p := ⟨g11, 9, none⟩) hle).trans e9
            have xe10 : ∀ u0 : Wd S, u0.w.cell? ⟨g11, 10, none⟩ = some (.int .u32 z) := fun u0 => ((Hto.out u0).cell (p := ⟨g11, 10, none⟩) hle).trans e10
            have xe11 : ∀ u0 : Wd S, u0.w.cell? ⟨g11, 11, none⟩ = some (.int .u32 q) := fun u0 => ((Hto.out u0).cell (p := ⟨g11, 11, none⟩) hle).trans e11
            have xe12 : ∀ u0 : Wd S, u0.w.cell? ⟨g11, 12, none⟩ = some (.bool b) := fun u0 => ((Hto.out u0).cell (p := ⟨g11, 12, none⟩) hle).trans e12
            clear hxe hle e0 e1 e2 e3 e4 e5 e6 e7 e8 e9 e10 e11 e12
            refine lexW_light 1 (by kernel_rfl) ?_
            simp only [List.take_succ_cons, List.take_zero, List.drop_succ_cons, List.drop_zero]
            repeat (first | go_big_quiet_skip | (go_big_quiet_want; go_big_quiet_op; go_big_quiet_on))
            refine wpQuiet_nil ?_
            clear xe0 xe1 xe2 xe3 xe4 xe5 xe6 xe7 xe8 xe9 xe10 xe11 xe12
            refine lexW_heavy (by kernel_rfl) ?_
            go_wp2_with fail
            refine (mright_c ⟨14, C, N, t, o, ep, wd, va, x, y, z, q, b⟩ w6.drew).mono ?_
            rintro ev y1 ⟨rfl, hby⟩
            rw [HRA.out, show mgW (14 : Int) = true from rfl]
            have HY1 := Lib.hid ((Below.refl w6.heap.size w6).drew.trans hby)
            clear hby
            go_wp2_with fail
            refine lexQ_more (Hof.out _ HY1.out) ?_
            have hxf := HQ6.out.b
            have f0 := cell_of hxf 0
            have f1 := cell_of hxf 1
            have f2 := cell_of hxf 2
            have f3 := cell_of hxf 3
            have f4 := cell_of hxf 4
            have f5 := cell_of hxf 5
            have f6 := cell_of hxf 6
            have f7 := cell_of hxf 7
            have f8 := cell_of hxf 8
            have f9 := cell_of hxf 9
            have f10 := cell_of hxf 10
            have f11 := cell_of hxf 11
            have f12 := cell_of hxf 12
            simp only [List.getElem?_toArray, List.getElem?_cons_zero, List.getElem?_cons_succ] at f0 f1 f2 f3 f4 f5 f6 f7 f8 f9 f10 f11 f12
            have hlf := (Array.getElem?_eq_some_iff.1 hxf).1
            have xf0 : ∀ u0 : Wd S, u0.w.cell? ⟨g12, 0, none⟩ = some (.int .i64 14) := fun u0 => ((Hto.out u0).cell (p := ⟨g12, 0, none⟩) hlf).trans f0
            have xf1 : ∀ u0 : Wd S, u0.w.cell? ⟨g12, 1, none⟩ = some (.int .i64 C) := fun u0 => ((Hto.out u0).cell (p := ⟨g12, 1, none⟩) hlf).trans f1
            have xf2 : ∀ u0 : Wd S, u0.w.cell? ⟨g12, 2, none⟩ = some (.int .i64 N) := fun u0 => ((Hto.out u0).cell (p := ⟨g12, 2, none⟩) hlf).trans f2
            have xf3 : ∀ u0 : Wd S, u0.w.cell? ⟨g12, 3, none⟩ = some (.int .i64 t) := fun u0 => ((Hto.out u0).cell (p := ⟨g12, 3, none⟩) hlf).trans f3
            have xf4 : ∀ u0 : Wd S, u0.w.cell? ⟨g12, 4, none⟩ = some (.int .i64 vb) := fun u0 => ((Hto.out u0).cell (p := ⟨g12, 4, none⟩) hlf).trans f4
            have xf5 : ∀ u0 : Wd S, u0.w.cell? ⟨g12, 5, none⟩ = some (.int .i64 ep) := fun u0 => ((Hto.out u0).cell (p := ⟨g12, 5, none⟩) hlf).trans f5
            have xf6 : ∀ u0 : Wd S, u0.w.cell? ⟨g12, 6, none⟩ = some (.int .i64 wd) := fun u0 => ((Hto.out u0).cell (p := ⟨g12, 6, none⟩) hlf).trans f6
            have xf7 : ∀ u0 : Wd S, u0.w.cell? ⟨g12, 7, none⟩ = some (.int .u32 v) := fun u0 => ((Hto.out u0).cell (p := ⟨g12, 7, none⟩) hlf).trans f7
            have xf8 : ∀ u0 : Wd S, u0.w.cell? ⟨g12, 8, none⟩ = some (.int .u32 x) := fun u0 => ((Hto.out u0).cell (p := ⟨g12, 8, none⟩) hlf).trans f8
            have xf9 : ∀ u0 : Wd S, u0.w.cell? ⟨g12, 9, none⟩ = some (.int .u32 y) := fun u0 => ((Hto.out u0).cell (p := ⟨g12, 9, none⟩) hlf).trans f9
            have xf10 : ∀ u0 : Wd S, u0.w.cell? ⟨g12, 10, none⟩ = some (.int .u32 z) := fun u0 => ((Hto.out u0).cell (p := ⟨g12, 10, none⟩) hlf).trans f10
            have xf11 : ∀ u0 : Wd S, u0.w.cell? ⟨g12, 11, none⟩ = some (.int .u32 q) := fun u0 => ((Hto.out u0).cell (p := ⟨g12, 11, none⟩) hlf).trans f11
            have xf12 : ∀ u0 : Wd S, u0.w.cell? ⟨g12, 12, none⟩ = some (.bool b) := fun u0 => ((Hto.out u0).cell (p := ⟨g12, 12, none⟩) hlf).trans f12
            clear hxf hlf f0 f1 f2 f3 f4 f5 f6 f7 f8 f9 f10 f11 f12
            refine lexW_light 4 (by kernel_rfl) ?_
            simp only [List.take_succ_cons, List.take_zero, List.drop_succ_cons, List.drop_zero]
            repeat (first | go_big_quiet_skip | (go_big_quiet_want; go_big_quiet_op; go_big_quiet_on))
            refine wpQuiet_nil ?_
            clear xf0 xf1 xf2 xf3 xf4 xf5 xf6 xf7 xf8 xf9 xf10 xf11 xf12
            refine lexW_heavy (by kernel_rfl) ?_
            go_wp2_with fail
            refine (mright_c ⟨14, C, N, t, vb, ep, wd, v, x, y, z, q, b⟩ y1).mono ?_
            rintro ev y2 ⟨rfl, hby⟩
            rw [HRB.out, show mgM (14 : Int) = false from rfl]
            have HY2 := Lib.hid (HY1.out.trans (hby.mono HY1.out.size))
            clear hby
            go_wp2_with fail
            refine lexQ_more (Hof.out _ HY2.out) ?_
            have hxj := HQ6.out.c
            have j0 := cell_of hxj 0
            have j1 := cell_of hxj 1
            have j2 := cell_of hxj 2
            have j3 := cell_of hxj 3
            have j4 := cell_of hxj 4
            have j5 := cell_of hxj 5
            have j6 := cell_of hxj 6
            have j7 := cell_of hxj 7
            have j8 := cell_of hxj 8
            have j9 := cell_of hxj 9
            have j10 := cell_of hxj 10
            have j11 := cell_of hxj 11
            have j12 := cell_of hxj 12
            simp only [List.getElem?_toArray, List.getElem?_cons_zero, List.getElem?_cons_succ] at j0 j1 j2 j3 j4 j5 j6 j7 j8 j9 j10 j11 j12
            have hlj := (Array.getElem?_eq_some_iff.1 hxj).1
            have xj0 : ∀ u0 : Wd S, u0.w.cell? ⟨g13, 0, none⟩ = some (.int .i64 14) := fun u0 => ((Hto.out u0).cell (p := ⟨g13, 0, none⟩) hlj).trans j0
            have xj1 : ∀ u0 : Wd S, u0.w.cell? ⟨g13, 1, none⟩ = some (.int .i64 C) := fun u0 => ((Hto.out u0).cell (p := ⟨g13, 1, none⟩) hlj).trans j1
            have xj2 : ∀ u0 : Wd S, u0.w.cell? ⟨g13, 2, none⟩ = some (.int .i64 N) := fun u0 => ((Hto.out u0).cell (p := ⟨g13, 2, none⟩) hlj).trans j2
            have xj3 : ∀ u0 : Wd S, u0.w.cell? ⟨g13, 3, none⟩ = some (.int .i64 t) := fun u0 => ((Hto.out u0).cell (p := ⟨g13, 3, none⟩) hlj).trans j3
            have xj4 : ∀ u0 : Wd S, u0.w.cell? ⟨g13, 4, none⟩ = some (.int .i64 o) := fun u0 => ((Hto.out u0).cell (p := ⟨g13, 4, none⟩) hlj).trans j4
            have xj5 : ∀ u0 : Wd S, u0.w.cell? ⟨g13, 5, none⟩ = some (.int .i64 vc) := fun u0 => ((Hto.out u0).cell (p := ⟨g13, 5, none⟩) hlj).trans j5
            have xj6 : ∀ u0 : Wd S, u0.w.cell? ⟨g13, 6, none⟩ = some (.int .i64 wd) := fun u0 => ((Hto.out u0).cell (p := ⟨g13, 6, none⟩) hlj).trans j6
            have xj7 : ∀ u0 : Wd S, u0.w.cell? ⟨g13, 7, none⟩ = some (.int .u32 v) := fun u0 => ((Hto.out u0).cell (p := ⟨g13, 7, none⟩) hlj).trans j7
            have xj8 : ∀ u0 : Wd S, u0.w.cell? ⟨g13, 8, none⟩ = some (.int .u32 x) := fun u0 => ((Hto.out u0).cell (p := ⟨g13, 8, none⟩) hlj).trans j8
            have xj9 : ∀ u0 : Wd S, u0.w.cell? ⟨g13, 9, none⟩ = some (.int .u32 y) := fun u0 => ((Hto.out u0).cell (p := ⟨g13, 9, none⟩) hlj).trans j9
            have xj10 : ∀ u0 : Wd S, u0.w.cell? ⟨g13, 10, none⟩ = some (.int .u32 z) := fun u0 => ((Hto.out u0).cell (p := ⟨g13, 10, none⟩) hlj).trans j10
            have xj11 : ∀ u0 : Wd S, u0.w.cell? ⟨g13, 11, none⟩ = some (.int .u32 q) := fun u0 => ((Hto.out u0).cell (p := ⟨g13, 11, none⟩) hlj).trans j11
            have xj12 : ∀ u0 : Wd S, u0.w.cell? ⟨g13, 12, none⟩ = some (.bool b) := fun u0 => ((Hto.out u0).cell (p := ⟨g13, 12, none⟩) hlj).trans j12
            clear hxj hlj j0 j1 j2 j3 j4 j5 j6 j7 j8 j9 j10 j11 j12
            refine lexW_light 17 (by kernel_rfl) ?_
            simp only [List.take_succ_cons, List.take_zero, List.drop_succ_cons, List.drop_zero]
            repeat (first | go_big_quiet_skip | (go_big_quiet_want; go_big_quiet_op; go_big_quiet_on))
            refine wpQuiet_nil ?_
            clear xj0 xj1 xj2 xj3 xj4 xj5 xj6 xj7 xj8 xj9 xj10 xj11 xj12
            refine lexW_heavy (by kernel_rfl) ?_
            go_wp2_with fail
            refine (mright_c ⟨14, C, N, t, o, vc, wd, v, x, y, z, q, b⟩ y2).mono ?_
            rintro ev y3 ⟨rfl, hby⟩
            rw [HRC.out, show mgE (14 : Int) = false from rfl]
            have HY3 := Lib.hid (HY2.out.trans (hby.mono HY2.out.size))
            clear hby
            go_wp2_with fail
            refine lexQ_more (Hof.out _ HY3.out) ?_
            have hxp := HQ6.out.d
            have p0 := cell_of hxp 0
            have p1 := cell_of hxp 1
            have p2 := cell_of hxp 2
            have p3 := cell_of hxp 3
            have p4 := cell_of hxp 4
            have p5 := cell_of hxp 5
            have p6 := cell_of hxp 6
            have p7 := cell_of hxp 7
            have p8 := cell_of hxp 8
            have p9 := cell_of hxp 9
            have p10 := cell_of hxp 10
            have p11 := cell_of hxp 11
            have p12 := cell_of hxp 12
            simp only [List.getElem?_toArray, List.getElem?_cons_zero, List.getElem?_cons_succ] at p0 p1 p2 p3 p4 p5 p6 p7 p8 p9 p10 p11 p12
            have hlp := (Array.getElem?_eq_some_iff.1 hxp).1
            have xp0 : ∀ u0 : Wd S, u0.w.cell? ⟨g14, 0, none⟩ = some (.int .i64 14) := fun u0 => ((Hto.out u0).cell (p := ⟨g14, 0, none⟩) hlp).trans p0
            have xp1 : ∀ u0 : Wd S, u0.w.cell? ⟨g14, 1, none⟩ = some (.int .i64 C) := fun u0 => ((Hto.out u0).cell (p := ⟨g14, 1, none⟩) hlp).trans p1
            have xp2 : ∀ u0 : Wd S, u0.w.cell? ⟨g14, 2, none⟩ = some (.int .i64 N) := fun u0 => ((Hto.out u0).cell (p := ⟨g14, 2, none⟩) hlp).trans p2
            have xp3 : ∀ u0 : Wd S, u0.w.cell? ⟨g14, 3, none⟩ = some (.int .i64 t) := fun u0 => ((Hto.out u0).cell (p := ⟨g14, 3, none⟩) hlp).trans p3
            have xp4 : ∀ u0 : Wd S, u0.w.cell? ⟨g14, 4, none⟩ = some (.int .i64 o) := fun u0 => ((Hto.out u0).cell (p := ⟨g14, 4, none⟩) hlp).trans p4
            have xp5 : ∀ u0 : Wd S, u0.w.cell? ⟨g14, 5, none⟩ = some (.int .i64 ep) := fun u0 => ((Hto.out u0).cell (p := ⟨g14, 5, none⟩) hlp).trans p5
            have xp6 : ∀ u0 : Wd S, u0.w.cell? ⟨g14, 6, none⟩ = some (.int .i64 wd) := fun u0 => ((Hto.out u0).cell (p := ⟨g14, 6, none⟩) hlp).trans p6
            have xp7 : ∀ u0 : Wd S, u0.w.cell? ⟨g14, 7, none⟩ = some (.int .u32 v) := fun u0 => ((Hto.out u0).cell (p := ⟨g14, 7, none⟩) hlp).trans p7
            have xp8 : ∀ u0 : Wd S, u0.w.cell? ⟨g14, 8, none⟩ = some (.int .u32 0) := fun u0 => ((Hto.out u0).cell (p := ⟨g14, 8, none⟩) hlp).trans p8
            have xp9 : ∀ u0 : Wd S, u0.w.cell? ⟨g14, 9, none⟩ = some (.int .u32 0) := fun u0 => ((Hto.out u0).cell (p := ⟨g14, 9, none⟩) hlp).trans p9
            have xp10 : ∀ u0 : Wd S, u0.w.cell? ⟨g14, 10, none⟩ = some (.int .u32 0) := fun u0 => ((Hto.out u0).cell (p := ⟨g14, 10, none⟩) hlp).trans p10
            have xp11 : ∀ u0 : Wd S, u0.w.cell? ⟨g14, 11, none⟩ = some (.int .u32 0) := fun u0 => ((Hto.out u0).cell (p := ⟨g14, 11, none⟩) hlp).trans p11
            have xp12 : ∀ u0 : Wd S, u0.w.cell? ⟨g14, 12, none⟩ = some (.bool vh) := fun u0 => ((Hto.out u0).cell (p := ⟨g14, 12, none⟩) hlp).trans p12
            clear hxp hlp p0 p1 p2 p3 p4 p5 p6 p7 p8 p9 p10 p11 p12
            refine lexW_light 12 (by kernel_rfl) ?_
            simp only [List.take_succ_cons, List.take_zero, List.drop_succ_cons, List.drop_zero]
            repeat (first | go_big_quiet_skip | (go_big_quiet_want; go_big_quiet_op; go_big_quiet_on))
            refine wpQuiet_nil ?_
            clear xp0 xp1 xp2 xp3 xp4 xp5 xp6 xp7 xp8 xp9 xp10 xp11 xp12
            refine lexW_heavy (by kernel_rfl) ?_
            go_wp2_with fail
            refine (mright_c ⟨14, C, N, t, o, ep, wd, v, 0, 0, 0, 0, vh⟩ y3).mono ?_
            rintro ev y4 ⟨rfl, hby⟩
            rw [HRD.out, show mgS (14 : Int) = false from rfl]
            have HY4 := Lib.hid (HY3.out.trans (hby.mono HY3.out.size))
            clear hby
            go_wp2_with fail
            refine lexQ_more (Hof.out _ HY4.out) ?_
            refine lexW_light 11 (by kernel_rfl) ?_
            simp only [List.take_succ_cons, List.take_zero, List.drop_succ_cons, List.drop_zero]
            repeat (first | go_big_quiet_skip | (go_big_quiet_want; go_big_quiet_op; go_big_quiet_on))
            refine wpQuiet_nil ?_
            refine lexW_heavy (by kernel_rfl) ?_
            go_wp2_with fail
            refine (msgRuns A y4 (HSE.out.below (HB1.out.trans ((HQ6.out.below.trans (HY4.out.mono HQ6.out.below.size)).mono HB1.out.size)))).mono ?_
            rintro ev y5 ⟨rfl, hby⟩
            have HY5 := Lib.hid (HY4.out.trans (hby.mono HY4.out.size))
            clear hby
            go_wp2_with fail
            refine lexQ_more (Hof.out _ HY5.out) ?_
            refine lexW_light 2 (by kernel_rfl) ?_
            simp only [List.take_succ_cons, List.take_zero, List.drop_succ_cons, List.drop_zero]
            repeat (first | go_big_quiet_skip | (go_big_quiet_want; go_big_quiet_op; go_big_quiet_on))
            refine wpQuiet_nil ?_
            refine lexW_done ?_
            clear xr0 Hto
            go_wp2_with fail
            go_ret
            exact ⟨rfl, HB1.out.trans ((HQ6.out.below.trans (HY5.out.mono HQ6.out.below.size)).mono HB1.out.size)⟩
        have kg14 : (K == 14) = false := by simpa using kh14
        by_cases kh9 : K = 9
        · subst kh9
          as_aux_lemma =>
            have hxk := HQ6.out.m
            have k0 := cell_of hxk 0
            have k1 := cell_of hxk 1
            have k2 := cell_of hxk 2
            have k3 := cell_of hxk 3
            have k4 := cell_of hxk 4
            have k5 := cell_of hxk 5
            have k6 := cell_of hxk 6
            have k7 := cell_of hxk 7
            have k8 := cell_of hxk 8
            have k9 := cell_of hxk 9
            have k10 := cell_of hxk 10
            have k11 := cell_of hxk 11
            have k12 := cell_of hxk 12
            simp only [List.getElem?_toArray, List.getElem?_cons_zero, List.getElem?_cons_succ] at k0 k1 k2 k3 k4 k5 k6 k7 k8 k9 k10 k11 k12
            have hlk := (Array.getElem?_eq_some_iff.1 hxk).1
            go_upto_region 12 with fail
            clear hxk hlk k0 k1 k2 k3 k4 k5 k6 k7 k8 k9 k10 k11 k12
            refine wp_region_lexA ⟨[], []⟩ (fun x => Below w6.heap.size w6 x) (by kernel_rfl) (by kernel_rfl) (Below.refl _ _).drew ?_
            intro S hto hof hne
            have Hof := Lib.hid hof
            have Hto := Lib.hid hto
            clear hto hof
            have hxr := HQ6.out.m
            have r0 := cell_of hxr 0
            have r1 := cell_of hxr 1
            have r2 := cell_of hxr 2
            have r3 := cell_of hxr 3
            have r4 := cell_of hxr 4
            have r5 := cell_of hxr 5
            have r6 := cell_of hxr 6
            have r7 := cell_of hxr 7
            have r8 := cell_of hxr 8
            have r9 := cell_of hxr 9
            have r10 := cell_of hxr 10
            have r11 := cell_of hxr 11
            have r12 := cell_of hxr 12
            simp only [List.getElem?_toArray, List.getElem?_cons_zero, List.getElem?_cons_succ] at r0 r1 r2 r3 r4 r5 r6 r7 r8 r9 r10 r11 r12
            have hlr := (Array.getElem?_eq_some_iff.1 hxr).1
            have xr0 : ∀ u0 : Wd S, u0.w.cell? ⟨h5, 0, none⟩ = some (.int .i64 9) := fun u0 => ((Hto.out u0).cell (p := ⟨h5, 0, none⟩) hlr).trans r0
            clear hxr hlr r0 r1 r2 r3 r4 r5 r6 r7 r8 r9 r10 r11 r12
            have hxe := HQ6.out.a
            have e0 := cell_of hxe 0
            have e1 := cell_of hxe 1
            have e2 := cell_of hxe 2
            have e3 := cell_of hxe 3
            have e4 := cell_of hxe 4
            have e5 := cell_of hxe 5
            have e6 := cell_of hxe 6
            have e7 := cell_of hxe 7
            have e8 := cell_of hxe 8
            have e9 := cell_of hxe 9
            have e10 := cell_of hxe 10
            have e11 := cell_of hxe 11
            have e12 := cell_of hxe 12
            simp only [List.getElem?_toArray, List.getElem?_cons_zero, List.getElem?_cons_succ] at e0 e1 e2 e3 e4 e5 e6 e7 e8 e9 e10 e11 e12
            have hle := (Array.getElem?_eq_some_iff.1 hxe).1
            have xe0 : ∀ u0 : Wd S, u0.w.cell? ⟨g11, 0, none⟩ = some (.int .i64 9) := fun u0 => ((Hto.out u0).cell (p := ⟨g11, 0, none⟩) hle).trans e0
            have xe1 : ∀ u0 : Wd S, u0.w.cell? ⟨g11, 1, none⟩ = some (.int .i64 C) := fun u0 => ((Hto.out u0).cell (p := ⟨g11, 1, none⟩) hle).trans e1
            have xe2 : ∀ u0 : Wd S, u0.w.cell? ⟨g11, 2, none⟩ = some (.int .i64 N) := fun u0 => ((Hto.out u0).cell (p := ⟨g11, 2, none⟩) hle).trans e2
            have xe3 : ∀ u0 : Wd S, u0.w.cell? ⟨g11, 3, none⟩ = some (.int .i64 t) := fun u0 => ((Hto.out u0).cell (p := ⟨g11, 3, none⟩) hle).trans e3
            have xe4 : ∀ u0 : Wd S, u0.w.cell? ⟨g11, 4, none⟩ = some (.int .i64 o) := fun u0 => ((Hto.out u0).cell (p := ⟨g11, 4, none⟩) hle).trans e4
            have xe5 : ∀ u0 : Wd S, u0.w.cell? ⟨g11, 5, none⟩ = some (.int .i64 ep) := fun u0 => ((Hto.out u0).cell (p := ⟨g11, 5, none⟩) hle).trans e5
            have xe6 : ∀ u0 : Wd S, u0.w.cell? ⟨g11, 6, none⟩ = some (.int .i64 wd) := fun u0 => ((Hto.out u0).cell (p := ⟨g11, 6, none⟩) hle).trans e6
            have xe7 : ∀ u0 : Wd S, u0.w.cell? ⟨g11, 7, none⟩ = some (.int .u32 va) := fun u0 => ((Hto.out u0).cell (p := ⟨g11, 7, none⟩) hle).trans e7
            have xe8 : ∀ u0 : Wd S, u0.w.cell? ⟨g11, 8, none⟩ = some (.int .u32 x) := fun u0 => ((Hto.out u0).cell (p := ⟨g11, 8, none⟩) hle).trans e8
            have xe9 : ∀ u0 : Wd S, u0.w.cell? ⟨g11, 9, none⟩ = some (.int .u32 y) := fun u0 => ((Hto.out u0).cell (p := ⟨g11, 9, none⟩) hle).trans e9
            have xe10 : ∀ u0 : Wd S, u0.w.cell? ⟨g11, 10, none⟩ = some (.int .u32 z) := fun u0 => ((Hto.out u0).cell (p := ⟨g11, 10, none⟩) hle).trans e10
            have xe11 : ∀ u0 : Wd S, u0.w.cell? ⟨g11, 11, none⟩ = some (.int .u32 q) := fun u0 => ((Hto.out u0).cell (p := ⟨g11, 11, none⟩) hle).trans e11
            have xe12 : ∀ u0 : Wd S, u0.w.cell? ⟨g11, 12, none⟩ = some (.bool b) := fun u0 => ((Hto.out u0).cell (p := ⟨g11, 12, none⟩) hle).trans e12
            clear hxe hle e0 e1 e2 e3 e4 e5 e6 e7 e8 e9 e10 e11 e12
            refine lexW_light 1 (by kernel_rfl) ?_
            simp only [List.take_succ_cons, List.take_zero, List.drop_succ_cons, List.drop_zero]
            repeat (first | go_big_quiet_skip | (go_big_quiet_want; go_big_quiet_op; go_big_quiet_on))
            refine wpQuiet_nil ?_
            clear xe0 xe1 xe2 xe3 xe4 xe5 xe6 xe7 xe8 xe9 xe10 xe11 xe12
            refine lexW_heavy (by kernel_rfl) ?_
            go_wp2_with fail
            refine (mright_c ⟨9, C, N, t, o, ep, wd, va, x, y, z, q, b⟩ w6.drew).mono ?_
            rintro ev y1 ⟨rfl, hby⟩
            rw [HRA.out, show mgW (9 : Int) = false from rfl]
            have HY1 := Lib.hid ((Below.refl w6.heap.size w6).drew.trans hby)
            clear hby
            go_wp2_with fail
            refine lexQ_more (Hof.out _ HY1.out) ?_
            have hxf := HQ6.out.b
            have f0 := cell_of hxf 0
            have f1 := cell_of hxf 1
            have f2 := cell_of hxf 2
            have f3 := cell_of hxf 3
            have f4 := cell_of hxf 4
            have f5 := cell_of hxf 5
            have f6 := cell_of hxf 6
            have f7 := cell_of hxf 7
            have f8 := cell_of hxf 8
            have f9 := cell_of hxf 9
            have f10 := cell_of hxf 10
            have f11 := cell_of hxf 11
            have f12 := cell_of hxf 12
            simp only [List.getElem?_toArray, List.getElem?_cons_zero, List.getElem?_cons_succ] at f0 f1 f2 f3 f4 f5 f6 f7 f8 f9 f10 f11 f12
            have hlf := (Array.getElem?_eq_some_iff.1 hxf).1
            have xf0 : ∀ u0 : Wd S, u0.w.cell? ⟨g12, 0, none⟩ = some (.int .i64 9) := fun u0 => ((Hto.out u0).cell (p := ⟨g12, 0, none⟩) hlf).trans f0
            have xf1 : ∀ u0 : Wd S, u0.w.cell? ⟨g12, 1, none⟩ = some (.int .i64 C) := fun u0 => ((Hto.out u0).cell (p := ⟨g12, 1, none⟩) hlf).trans f1
            have xf2 : ∀ u0 : Wd S, u0.w.cell? ⟨g12, 2, none⟩ = some (.int .i64 N) := fun u0 => ((Hto.out u0).cell (p := ⟨g12, 2, none⟩) hlf).trans f2
            have xf3 : ∀ u0 : Wd S, u0.w.cell? ⟨g12, 3, none⟩ = some (.int .i64 t) := fun u0 => ((Hto.out u0).cell (p := ⟨g12, 3, none⟩) hlf).trans f3
            have xf4 : ∀ u0 : Wd S, u0.w.cell? ⟨g12, 4, none⟩ = some (.int .i64 vb) := fun u0 => ((Hto.out u0).cell (p := ⟨g12, 4, none⟩) hlf).trans f4
            have xf5 : ∀ u0 : Wd S, u0.w.cell? ⟨g12, 5, none⟩ = some (.int .i64 ep) := fun u0 => ((Hto.out u0).cell (p := ⟨g12, 5, none⟩) hlf).trans f5
            have xf6 : ∀ u0 : Wd S, u0.w.cell? ⟨g12, 6, none⟩ = some (.int .i64 wd) := fun u0 => ((Hto.out u0).cell (p := ⟨g12, 6, none⟩) hlf).trans f6
            have xf7 : ∀ u0 : Wd S, u0.w.cell? ⟨g12, 7, none⟩ = some (.int .u32 v) := fun u0 => ((Hto.out u0).cell (p := ⟨g12, 7, none⟩) hlf).trans f7
            have xf8 : ∀ u0 : Wd S, u0.w.cell? ⟨g12, 8, none⟩ = some (.int .u32 x) := fun u0 => ((Hto.out u0).cell (p := ⟨g12, 8, none⟩) hlf).trans f8
            have xf9 : ∀ u0 : Wd S, u0.w.cell? ⟨g12, 9, none⟩ = some (.int .u32 y) := fun u0 => ((Hto.out u0).cell (p := ⟨g12, 9, none⟩) hlf).trans f9
            have xf10 : ∀ u0 : Wd S, u0.w.cell? ⟨g12, 10, none⟩ = some (.int .u32 z) := fun u0 => ((Hto.out u0).cell (p := ⟨g12, 10, none⟩) hlf).trans f10
            have xf11 : ∀ u0 : Wd S, u0.w.cell? ⟨g12, 11, none⟩ = some (.int .u32 q) := fun u0 => ((Hto.out u0).cell (p := ⟨g12, 11, none⟩) hlf).trans f11
            have xf12 : ∀ u0 : Wd S, u0.w.cell? ⟨g12, 12, none⟩ = some (.bool b) := fun u0 => ((Hto.out u0).cell (p := ⟨g12, 12, none⟩) hlf).trans f12
            clear hxf hlf f0 f1 f2 f3 f4 f5 f6 f7 f8 f9 f10 f11 f12
            refine lexW_light 4 (by kernel_rfl) ?_
            simp only [List.take_succ_cons, List.take_zero, List.drop_succ_cons, List.drop_zero]
            repeat (first | go_big_quiet_skip | (go_big_quiet_want; go_big_quiet_op; go_big_quiet_on))
            refine wpQuiet_nil ?_
            clear xf0 xf1 xf2 xf3 xf4 xf5 xf6 xf7 xf8 xf9 xf10 xf11 xf12
            refine lexW_heavy (by kernel_rfl) ?_
            go_wp2_with fail
            refine (mright_c ⟨9, C, N, t, vb, ep, wd, v, x, y, z, q, b⟩ y1).mono ?_
            rintro ev y2 ⟨rfl, hby⟩
            rw [HRB.out, show mgM (9 : Int) = true from rfl]
            have HY2 := Lib.hid (HY1.out.trans (hby.mono HY1.out.size))
            clear hby
            go_wp2_with fail
            refine lexQ_more (Hof.out _ HY2.out) ?_
            have hxj := HQ6.out.c
            have j0 := cell_of hxj 0
            have j1 := cell_of hxj 1
            have j2 := cell_of hxj 2
            have j3 := cell_of hxj 3
            have j4 := cell_of hxj 4
            have j5 := cell_of hxj 5
            have j6 := cell_of hxj 6
            have j7 := cell_of hxj 7
            have j8 := cell_of hxj 8
            have j9 := cell_of hxj 9
            have j10 := cell_of hxj 10
            have j11 := cell_of hxj 11
            have j12 := cell_of hxj 12
            simp only [List.getElem?_toArray, List.getElem?_cons_zero, List.getElem?_cons_succ] at j0 j1 j2 j3 j4 j5 j6 j7 j8 j9 j10 j11 j12
            have hlj := (Array.getElem?_eq_some_iff.1 hxj).1
            have xj0 : ∀ u0 : Wd S, u0.w.cell? ⟨g13, 0, none⟩ = some (.int .i64 9) := fun u0 => ((Hto.out u0).cell (p := ⟨g13, 0, none⟩) hlj).trans j0
            have xj1 : ∀ u0 : Wd S, u0.w.cell? ⟨g13, 1, none⟩ = some (.int .i64 C) := fun u0 => ((Hto.out u0).cell (p := ⟨g13, 1, none⟩) hlj).trans j1
            have xj2 : ∀ u0 : Wd S, u0.w.cell? ⟨g13, 2, none⟩ = some (.int .i64 N) := fun u0 => ((Hto.out u0).cell (p := ⟨g13, 2, none⟩) hlj).trans j2
            have xj3 : ∀ u0 : Wd S, u0.w.cell? ⟨g13, 3, none⟩ = some (.int .i64 t) := fun u0 => ((Hto.out u0).cell (p := ⟨g13, 3, none⟩) hlj).trans j3
            have xj4 : ∀ u0 : Wd S, u0.w.cell? ⟨g13, 4, none⟩ = some (.int .i64 o) := fun u0 => ((Hto.out u0).cell (p := ⟨g13, 4, none⟩) hlj).trans j4
            have xj5 : ∀ u0 : Wd S, u0.w.cell? ⟨g13, 5, none⟩ = some (.int .i64 vc) := fun u0 => ((Hto.out u0).cell (p := ⟨g13, 5, none⟩) hlj).trans j5
            have xj6 : ∀ u0 : Wd S, u0.w.cell? ⟨g13, 6, none⟩ = some (.int .i64 wd) := fun u0 => ((Hto.out u0).cell (p := ⟨g13, 6, none⟩) hlj).trans j6
            have xj7 : ∀ u0 : Wd S, u0.w.cell? ⟨g13, 7, none⟩ = some (.int .u32 v) := fun u0 => ((Hto.out u0).cell (p := ⟨g13, 7, none⟩) hlj).trans j7
            have xj8 : ∀ u0 : Wd S, u0.w.cell? ⟨g13, 8, none⟩ = some (.int .u32 x) := fun u0 => ((Hto.out u0).cell (p := ⟨g13, 8, none⟩) hlj).trans j8
            have xj9 : ∀ u0 : Wd S, u0.w.cell? ⟨g13, 9, none⟩ = some (.int .u32 y) := fun u0 => ((Hto.out u0).cell (p := ⟨g13, 9, none⟩) hlj).trans j9
            have xj10 : ∀ u0 : Wd S, u0.w.cell? ⟨g13, 10, none⟩ = some (.int .u32 z) := fun u0 => ((Hto.out u0).cell (p := ⟨g13, 10, none⟩) hlj).trans j10
            have xj11 : ∀ u0 : Wd S, u0.w.cell? ⟨g13, 11, none⟩ = some (.int .u32 q) := fun u0 => ((Hto.out u0).cell (p := ⟨g13, 11, none⟩) hlj).trans j11
            have xj12 : ∀ u0 : Wd S, u0.w.cell? ⟨g13, 12, none⟩ = some (.bool b) := fun u0 => ((Hto.out u0).cell (p := ⟨g13, 12, none⟩) hlj).trans j12
            clear hxj hlj j0 j1 j2 j3 j4 j5 j6 j7 j8 j9 j10 j11 j12
            refine lexW_light 17 (by kernel_rfl) ?_
            simp only [List.take_succ_cons, List.take_zero, List.drop_succ_cons, List.drop_zero]
            repeat (first | go_big_quiet_skip | (go_big_quiet_want; go_big_quiet_op; go_big_quiet_on))
            refine wpQuiet_nil ?_
            clear xj0 xj1 xj2 xj3 xj4 xj5 xj6 xj7 xj8 xj9 xj10 xj11 xj12
            refine lexW_heavy (by kernel_rfl) ?_
            go_wp2_with fail
            refine (mright_c ⟨9, C, N, t, o, vc, wd, v, x, y, z, q, b⟩ y2).mono ?_
            rintro ev y3 ⟨rfl, hby⟩
            rw [HRC.out, show mgE (9 : Int) = true from rfl]
            have HY3 := Lib.hid (HY2.out.trans (hby.mono HY2.out.size))
            clear hby
            go_wp2_with fail
            refine lexQ_more (Hof.out _ HY3.out) ?_
            have hxp := HQ6.out.d
            have p0 := cell_of hxp 0
            have p1 := cell_of hxp 1
            have p2 := cell_of hxp 2
            have p3 := cell_of hxp 3
            have p4 := cell_of hxp 4
            have p5 := cell_of hxp 5
            have p6 := cell_of hxp 6
            have p7 := cell_of hxp 7
            have p8 := cell_of hxp 8
            have p9 := cell_of hxp 9
            have p10 := cell_of hxp 10
            have p11 := cell_of hxp 11
            have p12 := cell_of hxp 12
            simp only [List.getElem?_toArray, List.getElem?_cons_zero, List.getElem?_cons_succ] at p0 p1 p2 p3 p4 p5 p6 p7 p8 p9 p10 p11 p12
            have hlp := (Array.getElem?_eq_some_iff.1 hxp).1
            have xp0 : ∀ u0 : Wd S, u0.w.cell? ⟨g14, 0, none⟩ = some (.int .i64 9) := fun u0 => ((Hto.out u0).cell (p := ⟨g14, 0, none⟩) hlp).trans p0
            have xp1 : ∀ u0 : Wd S, u0.w.cell? ⟨g14, 1, none⟩ = some (.int .i64 C) := fun u0 => ((Hto.out u0).cell (p := ⟨g14, 1, none⟩) hlp).trans p1
            have xp2 : ∀ u0 : Wd S, u0.w.cell? ⟨g14, 2, none⟩ = some (.int .i64 N) := fun u0 => ((Hto.out u0).cell (p := ⟨g14, 2, none⟩) hlp).trans p2
            have xp3 : ∀ u0 : Wd S, u0.w.cell? ⟨g14, 3, none⟩ = some (.int .i64 t) := fun u0 => ((Hto.out u0).cell (p := ⟨g14, 3, none⟩) hlp).trans p3
            have xp4 : ∀ u0 : Wd S, u0.w.cell? ⟨g14, 4, none⟩ = some (.int .i64 o) := fun u0 => ((Hto.out u0).cell (p := ⟨g14, 4, none⟩) hlp).trans p4
            have xp5 : ∀ u0 : Wd S, u0.w.cell? ⟨g14, 5, none⟩ = some (.int .i64 ep) := fun u0 => ((Hto.out u0).cell (p := ⟨g14, 5, none⟩) hlp).trans p5
            have xp6 : ∀ u0 : Wd S, u0.w.cell? ⟨g14, 6, none⟩ = some (.int .i64 wd) := fun u0 => ((Hto.out u0).cell (p := ⟨g14, 6, none⟩) hlp).trans p6
            have xp7 : ∀ u0 : Wd S, u0.w.cell? ⟨g14, 7, none⟩ = some (.int .u32 v) := fun u0 => ((Hto.out u0).cell (p := ⟨g14, 7, none⟩) hlp).trans p7
            have xp8 : ∀ u0 : Wd S, u0.w.cell? ⟨g14, 8, none⟩ = some (.int .u32 0) := fun u0 => ((Hto.out u0).cell (p := ⟨g14, 8, none⟩) hlp).trans p8
            have xp9 : ∀ u0 : Wd S, u0.w.cell? ⟨g14, 9, none⟩ = some (.int .u32 0) := fun u0 => ((Hto.out u0).cell (p := ⟨g14, 9, none⟩) hlp).trans p9
            have xp10 : ∀ u0 : Wd S, u0.w.cell? ⟨g14, 10, none⟩ = some (.int .u32 0) := fun u0 => ((Hto.out u0).cell (p := ⟨g14, 10, none⟩) hlp).trans p10
            have xp11 : ∀ u0 : Wd S, u0.w.cell? ⟨g14, 11, none⟩ = some (.int .u32 0) := fun u0 => ((Hto.out u0).cell (p := ⟨g14, 11, none⟩) hlp).trans p11
            have xp12 : ∀ u0 : Wd S, u0.w.cell? ⟨g14, 12, none⟩ = some (.bool vh) := fun u0 => ((Hto.out u0).cell (p := ⟨g14, 12, none⟩) hlp).trans p12
            clear hxp hlp p0 p1 p2 p3 p4 p5 p6 p7 p8 p9 p10 p11 p12
            refine lexW_light 12 (by kernel_rfl) ?_
            simp only [List.take_succ_cons, List.take_zero, List.drop_succ_cons, List.drop_zero]
            repeat (first | go_big_quiet_skip | (go_big_quiet_want; go_big_quiet_op; go_big_quiet_on))
            refine wpQuiet_nil ?_
            clear xp0 xp1 xp2 xp3 xp4 xp5 xp6 xp7 xp8 xp9 xp10 xp11 xp12
            refine lexW_heavy (by kernel_rfl) ?_
            go_wp2_with fail
            refine (mright_c ⟨9, C, N, t, o, ep, wd, v, 0, 0, 0, 0, vh⟩ y3).mono ?_
            rintro ev y4 ⟨rfl, hby⟩
            rw [HRD.out, show mgS (9 : Int) = false from rfl]
            have HY4 := Lib.hid (HY3.out.trans (hby.mono HY3.out.size))
            clear hby
            go_wp2_with fail
            refine lexQ_more (Hof.out _ HY4.out) ?_
            refine lexW_light 11 (by kernel_rfl) ?_
            simp only [List.take_succ_cons, List.take_zero, List.drop_succ_cons, List.drop_zero]
            repeat (first | go_big_quiet_skip | (go_big_quiet_want; go_big_quiet_op; go_big_quiet_on))
            refine wpQuiet_nil ?_
            refine lexW_heavy (by kernel_rfl) ?_
            go_wp2_with fail
            refine (msgRuns A y4 (HSE.out.below (HB1.out.trans ((HQ6.out.below.trans (HY4.out.mono HQ6.out.below.size)).mono HB1.out.size)))).mono ?_
            rintro ev y5 ⟨rfl, hby⟩
            have HY5 := Lib.hid (HY4.out.trans (hby.mono HY4.out.size))
            clear hby
            go_wp2_with fail
            refine lexQ_more (Hof.out _ HY5.out) ?_
            refine lexW_light 2 (by kernel_rfl) ?_
            simp only [List.take_succ_cons, List.take_zero, List.drop_succ_cons, List.drop_zero]
            repeat (first | go_big_quiet_skip | (go_big_quiet_want; go_big_quiet_op; go_big_quiet_on))
            refine wpQuiet_nil ?_
            refine lexW_done ?_
            clear xr0 Hto
            go_wp2_with fail
            go_ret
            exact ⟨rfl, HB1.out.trans ((HQ6.out.below.trans (HY5.out.mono HQ6.out.below.size)).mono HB1.out.size)⟩
        have kg9 : (K == 9) = false := by simpa using kh9
        by_cases kh5 : K = 5
        · subst kh5
          as_aux_lemma =>
            have hxk := HQ6.out.m
            have k0 := cell_of hxk 0
            have k1 := cell_of hxk 1
            have k2 := cell_of hxk 2
            have k3 := cell_of hxk 3
            have k4 := cell_of hxk 4
            have k5 := cell_of hxk 5
            have k6 := cell_of hxk 6
            have k7 := cell_of hxk 7
            have k8 := cell_of hxk 8
            have k9 := cell_of hxk 9
            have k10 := cell_of hxk 10
            have k11 := cell_of hxk 11
            have k12 := cell_of hxk 12
            simp only [List.getElem?_toArray, List.getElem?_cons_zero, List.getElem?_cons_succ] at k0 k1 k2 k3 k4 k5 k6 k7 k8 k9 k10 k11 k12
            have hlk := (Array.getElem?_eq_some_iff.1 hxk).1
            go_upto_region 12 with fail
            clear hxk hlk k0 k1 k2 k3 k4 k5 k6 k7 k8 k9 k10 k11 k12
            refine wp_region_lexA ⟨[], []⟩ (fun x => Below w6.heap.size w6 x) (by kernel_rfl) (by kernel_rfl) (Below.refl _ _).drew ?_
            intro S hto hof hne
            have Hof := Lib.hid hof
            have Hto := Lib.hid hto
            clear hto hof
            have hxr := HQ6.out.m
            have r0 := cell_of hxr 0
            have r1 := cell_of hxr 1
            have r2 := cell_of hxr 2
            have r3 := cell_of hxr 3
            have r4 := cell_of hxr 4
            have r5 := cell_of hxr 5
            have r6 := cell_of hxr 6
            have r7 := cell_of hxr 7
            have r8 := cell_of hxr 8
            have r9 := cell_of hxr 9
            have r10 := cell_of hxr 10
            have r11 := cell_of hxr 11
            have r12 := cell_of hxr 12
            simp only [List.getElem?_toArray, List.getElem?_cons_zero, List.getElem?_cons_succ] at r0 r1 r2 r3 r4 r5 r6 r7 r8 r9 r10 r11 r12
            have hlr := (Array.getElem?_eq_some_iff.1 hxr).1
            have xr0 : ∀ u0 : Wd S, u0.w.cell? ⟨h5, 0, none⟩ = some (.int .i64 5) := fun u0 => ((Hto.out u0).cell (p := ⟨h5, 0, none⟩) hlr).trans r0
            clear hxr hlr r0 r1 r2 r3 r4 r5 r6 r7 r8 r9 r10 r11 r12
            have hxe := HQ6.out.a
            have e0 := cell_of hxe 0
            have e1 := cell_of hxe 1
            have e2 := cell_of hxe 2
            have e3 := cell_of hxe 3
            have e4 := cell_of hxe 4
            have e5 := cell_of hxe 5
            have e6 := cell_of hxe 6
            have e7 := cell_of hxe 7
            have e8 := cell_of hxe 8
            have e9 := cell_of hxe 9
            have e10 := cell_of hxe 10
            have e11 := cell_of hxe 11
            have e12 := cell_of hxe 12
            simp only [List.getElem?_toArray, List.getElem?_cons_zero, List.getElem?_cons_succ] at e0 e1 e2 e3 e4 e5 e6 e7 e8 e9 e10 e11 e12
            have hle := (Array.getElem?_eq_some_iff.1 hxe).1
            have xe0 : ∀ u0 : Wd S, u0.w.cell? ⟨g11, 0, none⟩ = some (.int .i64 5) := fun u0 => ((Hto.out u0).cell (p := ⟨g11, 0, none⟩) hle).trans e0
            have xe1 : ∀ u0 : Wd S, u0.w.cell? ⟨g11, 1, none⟩ = some (.int .i64 C) := fun u0 => ((Hto.out u0).cell (p := ⟨g11, 1, none⟩) hle).trans e1
            have xe2 : ∀ u0 : Wd S, u0.w.cell? ⟨g11, 2, none⟩ = some (.int .i64 N) := fun u0 => ((Hto.out u0).cell (p := ⟨g11, 2, none⟩) hle).trans e2
            have xe3 : ∀ u0 : Wd S, u0.w.cell? ⟨g11, 3, none⟩ = some (.int .i64 t) := fun u0 => ((Hto.out u0).cell (p := ⟨g11, 3, none⟩) hle).trans e3
            have xe4 : ∀ u0 : Wd S, u0.w.cell? ⟨g11, 4, none⟩ = some (.int .i64 o) := fun u0 => ((Hto.out u0).cell (p := ⟨g11, 4, none⟩) hle).trans e4
            have xe5 : ∀ u0 : Wd S, u0.w.cell? ⟨g11, 5, none⟩ = some (.int .i64 ep) := fun u0 => ((Hto.out u0).cell (p := ⟨g11, 5, none⟩) hle).trans e5
            have xe6 : ∀ u0 : Wd S, u0.w.cell? ⟨g11, 6, none⟩ = some (.int .i64 wd) := fun u0 => ((Hto.out u0).cell (p := ⟨g11, 6, none⟩) hle).trans e6
            have xe7 : ∀ u0 : Wd S, u0.w.cell? ⟨g11, 7, none⟩ = some (.int .u32 va) := fun u0 => ((Hto.out u0).cell (p := ⟨g11, 7, none⟩) hle).trans e7
            have xe8 : ∀ u0 : Wd S, u0.w.cell? ⟨g11, 8, none⟩ = some (.int .u32 x) := fun u0 => ((Hto.out u0).cell (p := ⟨g11, 8, none⟩) hle).trans e8
            have xe9 : ∀ u0 : Wd S, u0.w.cell? ⟨g11, 9, none⟩ = some (.int .u32 y) := fun u0 => ((Hto.out u0).cell (p := ⟨g11, 9, none⟩) hle).trans e9
            have xe10 : ∀ u0 : Wd S, u0.w.cell? ⟨g11, 10, none⟩ = some (.int .u32 z) := fun u0 => ((Hto.out u0).cell (p := ⟨g11, 10, none⟩) hle).trans e10
            have xe11 : ∀ u0 : Wd S, u0.w.cell? ⟨g11, 11, none⟩ = some (.int .u32 q) := fun u0 => ((Hto.out u0).cell (p := ⟨g11, 11, none⟩) hle).trans e11
            have xe12 : ∀ u0 : Wd S, u0.w.cell? ⟨g11, 12, none⟩ = some (.bool b) := fun u0 => ((Hto.out u0).cell (p := ⟨g11, 12, none⟩) hle).trans e12
            clear hxe hle e0 e1 e2 e3 e4 e5 e6 e7 e8 e9 e10 e11 e12
            refine lexW_light 1 (by kernel_rfl) ?_
            simp only [List.take_succ_cons, List.take_zero, List.drop_succ_cons, List.drop_zero]
            repeat (first | go_big_quiet_skip | (go_big_quiet_want; go_big_quiet_op; go_big_quiet_on))
            refine wpQuiet_nil ?_
            clear xe0 xe1 xe2 xe3 xe4 xe5 xe6 xe7 xe8 xe9 xe10 xe11 xe12
            refine lexW_heavy (by kernel_rfl) ?_
            go_wp2_with fail
            refine (mright_c ⟨5, C, N, t, o, ep, wd, va, x, y, z, q, b⟩ w6.drew).mono ?_
            rintro ev y1 ⟨rfl, hby⟩
            rw [HRA.out, show mgW (5 : Int) = false from rfl]
            have HY1 := Lib.hid ((Below.refl w6.heap.size w6).drew.trans hby)
            clear hby
            go_wp2_with fail
            refine lexQ_more (Hof.out _ HY1.out) ?_
            have hxf := HQ6.out.b
            have f0 := cell_of hxf 0
            have f1 := cell_of hxf 1
            have f2 := cell_of hxf 2
            have f3 := cell_of hxf 3
            have f4 := cell_of hxf 4
            have f5 := cell_of hxf 5
            have f6 := cell_of hxf 6
            have f7 := cell_of hxf 7
            have f8 := cell_of hxf 8
            have f9 := cell_of hxf 9
            have f10 := cell_of hxf 10
            have f11 := cell_of hxf 11
            have f12 := cell_of hxf 12
            simp only [List.getElem?_toArray, List.getElem?_cons_zero, List.getElem?_cons_succ] at f0 f1 f2 f3 f4 f5 f6 f7 f8 f9 f10 f11 f12
            have hlf := (Array.getElem?_eq_some_iff.1 hxf).1
            have xf0 : ∀ u0 : Wd S, u0.w.cell? ⟨g12, 0, none⟩ = some (.int .i64 5) := fun u0 => ((Hto.out u0).cell (p := ⟨g12, 0, none⟩) hlf).trans f0
            have xf1 : ∀ u0 : Wd S, u0.w.cell? ⟨g12, 1, none⟩ = some (.int .i64 C) := fun u0 => ((Hto.out u0).cell (p := ⟨g12, 1, none⟩) hlf).trans f1
            have xf2 : ∀ u0 : Wd S, u0.w.cell? ⟨g12, 2, none⟩ = some (.int .i64 N) := fun u0 => ((Hto.out u0).cell (p := ⟨g12, 2, none⟩) hlf).trans f2
            have xf3 : ∀ u0 : Wd S, u0.w.cell? ⟨g12, 3, none⟩ = some (.int .i64 t) := fun u0 => ((Hto.out u0).cell (p := ⟨g12, 3, none⟩) hlf).trans f3
            have xf4 : ∀ u0 : Wd S, u0.w.cell? ⟨g12, 4, none⟩ = some (.int .i64 vb) := fun u0 => ((Hto.out u0).cell (p := ⟨g12, 4, none⟩) hlf).trans f4
            have xf5 : ∀ u0 : Wd S, u0.w.cell? ⟨g12, 5, none⟩ = some (.int .i64 ep) := fun u0 => ((Hto.out u0).cell (p := ⟨g12, 5, none⟩) hlf).trans f5
            have xf6 : ∀ u0 : Wd S, u0.w.cell? ⟨g12, 6, none⟩ = some (.int .i64 wd) := fun u0 => ((Hto.out u0).cell (p := ⟨g12, 6, none⟩) hlf).trans f6
            have xf7 : ∀ u0 : Wd S, u0.w.cell? ⟨g12, 7, none⟩ = some (.int .u32 v) := fun u0 => ((Hto.out u0).cell (p := ⟨g12, 7, none⟩) hlf).trans f7
            have xf8 : ∀ u0 : Wd S, u0.w.cell? ⟨g12, 8, none⟩ = some (.int .u32 x) := fun u0 => ((Hto.out u0).cell (p := ⟨g12, 8, none⟩) hlf).trans f8
            have xf9 : ∀ u0 : Wd S, u0.w.cell? ⟨g12, 9, none⟩ = some (.int .u32 y) := fun u0 => ((Hto.out u0).cell (p := ⟨g12, 9, none⟩) hlf).trans f9
            have xf10 : ∀ u0 : Wd S, u0.w.cell? ⟨g12, 10, none⟩ = some (.int .u32 z) := fun u0 => ((Hto.out u0).cell (p := ⟨g12, 10, none⟩) hlf).trans f10
            have xf11 : ∀ u0 : Wd S, u0.w.cell? ⟨g12, 11, none⟩ = some (.int .u32 q) := fun u0 => ((Hto.out u0).cell (p := ⟨g12, 11, none⟩) hlf).trans f11
            have xf12 : ∀ u0 : Wd S, u0.w.cell? ⟨g12, 12, none⟩ = some (.bool b) := fun u0 => ((Hto.out u0).cell (p := ⟨g12, 12, none⟩) hlf).trans f12
            clear hxf hlf f0 f1 f2 f3 f4 f5 f6 f7 f8 f9 f10 f11 f12
            refine lexW_light 4 (by kernel_rfl) ?_
            simp only [List.take_succ_cons, List.take_zero, List.drop_succ_cons, List.drop_zero]
            repeat (first | go_big_quiet_skip | (go_big_quiet_want; go_big_quiet_op; go_big_quiet_on))
            refine wpQuiet_nil ?_
            clear xf0 xf1 xf2 xf3 xf4 xf5 xf6 xf7 xf8 xf9 xf10 xf11 xf12
            refine lexW_heavy (by kernel_rfl) ?_
            go_wp2_with fail
            refine (mright_c ⟨5, C, N, t, vb, ep, wd, v, x, y, z, q, b⟩ y1).mono ?_
            rintro ev y2 ⟨rfl, hby⟩
            rw [HRB.out, show mgM (5 : Int) = true from rfl]
            have HY2 := Lib.hid (HY1.out.trans (hby.mono HY1.out.size))
            clear hby
            go_wp2_with fail
            refine lexQ_more (Hof.out _ HY2.out) ?_
            have hxj := HQ6.out.c
            have j0 := cell_of hxj 0
            have j1 := cell_of hxj 1
            have j2 := cell_of hxj 2
            have j3 := cell_of hxj 3
            have j4 := cell_of hxj 4
            have j5 := cell_of hxj 5
            have j6 := cell_of hxj 6
            have j7 := cell_of hxj 7
            have j8 := cell_of hxj 8
            have j9 := cell_of hxj 9
            have j10 := cell_of hxj 10
            have j11 := cell_of hxj 11
            have j12 := cell_of hxj 12
            simp only [List.getElem?_toArray, List.getElem?_cons_zero, List.getElem?_cons_succ] at j0 j1 j2 j3 j4 j5 j6 j7 j8 j9 j10 j11 j12
            have hlj := (Array.getElem?_eq_some_iff.1 hxj).1
            have xj0 : ∀ u0 : Wd S, u0.w.cell? ⟨g13, 0, none⟩ = some (.int .i64 5) := fun u0 => ((Hto.out u0).cell (p := ⟨g13, 0, none⟩) hlj).trans j0
            have xj1 : ∀ u0 : Wd S, u0.w.cell? ⟨g13, 1, none⟩ = some (.int .i64 C) := fun u0 => ((Hto.out u0).cell (p := ⟨g13, 1, none⟩) hlj).trans j1
            have xj2 : ∀ u0 : Wd S, u0.w.cell? ⟨g13, 2, none⟩ = some (.int .i64 N) := fun u0 => ((Hto.out u0).cell (p := ⟨g13, 2, none⟩) hlj).trans j2
            have xj3 : ∀ u0 : Wd S, u0.w.cell? ⟨g13, 3, none⟩ = some (.int .i64 t) := fun u0 => ((Hto.out u0).cell (p := ⟨g13, 3, none⟩) hlj).trans j3
            have xj4 : ∀ u0 : Wd S, u0.w.cell? ⟨g13, 4, none⟩ = some (.int .i64 o) := fun u0 => ((Hto.out u0).cell (p := ⟨g13, 4, none⟩) hlj).trans j4
            have xj5 : ∀ u0 : Wd S, u0.w.cell? ⟨g13, 5, none⟩ = some (.int .i64 vc) := fun u0 => ((Hto.out u0).cell (p := ⟨g13, 5, none⟩) hlj).trans j5
            have xj6 : ∀ u0 : Wd S, u0.w.cell? ⟨g13, 6, none⟩ = some (.int .i64 wd) := fun u0 => ((Hto.out u0).cell (p := ⟨g13, 6, none⟩) hlj).trans j6
            have xj7 : ∀ u0 : Wd S, u0.w.cell? ⟨g13, 7, none⟩ = some (.int .u32 v) := fun u0 => ((Hto.out u0).cell (p := ⟨g13, 7, none⟩) hlj).trans j7
            have xj8 : ∀ u0 : Wd S, u0.w.cell? ⟨g13, 8, none⟩ = some (.int .u32 x) := fun u0 => ((Hto.out u0).cell (p := ⟨g13, 8, none⟩) hlj).trans j8
            have xj9 : ∀ u0 : Wd S, u0.w.cell? ⟨g13, 9, none⟩ = some (.int .u32 y) := fun u0 => ((Hto.out u0).cell (p := ⟨g13, 9, none⟩) hlj).trans j9
            have xj10 : ∀ u0 : Wd S, u0.w.cell? ⟨g13, 10, none⟩ = some (.int .u32 z) := fun u0 => ((Hto.out u0).cell (p := ⟨g13, 10, none⟩) hlj).trans j10
            have xj11 : ∀ u0 : Wd S, u0.w.cell? ⟨g13, 11, none⟩ = some (.int .u32 q) := fun u0 => ((Hto.out u0).cell (p := ⟨g13, 11, none⟩) hlj).trans j11
            have xj12 : ∀ u0 : Wd S, u0.w.cell? ⟨g13, 12, none⟩ = some (.bool b) := fun u0 => ((Hto.out u0).cell (p := ⟨g13, 12, none⟩) hlj).trans j12
            clear hxj hlj j0 j1 j2 j3 j4 j5 j6 j7 j8 j9 j10 j11 j12
            refine lexW_light 17 (by kernel_rfl) ?_
            simp only [List.take_succ_cons, List.take_zero, List.drop_succ_cons, List.drop_zero]
            repeat (first | go_big_quiet_skip | (go_big_quiet_want; go_big_quiet_op; go_big_quiet_on))
            refine wpQuiet_nil ?_
            clear xj0 xj1 xj2 xj3 xj4 xj5 xj6 xj7 xj8 xj9 xj10 xj11 xj12
            refine lexW_heavy (by kernel_rfl) ?_
            go_wp2_with fail
            refine (mright_c ⟨5, C, N, t, o, vc, wd, v, x, y, z, q, b⟩ y2).mono ?_
            rintro ev y3 ⟨rfl, hby⟩
            rw [HRC.out, show mgE (5 : Int) = false from rfl]
            have HY3 := Lib.hid (HY2.out.trans (hby.mono HY2.out.size))
            clear hby
            go_wp2_with fail
            refine lexQ_more (Hof.out _ HY3.out) ?_
            have hxp := HQ6.out.d
            have p0 := cell_of hxp 0
            have p1 := cell_of hxp 1
            have p2 := cell_of hxp 2
            have p3 := cell_of hxp 3
            have p4 := cell_of hxp 4
            have p5 := cell_of hxp 5
            have p6 := cell_of hxp 6
            have p7 := cell_of hxp 7
            have p8 := cell_of hxp 8
            have p9 := cell_of hxp 9
            have p10 := cell_of hxp 10
            have p11 := cell_of hxp 11
            have p12 := cell_of hxp 12
            simp only [List.getElem?_toArray, List.getElem?_cons_zero, List.getElem?_cons_succ] at p0 p1 p2 p3 p4 p5 p6 p7 p8 p9 p10 p11 p12
            have hlp := (Array.getElem?_eq_some_iff.1 hxp).1
            have xp0 : ∀ u0 : Wd S, u0.w.cell? ⟨g14, 0, none⟩ = some (.int .i64 5) := fun u0 => ((Hto.out u0).cell (p := ⟨g14, 0, none⟩) hlp).trans p0
            have xp1 : ∀ u0 : Wd S, u0.w.cell? ⟨g14, 1, none⟩ = some (.int .i64 C) := fun u0 => ((Hto.out u0).cell (p := ⟨g14, 1, none⟩) hlp).trans p1
            have xp2 : ∀ u0 : Wd S, u0.w.cell? ⟨g14, 2, none⟩ = some (.int .i64 N) := fun u0 => ((Hto.out u0).cell (p := ⟨g14, 2, none⟩) hlp).trans p2
            have xp3 : ∀ u0 : Wd S, u0.w.cell? ⟨g14, 3, none⟩ = some (.int .i64 t) := fun u0 => ((Hto.out u0).cell (p := ⟨g14, 3, none⟩) hlp).trans p3
            have xp4 : ∀ u0 : Wd S, u0.w.cell? ⟨g14, 4, none⟩ = some (.int .i64 o) := fun u0 => ((Hto.out u0).cell (p := ⟨g14, 4, none⟩) hlp).trans p4
            have xp5 : ∀ u0 : Wd S, u0.w.cell? ⟨g14, 5, none⟩ = some (.int .i64 ep) := fun u0 => ((Hto.out u0).cell (p := ⟨g14, 5, none⟩) hlp).trans p5
            have xp6 : ∀ u0 : Wd S, u0.w.cell? ⟨g14, 6, none⟩ = some (.int .i64 wd) := fun u0 => ((Hto.out u0).cell (p := ⟨g14, 6, none⟩) hlp).trans p6
            have xp7 : ∀ u0 : Wd S, u0.w.cell? ⟨g14, 7, none⟩ = some (.int .u32 v) := fun u0 => ((Hto.out u0).cell (p := ⟨g14, 7, none⟩) hlp).trans p7
            have xp8 : ∀ u0 : Wd S, u0.w.cell? ⟨g14, 8, none⟩ = some (.int .u32 0) := fun u0 => ((Hto.out u0).cell (p := ⟨g14, 8, none⟩) hlp).trans p8
            have xp9 : ∀ u0 : Wd S, u0.w.cell? ⟨g14, 9, none⟩ = some (.int .u32 0) := fun u0 => ((Hto.out u0).cell (p := ⟨g14, 9, none⟩) hlp).trans p9
            have xp10 : ∀ u0 : Wd S, u0.w.cell? ⟨g14, 10, none⟩ = some (.int .u32 0) := fun u0 => ((Hto.out u0).cell (p := ⟨g14, 10, none⟩) hlp).trans p10
            have xp11 : ∀ u0 : Wd S, u0.w.cell? ⟨g14, 11, none⟩ = some (.int .u32 0) := fun u0 => ((Hto.out u0).cell (p := ⟨g14, 11, none⟩) hlp).trans p11
            have xp12 : ∀ u0 : Wd S, u0.w.cell? ⟨g14, 12, none⟩ = some (.bool vh) := fun u0 => ((Hto.out u0).cell (p := ⟨g14, 12, none⟩) hlp).trans p12
            clear hxp hlp p0 p1 p2 p3 p4 p5 p6 p7 p8 p9 p10 p11 p12
            refine lexW_light 12 (by kernel_rfl) ?_
            simp only [List.take_succ_cons, List.take_zero, List.drop_succ_cons, List.drop_zero]
            repeat (first | go_big_quiet_skip | (go_big_quiet_want; go_big_quiet_op; go_big_quiet_on))
            refine wpQuiet_nil ?_
            clear xp0 xp1 xp2 xp3 xp4 xp5 xp6 xp7 xp8 xp9 xp10 xp11 xp12
            refine lexW_heavy (by kernel_rfl) ?_
            go_wp2_with fail
            refine (mright_c ⟨5, C, N, t, o, ep, wd, v, 0, 0, 0, 0, vh⟩ y3).mono ?_
            rintro ev y4 ⟨rfl, hby⟩
            rw [HRD.out, show mgS (5 : Int) = false from rfl]
            have HY4 := Lib.hid (HY3.out.trans (hby.mono HY3.out.size))
            clear hby
            go_wp2_with fail
            refine lexQ_more (Hof.out _ HY4.out) ?_
            refine lexW_light 11 (by kernel_rfl) ?_
            simp only [List.take_succ_cons, List.take_zero, List.drop_succ_cons, List.drop_zero]
            repeat (first | go_big_quiet_skip | (go_big_quiet_want; go_big_quiet_op; go_big_quiet_on))
            refine wpQuiet_nil ?_
            refine lexW_heavy (by kernel_rfl) ?_
            go_wp2_with fail
            refine (msgRuns A y4 (HSE.out.below (HB1.out.trans ((HQ6.out.below.trans (HY4.out.mono HQ6.out.below.size)).mono HB1.out.size)))).mono ?_
            rintro ev y5 ⟨rfl, hby⟩
            have HY5 := Lib.hid (HY4.out.trans (hby.mono HY4.out.size))
            clear hby
            go_wp2_with fail
            refine lexQ_more (Hof.out _ HY5.out) ?_
            refine lexW_light 2 (by kernel_rfl) ?_
            simp only [List.take_succ_cons, List.take_zero, List.drop_succ_cons, List.drop_zero]
            repeat (first | go_big_quiet_skip | (go_big_quiet_want; go_big_quiet_op; go_big_quiet_on))
            refine wpQuiet_nil ?_
            refine lexW_done ?_
            clear xr0 Hto
            go_wp2_with fail
            go_ret
            exact ⟨rfl, HB1.out.trans ((HQ6.out.below.trans (HY5.out.mono HQ6.out.below.size)).mono HB1.out.size)⟩
        have kg5 : (K == 5) = false := by simpa using kh5
        by_cases kh13 : K = 13
        · subst kh13
          as_aux_lemma =>
            have hxk := HQ6.out.m
            have k0 := cell_of hxk 0
            have k1 := cell_of hxk 1
            have k2 := cell_of hxk 2
            have k3 := cell_of hxk 3
            have k4 := cell_of hxk 4
            have k5 := cell_of hxk 5
            have k6 := cell_of hxk 6
            have k7 := cell_of hxk 7
            have k8 := cell_of hxk 8
            have k9 := cell_of hxk 9
            have k10 := cell_of hxk 10
            have k11 := cell_of hxk 11
            have k12 := cell_of hxk 12
            simp only [List.getElem?_toArray, List.getElem?_cons_zero, List.getElem?_cons_succ] at k0 k1 k2 k3 k4 k5 k6 k7 k8 k9 k10 k11 k12
            have hlk := (Array.getElem?_eq_some_iff.1 hxk).1
            go_upto_region 12 with fail
            clear hxk hlk k0 k1 k2 k3 k4 k5 k6 k7 k8 k9 k10 k11 k12
            refine wp_region_lexA ⟨[], []⟩ (fun x => Below w6.heap.size w6 x) (by kernel_rfl) (by kernel_rfl) (Below.refl _ _).drew ?_
            intro S hto hof hne
            have Hof := Lib.hid hof
            have Hto := Lib.hid hto
            clear hto hof
            have hxr := HQ6.out.m
            have r0 := cell_of hxr 0
            have r1 := cell_of hxr 1
            have r2 := cell_of hxr 2
            have r3 := cell_of hxr 3
            have r4 := cell_of hxr 4
            have r5 := cell_of hxr 5
            have r6 := cell_of hxr 6
            have r7 := cell_of hxr 7
            have r8 := cell_of hxr 8
            have r9 := cell_of hxr 9
            have r10 := cell_of hxr 10
            have r11 := cell_of hxr 11
            have r12 := cell_of hxr 12
            simp only [List.getElem?_toArray, List.getElem?_cons_zero, List.getElem?_cons_succ] at r0 r1 r2 r3 r4 r5 r6 r7 r8 r9 r10 r11 r12
            have hlr := (Array.getElem?_eq_some_iff.1 hxr).1
            have xr0 : ∀ u0 : Wd S, u0.w.cell? ⟨h5, 0, none⟩ = some (.int .i64 13) := fun u0 => ((Hto.out u0).cell (p := ⟨h5, 0, none⟩) hlr).trans r0
            clear hxr hlr r0 r1 r2 r3 r4 r5 r6 r7 r8 r9 r10 r11 r12
            have hxe := HQ6.out.a
            have e0 := cell_of hxe 0
            have e1 := cell_of hxe 1
            have e2 := cell_of hxe 2
            have e3 := cell_of hxe 3
            have e4 := cell_of hxe 4
            have e5 := cell_of hxe 5
            have e6 := cell_of hxe 6
            have e7 := cell_of hxe 7
            have e8 := cell_of hxe 8
            have e9 := cell_of hxe 9
            have e10 := cell_of hxe 10
            have e11 := cell_of hxe 11
            have e12 := cell_of hxe 12
            simp only [List.getElem?_toArray, List.getElem?_cons_zero, List.getElem?_cons_succ] at e0 e1 e2 e3 e4 e5 e6 e7 e8 e9 e10 e11 e12
            have hle := (Array.getElem?_eq_some_iff.1 hxe).1
            have xe0 : ∀ u0 : Wd S, u0.w.cell? ⟨g11, 0, none⟩ = some (.int .i64 13) := fun u0 => ((Hto.out u0).cell (p := ⟨g11, 0, none⟩) hle).trans e0
            have xe1 : ∀ u0 : Wd S, u0.w.cell? ⟨g11, 1, none⟩ = some (.int .i64 C) := fun u0 => ((Hto.out u0).cell (p := ⟨g11, 1, none⟩) hle).trans e1
            have xe2 : ∀ u0 : Wd S, u0.w.cell? ⟨g11, 2, none⟩ = some (.int .i64 N) := fun u0 => ((Hto.out u0).cell (p := ⟨g11, 2, none⟩) hle).trans e2
            have xe3 : ∀ u0 : Wd S, u0.w.cell? ⟨g11, 3, none⟩ = some (.int .i64 t) := fun u0 => ((Hto.out u0).cell (p := ⟨g11, 3, none⟩) hle).trans e3
            have xe4 : ∀ u0 : Wd S, u0.w.cell? ⟨g11, 4, none⟩ = some (.int .i64 o) := fun u0 => ((Hto.out u0).cell (p := ⟨g11, 4, none⟩) hle).trans e4
            have xe5 : ∀ u0 : Wd S, u0.w.cell? ⟨g11, 5, none⟩ = some (.int .i64 ep) := fun u0 => ((Hto.out u0).cell (p := ⟨g11, 5, none⟩) hle).trans e5
            have xe6 : ∀ u0 : Wd S, u0.w.cell? ⟨g11, 6, none⟩ = some (.int .i64 wd) := fun u0 => ((Hto.out u0).cell (p := ⟨g11, 6, none⟩) hle).trans e6
            have xe7 : ∀ u0 : Wd S, u0.w.cell? ⟨g11, 7, none⟩ = some (.int .u32 va) := fun u0 => ((Hto.out u0).cell (p := ⟨g11, 7, none⟩) hle).trans e7
            have xe8 : ∀ u0 : Wd S, u0.w.cell? ⟨g11, 8, none⟩ = some (.int .u32 x) := fun u0 => ((Hto.out u0).cell (p := ⟨g11, 8, none⟩) hle).trans e8
            have xe9 : ∀ u0 : Wd S, u0.w.cell? ⟨g11, 9, none⟩ = some (.int .u32 y) := fun u0 => ((Hto.out u0).cell (p := ⟨g11, 9, none⟩) hle).trans e9
            have xe10 : ∀ u0 : Wd S, u0.w.cell? ⟨g11, 10, none⟩ = some (.int .u32 z) := fun u0 => ((Hto.out u0).cell (p := ⟨g11, 10, none⟩) hle).trans e10
            have xe11 : ∀ u0 : Wd S, u0.w.cell? ⟨g11, 11, none⟩ = some (.int .u32 q) := fun u0 => ((Hto.out u0).cell (p := ⟨g11, 11, none⟩) hle).trans e11
            have xe12 : ∀ u0 : Wd S, u0.w.cell? ⟨g11, 12, none⟩ = some (.bool b) := fun u0 => ((Hto.out u0).cell (p := ⟨g11, 12, none⟩) hle).trans e12
            clear hxe hle e0 e1 e2 e3 e4 e5 e6 e7 e8 e9 e10 e11 e12
            refine lexW_light 1 (by kernel_rfl) ?_
            simp only [List.take_succ_cons, List.take_zero, List.drop_succ_cons, List.drop_zero]
            repeat (first | go_big_quiet_skip | (go_big_quiet_want; go_big_quiet_op; go_big_quiet_on))
            refine wpQuiet_nil ?_
            clear xe0 xe1 xe2 xe3 xe4 xe5 xe6 xe7 xe8 xe9 xe10 xe11 xe12
            refine lexW_heavy (by kernel_rfl) ?_
            go_wp2_with fail
            refine (mright_c ⟨13, C, N, t, o, ep, wd, va, x, y, z, q, b⟩ w6.drew).mono ?_
            rintro ev y1 ⟨rfl, hby⟩
            rw [HRA.out, show mgW (13 : Int) = false from rfl]
            have HY1 := Lib.hid ((Below.refl w6.heap.size w6).drew.trans hby)
            clear hby
            go_wp2_with fail
            refine lexQ_more (Hof.out _ HY1.out) ?_
            have hxf := HQ6.out.b
            have f0 := cell_of hxf 0
            have f1 := cell_of hxf 1
            have f2 := cell_of hxf 2
            have f3 := cell_of hxf 3
            have f4 := cell_of hxf 4
            have f5 := cell_of hxf 5
            have f6 := cell_of hxf 6
            have f7 := cell_of hxf 7
            have f8 := cell_of hxf 8
            have f9 := cell_of hxf 9
            have f10 := cell_of hxf 10
            have f11 := cell_of hxf 11
            have f12 := cell_of hxf 12
            simp only [List.getElem?_toArray, List.getElem?_cons_zero, List.getElem?_cons_succ] at f0 f1 f2 f3 f4 f5 f6 f7 f8 f9 f10 f11 f12
            have hlf := (Array.getElem?_eq_some_iff.1 hxf).1
            have xf0 : ∀ u0 : Wd S, u0.w.cell? ⟨g12, 0, none⟩ = some (.int .i64 13) := fun u0 => ((Hto.out u0).cell (p := ⟨g12, 0, none⟩) hlf).trans f0
            have xf1 : ∀ u0 : Wd S, u0.w.cell? ⟨g12, 1, none⟩ = some (.int .i64 C) := fun u0 => ((Hto.out u0).cell (p := ⟨g12, 1, none⟩) hlf).trans f1
            have xf2 : ∀ u0 : Wd S, u0.w.cell? ⟨g12, 2, none⟩ = some (.int .i64 N) := fun u0 => ((Hto.out u0).cell (p := ⟨g12, 2, none⟩) hlf).trans f2
            have xf3 : ∀ u0 : Wd S, u0.w.cell? ⟨g12, 3, none⟩ = some (.int .i64 t) := fun u0 => ((Hto.out u0).cell (p := ⟨g12, 3, none⟩) hlf).trans f3
            have xf4 : ∀ u0 : Wd S, u0.w.cell? ⟨g12, 4, none⟩ = some (.int .i64 vb) := fun u0 => ((Hto.out u0).cell (p := ⟨g12, 4, none⟩) hlf).trans f4
            have xf5 : ∀ u0 : Wd S, u0.w.cell? ⟨g12, 5, none⟩ = some (.int .i64 ep) := fun u0 => ((Hto.out u0).cell (p := ⟨g12, 5, none⟩) hlf).trans f5
            have xf6 : ∀ u0 : Wd S, u0.w.cell? ⟨g12, 6, none⟩ = some (.int .i64 wd) := fun u0 => ((Hto.out u0).cell (p := ⟨g12, 6, none⟩) hlf).trans f6
            have xf7 : ∀ u0 : Wd S, u0.w.cell? ⟨g12, 7, none⟩ = some (.int .u32 v) := fun u0 => ((Hto.out u0).cell (p := ⟨g12, 7, none⟩) hlf).trans f7
            have xf8 : ∀ u0 : Wd S, u0.w.cell? ⟨g12, 8, none⟩ = some (.int .u32 x) := fun u0 => ((Hto.out u0).cell (p := ⟨g12, 8, none⟩) hlf).trans f8
            have xf9 : ∀ u0 : Wd S, u0.w.cell? ⟨g12, 9, none⟩ = some (.int .u32 y) := fun u0 => ((Hto.out u0).cell (p := ⟨g12, 9, none⟩) hlf).trans f9
            have xf10 : ∀ u0 : Wd S, u0.w.cell? ⟨g12, 10, none⟩ = some (.int .u32 z) := fun u0 => ((Hto.out u0).cell (p := ⟨g12, 10, none⟩) hlf).trans f10
            have xf11 : ∀ u0 : Wd S, u0.w.cell? ⟨g12, 11, none⟩ = some (.int .u32 q) := fun u0 => ((Hto.out u0).cell (p := ⟨g12, 11, none⟩) hlf).trans f11
            have xf12 : ∀ u0 : Wd S, u0.w.cell? ⟨g12, 12, none⟩ = some (.bool b) := fun u0 => ((Hto.out u0).cell (p := ⟨g12, 12, none⟩) hlf).trans f12
            clear hxf hlf f0 f1 f2 f3 f4 f5 f6 f7 f8 f9 f10 f11 f12
            refine lexW_light 4 (by kernel_rfl) ?_
            simp only [List.take_succ_cons, List.take_zero, List.drop_succ_cons, List.drop_zero]
            repeat (first | go_big_quiet_skip | (go_big_quiet_want; go_big_quiet_op; go_big_quiet_on))
            refine wpQuiet_nil ?_
            clear xf0 xf1 xf2 xf3 xf4 xf5 xf6 xf7 xf8 xf9 xf10 xf11 xf12
            refine lexW_heavy (by kernel_rfl) ?_
            go_wp2_with fail
            refine (mright_c ⟨13, C, N, t, vb, ep, wd, v, x, y, z, q, b⟩ y1).mono ?_
            rintro ev y2 ⟨rfl, hby⟩
            rw [HRB.out, show mgM (13 : Int) = true from rfl]
            have HY2 := Lib.hid (HY1.out.trans (hby.mono HY1.out.size))
            clear hby
            go_wp2_with fail
            refine lexQ_more (Hof.out _ HY2.out) ?_
            have hxj := HQ6.out.c
            have j0 := cell_of hxj 0
            have j1 := cell_of hxj 1
            have j2 := cell_of hxj 2
            have j3 := cell_of hxj 3
            have j4 := cell_of hxj 4
            have j5 := cell_of hxj 5
            have j6 := cell_of hxj 6
            have j7 := cell_of hxj 7
            have j8 := cell_of hxj 8
            have j9 := cell_of hxj 9
            have j10 := cell_of hxj 10
            have j11 := cell_of hxj 11
            have j12 := cell_of hxj 12
            simp only [List.getElem?_toArray, List.getElem?_cons_zero, List.getElem?_cons_succ] at j0 j1 j2 j3 j4 j5 j6 j7 j8 j9 j10 j11 j12
            have hlj := (Array.getElem?_eq_some_iff.1 hxj).1
            have xj0 : ∀ u0 : Wd S, u0.w.cell? ⟨g13, 0, none⟩ = some (.int .i64 13) := fun u0 => ((Hto.out u0).cell (p := ⟨g13, 0, none⟩) hlj).trans j0
            have xj1 : ∀ u0 : Wd S, u0.w.cell? ⟨g13, 1, none⟩ = some (.int .i64 C) := fun u0 => ((Hto.out u0).cell (p := ⟨g13, 1, none⟩) hlj).trans j1
            have xj2 : ∀ u0 : Wd S, u0.w.cell? ⟨g13, 2, none⟩ = some (.int .i64 N) := fun u0 => ((Hto.out u0).cell (p := ⟨g13, 2, none⟩) hlj).trans j2
            have xj3 : ∀ u0 : Wd S, u0.w.cell? ⟨g13, 3, none⟩ = some (.int .i64 t) := fun u0 => ((Hto.out u0).cell (p := ⟨g13, 3, none⟩) hlj).trans j3
            have xj4 : ∀ u0 : Wd S, u0.w.cell? ⟨g13, 4, none⟩ = some (.int .i64 o) := fun u0 => ((Hto.out u0).cell (p := ⟨g13, 4, none⟩) hlj).trans j4
            have xj5 : ∀ u0 : Wd S, u0.w.cell? ⟨g13, 5, none⟩ = some (.int .i64 vc) := fun u0 => ((Hto.out u0).cell (p := ⟨g13, 5, none⟩) hlj).trans j5
            have xj6 : ∀ u0 : Wd S, u0.w.cell? ⟨g13, 6, none⟩ = some (.int .i64 wd) := fun u0 => ((Hto.out u0).cell (p := ⟨g13, 6, none⟩) hlj).trans j6
            have xj7 : ∀ u0 : Wd S, u0.w.cell? ⟨g13, 7, none⟩ = some (.int .u32 v) := fun u0 => ((Hto.out u0).cell (p := ⟨g13, 7, none⟩) hlj).trans j7
            have xj8 : ∀ u0 : Wd S, u0.w.cell? ⟨g13, 8, none⟩ = some (.int .u32 x) := fun u0 => ((Hto.out u0).cell (p := ⟨g13, 8, none⟩) hlj).trans j8
            have xj9 : ∀ u0 : Wd S, u0.w.cell? ⟨g13, 9, none⟩ = some (.int .u32 y) := fun u0 => ((Hto.out u0).cell (p := ⟨g13, 9, none⟩) hlj).trans j9
            have xj10 : ∀ u0 : Wd S, u0.w.cell? ⟨g13, 10, none⟩ = some (.int .u32 z) := fun u0 => ((Hto.out u0).cell (p := ⟨g13, 10, none⟩) hlj).trans j10
            have xj11 : ∀ u0 : Wd S, u0.w.cell? ⟨g13, 11, none⟩ = some (.int .u32 q) := fun u0 => ((Hto.out u0).cell (p := ⟨g13, 11, none⟩) hlj).trans j11
            have xj12 : ∀ u0 : Wd S, u0.w.cell? ⟨g13, 12, none⟩ = some (.bool b) := fun u0 => ((Hto.out u0).cell (p := ⟨g13, 12, none⟩) hlj).trans j12
            clear hxj hlj j0 j1 j2 j3 j4 j5 j6 j7 j8 j9 j10 j11 j12
            refine lexW_light 17 (by kernel_rfl) ?_
            simp only [List.take_succ_cons, List.take_zero, List.drop_succ_cons, List.drop_zero]
            repeat (first | go_big_quiet_skip | (go_big_quiet_want; go_big_quiet_op; go_big_quiet_on))
            refine wpQuiet_nil ?_
            clear xj0 xj1 xj2 xj3 xj4 xj5 xj6 xj7 xj8 xj9 xj10 xj11 xj12
            refine lexW_heavy (by kernel_rfl) ?_
            go_wp2_with fail
            refine (mright_c ⟨13, C, N, t, o, vc, wd, v, x, y, z, q, b⟩ y2).mono ?_
            rintro ev y3 ⟨rfl, hby⟩
            rw [HRC.out, show mgE (13 : Int) = true from rfl]
            have HY3 := Lib.hid (HY2.out.trans (hby.mono HY2.out.size))
            clear hby
            go_wp2_with fail
            refine lexQ_more (Hof.out _ HY3.out) ?_
            have hxp := HQ6.out.d
            have p0 := cell_of hxp 0
            have p1 := cell_of hxp 1
            have p2 := cell_of hxp 2
            have p3 := cell_of hxp 3
            have p4 := cell_of hxp 4
            have p5 := cell_of hxp 5
            have p6 := cell_of hxp 6
            have p7 := cell_of hxp 7
            have p8 := cell_of hxp 8
            have p9 := cell_of hxp 9
            have p10 := cell_of hxp 10
            have p11 := cell_of hxp 11
            have p12 := cell_of hxp 12
            simp only [List.getElem?_toArray, List.getElem?_cons_zero, List.getElem?_cons_succ] at p0 p1 p2 p3 p4 p5 p6 p7 p8 p9 p10 p11 p12
            have hlp := (Array.getElem?_eq_some_iff.1 hxp).1
            have xp0 : ∀ u0 : Wd S, u0.w.cell? ⟨g14, 0, none⟩ = some (.int .i64 13) := fun u0 => ((Hto.out u0).cell (p := ⟨g14, 0, none⟩) hlp).trans p0
            have xp1 : ∀ u0 : Wd S, u0.w.cell? ⟨g14, 1, none⟩ = some (.int .i64 C) := fun u0 => ((Hto.out u0).cell (p := ⟨g14, 1, none⟩) hlp).trans p1
            have xp2 : ∀ u0 : Wd S, u0.w.cell? ⟨g14, 2, none⟩ = some (.int .i64 N) := fun u0 => ((Hto.out u0).cell (p := ⟨g14, 2, none⟩) hlp).trans p2
            have xp3 : ∀ u0 : Wd S, u0.w.cell? ⟨g14, 3, none⟩ = some (.int .i64 t) := fun u0 => ((Hto.out u0).cell (p := ⟨g14, 3, none⟩) hlp).trans p3
            have xp4 : ∀ u0 : Wd S, u0.w.cell? ⟨g14, 4, none⟩ = some (.int .i64 o) := fun u0 => ((Hto.out u0).cell (p := ⟨g14, 4, none⟩) hlp).trans p4
            have xp5 : ∀ u0 : Wd S, u0.w.cell? ⟨g14, 5, none⟩ = some (.int .i64 ep) := fun u0 => ((Hto.out u0).cell (p := ⟨g14, 5, none⟩) hlp).trans p5
            have xp6 : ∀ u0 : Wd S, u0.w.cell? ⟨g14, 6, none⟩ = some (.int .i64 wd) := fun u0 => ((Hto.out u0).cell (p := ⟨g14, 6, none⟩) hlp).trans p6
            have xp7 : ∀ u0 : Wd S, u0.w.cell? ⟨g14, 7, none⟩ = some (.int .u32 v) := fun u0 => ((Hto.out u0).cell (p := ⟨g14, 7, none⟩) hlp).trans p7
            have xp8 : ∀ u0 : Wd S, u0.w.cell? ⟨g14, 8, none⟩ = some (.int .u32 0) := fun u0 => ((Hto.out u0).cell (p := ⟨g14, 8, none⟩) hlp).trans p8
            have xp9 : ∀ u0 : Wd S, u0.w.cell? ⟨g14, 9, none⟩ = some (.int .u32 0) := fun u0 => ((Hto.out u0).cell (p := ⟨g14, 9, none⟩) hlp).trans p9
            have xp10 : ∀ u0 : Wd S, u0.w.cell? ⟨g14, 10, none⟩ = some (.int .u32 0) := fun u0 => ((Hto.out u0).cell (p := ⟨g14, 10, none⟩) hlp).trans p10
            have xp11 : ∀ u0 : Wd S, u0.w.cell? ⟨g14, 11, none⟩ = some (.int .u32 0) := fun u0 => ((Hto.out u0).cell (p := ⟨g14, 11, none⟩) hlp).trans p11
            have xp12 : ∀ u0 : Wd S, u0.w.cell? ⟨g14, 12, none⟩ = some (.bool vh) := fun u0 => ((Hto.out u0).cell (p := ⟨g14, 12, none⟩) hlp).trans p12
            clear hxp hlp p0 p1 p2 p3 p4 p5 p6 p7 p8 p9 p10 p11 p12
            refine lexW_light 12 (by kernel_rfl) ?_
            simp only [List.take_succ_cons, List.take_zero, List.drop_succ_cons, List.drop_zero]
            repeat (first | go_big_quiet_skip | (go_big_quiet_want; go_big_quiet_op; go_big_quiet_on))
            refine wpQuiet_nil ?_
            clear xp0 xp1 xp2 xp3 xp4 xp5 xp6 xp7 xp8 xp9 xp10 xp11 xp12
            refine lexW_heavy (by kernel_rfl) ?_
            go_wp2_with fail
            refine (mright_c ⟨13, C, N, t, o, ep, wd, v, 0, 0, 0, 0, vh⟩ y3).mono ?_
            rintro ev y4 ⟨rfl, hby⟩
            rw [HRD.out, show mgS (13 : Int) = true from rfl]
            have HY4 := Lib.hid (HY3.out.trans (hby.mono HY3.out.size))
            clear hby
            go_wp2_with fail
            refine lexQ_more (Hof.out _ HY4.out) ?_
            refine lexW_light 11 (by kernel_rfl) ?_
            simp only [List.take_succ_cons, List.take_zero, List.drop_succ_cons, List.drop_zero]
            repeat (first | go_big_quiet_skip | (go_big_quiet_want; go_big_quiet_op; go_big_quiet_on))
            refine wpQuiet_nil ?_
            refine lexW_heavy (by kernel_rfl) ?_
            go_wp2_with fail
            refine (msgRuns A y4 (HSE.out.below (HB1.out.trans ((HQ6.out.below.trans (HY4.out.mono HQ6.out.below.size)).mono HB1.out.size)))).mono ?_
            rintro ev y5 ⟨rfl, hby⟩
            have HY5 := Lib.hid (HY4.out.trans (hby.mono HY4.out.size))
            clear hby
            go_wp2_with fail
            refine lexQ_more (Hof.out _ HY5.out) ?_
            refine lexW_light 2 (by kernel_rfl) ?_
            simp only [List.take_succ_cons, List.take_zero, List.drop_succ_cons, List.drop_zero]
            repeat (first | go_big_quiet_skip | (go_big_quiet_want; go_big_quiet_op; go_big_quiet_on))
            refine wpQuiet_nil ?_
            refine lexW_done ?_
            clear xr0 Hto
            go_wp2_with fail
            go_ret
            exact ⟨rfl, HB1.out.trans ((HQ6.out.below.trans (HY5.out.mono HQ6.out.below.size)).mono HB1.out.size)⟩
        have kg13 : (K == 13) = false := by simpa using kh13
        by_cases kh11 : K = 11
        · subst kh11
          as_aux_lemma =>
            have hxk := HQ6.out.m
            have k0 := cell_of hxk 0
            have k1 := cell_of hxk 1
            have k2 := cell_of hxk 2
            have k3 := cell_of hxk 3
            have k4 := cell_of hxk 4
            have k5 := cell_of hxk 5
            have k6 := cell_of hxk 6
            have k7 := cell_of hxk 7
            have k8 := cell_of hxk 8
            have k9 := cell_of hxk 9
            have k10 := cell_of hxk 10
            have k11 := cell_of hxk 11
            have k12 := cell_of hxk 12
            simp only [List.getElem?_toArray, List.getElem?_cons_zero, List.getElem?_cons_succ] at k0 k1 k2 k3 k4 k5 k6 k7 k8 k9 k10 k11 k12
            have hlk := (Array.getElem?_eq_some_iff.1 hxk).1
            go_upto_region 12 with fail
            clear hxk hlk k0 k1 k2 k3 k4 k5 k6 k7 k8 k9 k10 k11 k12
            refine wp_region_lexA ⟨[], []⟩ (fun x => Below w6.heap.size w6 x) (by kernel_rfl) (by kernel_rfl) (Below.refl _ _).drew ?_
            intro S hto hof hne
            have Hof := Lib.hid hof
            have Hto := Lib.hid hto
            clear hto hof
            have hxr := HQ6.out.m
            have r0 := cell_of hxr 0
            have r1 := cell_of hxr 1
            have r2 := cell_of hxr 2
            have r3 := cell_of hxr 3
            have r4 := cell_of hxr 4
            have r5 := cell_of hxr 5
            have r6 := cell_of hxr 6
            have r7 := cell_of hxr 7
            have r8 := cell_of hxr 8
            have r9 := cell_of hxr 9
            have r10 := cell_of hxr 10
            have r11 := cell_of hxr 11
            have r12 := cell_of hxr 12
            simp only [List.getElem?_toArray, List.getElem?_cons_zero, List.getElem?_cons_succ] at r0 r1 r2 r3 r4 r5 r6 r7 r8 r9 r10 r11 r12
            have hlr := (Array.getElem?_eq_some_iff.1 hxr).1
            have xr0 : ∀ u0 : Wd S, u0.w.cell? ⟨h5, 0, none⟩ = some (.int .i64 11) := fun u0 => ((Hto.out u0).cell (p := ⟨h5, 0, none⟩) hlr).trans r0
            clear hxr hlr r0 r1 r2 r3 r4 r5 r6 r7 r8 r9 r10 r11 r12
            have hxe := HQ6.out.a
            have e0 := cell_of hxe 0
            have e1 := cell_of hxe 1
            have e2 := cell_of hxe 2
            have e3 := cell_of hxe 3
            have e4 := cell_of hxe 4
            have e5 := cell_of hxe 5
            have e6 := cell_of hxe 6
            have e7 := cell_of hxe 7
            have e8 := cell_of hxe 8
            have e9 := cell_of hxe 9
            have e10 := cell_of hxe 10
            have e11 := cell_of hxe 11
            have e12 := cell_of hxe 12
            simp only [List.getElem?_toArray, List.getElem?_cons_zero, List.getElem?_cons_succ] at e0 e1 e2 e3 e4 e5 e6 e7 e8 e9 e10 e11 e12
            have hle := (Array.getElem?_eq_some_iff.1 hxe).1
            have xe0 : ∀ u0 : Wd S, u0.w.cell? ⟨g11, 0, none⟩ = some (.int .i64 11) := fun u0 => ((Hto.out u0).cell (p := ⟨g11, 0, none⟩) hle).trans e0
            have xe1 : ∀ u0 : Wd S, u0.w.cell? ⟨g11, 1, none⟩ = some (.int .i64 C) := fun u0 => ((Hto.out u0).cell (p := ⟨g11, 1, none⟩) hle).trans e1
            have xe2 : ∀ u0 : Wd S, u0.w.cell? ⟨g11, 2, none⟩ = some (.int .i64 N) := fun u0 => ((Hto.out u0).cell (p := ⟨g11, 2, none⟩) hle).trans e2
            have xe3 : ∀ u0 : Wd S, u0.w.cell? ⟨g11, 3, none⟩ = some (.int .i64 t) := fun u0 => ((Hto.out u0).cell (p := ⟨g11, 3, none⟩) hle).trans e3
            have xe4 : ∀ u0 : Wd S, u0.w.cell? ⟨g11, 4, none⟩ = some (.int .i64 o) := fun u0 => ((Hto.out u0).cell (p := ⟨g11, 4, none⟩) hle).trans e4
            have xe5 : ∀ u0 : Wd S, u0.w.cell? ⟨g11, 5, none⟩ = some (.int .i64 ep) := fun u0 => ((Hto.out u0).cell (p := ⟨g11, 5, none⟩) hle).trans e5
            have xe6 : ∀ u0 : Wd S, u0.w.cell? ⟨g11, 6, none⟩ = some (.int .i64 wd) := fun u0 => ((Hto.out u0).cell (p := ⟨g11, 6, none⟩) hle).trans e6
            have xe7 : ∀ u0 : Wd S, u0.w.cell? ⟨g11, 7, none⟩ = some (.int .u32 va) := fun u0 => ((Hto.out u0).cell (p := ⟨g11, 7, none⟩) hle).trans e7
            have xe8 : ∀ u0 : Wd S, u0.w.cell? ⟨g11, 8, none⟩ = some (.int .u32 x) := fun u0 => ((Hto.out u0).cell (p := ⟨g11, 8, none⟩) hle).trans e8
            have xe9 : ∀ u0 : Wd S, u0.w.cell? ⟨g11, 9, none⟩ = some (.int .u32 y) := fun u0 => ((Hto.out u0).cell (p := ⟨g11, 9, none⟩) hle).trans e9
            have xe10 : ∀ u0 : Wd S, u0.w.cell? ⟨g11, 10, none⟩ = some (.int .u32 z) := fun u0 => ((Hto.out u0).cell (p := ⟨g11, 10, none⟩) hle).trans e10
            have xe11 : ∀ u0 : Wd S, u0.w.cell? ⟨g11, 11, none⟩ = some (.int .u32 q) := fun u0 => ((Hto.out u0).cell (p := ⟨g11, 11, none⟩) hle).trans e11
            have xe12 : ∀ u0 : Wd S, u0.w.cell? ⟨g11, 12, none⟩ = some (.bool b) := fun u0 => ((Hto.out u0).cell (p := ⟨g11, 12, none⟩) hle).trans e12
            clear hxe hle e0 e1 e2 e3 e4 e5 e6 e7 e8 e9 e10 e11 e12
            refine lexW_light 1 (by kernel_rfl) ?_
            simp only [List.take_succ_cons, List.take_zero, List.drop_succ_cons, List.drop_zero]
            repeat (first | go_big_quiet_skip | (go_big_quiet_want; go_big_quiet_op; go_big_quiet_on))
            refine wpQuiet_nil ?_
            clear xe0 xe1 xe2 xe3 xe4 xe5 xe6 xe7 xe8 xe9 xe10 xe11 xe12
            refine lexW_heavy (by kernel_rfl) ?_
            go_wp2_with fail
            refine (mright_c ⟨11, C, N, t, o, ep, wd, va, x, y, z, q, b⟩ w6.drew).mono ?_
            rintro ev y1 ⟨rfl, hby⟩
            rw [HRA.out, show mgW (11 : Int) = false from rfl]
            have HY1 := Lib.hid ((Below.refl w6.heap.size w6).drew.trans hby)
            clear hby
            go_wp2_with fail
            refine lexQ_more (Hof.out _ HY1.out) ?_
            have hxf := HQ6.out.b
            have f0 := cell_of hxf 0
            have f1 := cell_of hxf 1
            have f2 := cell_of hxf 2
            have f3 := cell_of hxf 3
            have f4 := cell_of hxf 4
            have f5 := cell_of hxf 5
            have f6 := cell_of hxf 6
            have f7 := cell_of hxf 7
            have f8 := cell_of hxf 8
            have f9 := cell_of hxf 9
            have f10 := cell_of hxf 10
            have f11 := cell_of hxf 11
            have f12 := cell_of hxf 12
            simp only [List.getElem?_toArray, List.getElem?_cons_zero, List.getElem?_cons_succ] at f0 f1 f2 f3 f4 f5 f6 f7 f8 f9 f10 f11 f12
            have hlf := (Array.getElem?_eq_some_iff.1 hxf).1
            have xf0 : ∀ u0 : Wd S, u0.w.cell? ⟨g12, 0, none⟩ = some (.int .i64 11) := fun u0 => ((Hto.out u0).cell (p := ⟨g12, 0, none⟩) hlf).trans f0
            have xf1 : ∀ u0 : Wd S, u0.w.cell? ⟨g12, 1, none⟩ = some (.int .i64 C) := fun u0 => ((Hto.out u0).cell (p := ⟨g12, 1, none⟩) hlf).trans f1
            have xf2 : ∀ u0 : Wd S, u0.w.cell? ⟨g12, 2, none⟩ = some (.int .i64 N) := fun u0 => ((Hto.out u0).cell (p := ⟨g12, 2, none⟩) hlf).trans f2
            have xf3 : ∀ u0 : Wd S, u0.w.cell? ⟨g12, 3, none⟩ = some (.int .i64 t) := fun u0 => ((Hto.out u0).cell (p := ⟨g12, 3, none⟩) hlf).trans f3
            have xf4 : ∀ u0 : Wd S, u0.w.cell? ⟨g12, 4, none⟩ = some (.int .i64 vb) := fun u0 => ((Hto.out u0).cell (p := ⟨g12, 4, none⟩) hlf).trans f4
            have xf5 : ∀ u0 : Wd S, u0.w.cell? ⟨g12, 5, none⟩ = some (.int .i64 ep) := fun u0 => ((Hto.out u0).cell (p := ⟨g12, 5, none⟩) hlf).trans f5
            have xf6 : ∀ u0 : Wd S, u0.w.cell? ⟨g12, 6, none⟩ = some (.int .i64 wd) := fun u0 => ((Hto.out u0).cell (p := ⟨g12, 6, none⟩) hlf).trans f6
            have xf7 : ∀ u0 : Wd S, u0.w.cell? ⟨g12, 7, none⟩ = some (.int .u32 v) := fun u0 => ((Hto.out u0).cell (p := ⟨g12, 7, none⟩) hlf).trans f7
            have xf8 : ∀ u0 : Wd S, u0.w.cell? ⟨g12, 8, none⟩ = some (.int .u32 x) := fun u0 => ((Hto.out u0).cell (p := ⟨g12, 8, none⟩) hlf).trans f8
            have xf9 : ∀ u0 : Wd S, u0.w.cell? ⟨g12, 9, none⟩ = some (.int .u32 y) := fun u0 => ((Hto.out u0).cell (p := ⟨g12, 9, none⟩) hlf).trans f9
            have xf10 : ∀ u0 : Wd S, u0.w.cell? ⟨g12, 10, none⟩ = some (.int .u32 z) := fun u0 => ((Hto.out u0).cell (p := ⟨g12, 10, none⟩) hlf).trans f10
            have xf11 : ∀ u0 : Wd S, u0.w.cell? ⟨g12, 11, none⟩ = some (.int .u32 q) := fun u0 => ((Hto.out u0).cell (p := ⟨g12, 11, none⟩) hlf).trans f11
            have xf12 : ∀ u0 : Wd S, u0.w.cell? ⟨g12, 12, none⟩ = some (.bool b) := fun u0 => ((Hto.out u0).cell (p := ⟨g12, 12, none⟩) hlf).trans f12
            clear hxf hlf f0 f1 f2 f3 f4 f5 f6 f7 f8 f9 f10 f11 f12
            refine lexW_light 4 (by kernel_rfl) ?_
            simp only [List.take_succ_cons, List.take_zero, List.drop_succ_cons, List.drop_zero]
            repeat (first | go_big_quiet_skip | (go_big_quiet_want; go_big_quiet_op; go_big_quiet_on))
            refine wpQuiet_nil ?_
            clear xf0 xf1 xf2 xf3 xf4 xf5 xf6 xf7 xf8 xf9 xf10 xf11 xf12
            refine lexW_heavy (by kernel_rfl) ?_
            go_wp2_with fail
            refine (mright_c ⟨11, C, N, t, vb, ep, wd, v, x, y, z, q, b⟩ y1).mono ?_
            rintro ev y2 ⟨rfl, hby⟩
            rw [HRB.out, show mgM (11 : Int) = false from rfl]
            have HY2 := Lib.hid (HY1.out.trans (hby.mono HY1.out.size))
            clear hby
            go_wp2_with fail
            refine lexQ_more (Hof.out _ HY2.out) ?_
            have hxj := HQ6.out.c
            have j0 := cell_of hxj 0
            have j1 := cell_of hxj 1
            have j2 := cell_of hxj 2
            have j3 := cell_of hxj 3
            have j4 := cell_of hxj 4
            have j5 := cell_of hxj 5
            have j6 := cell_of hxj 6
            have j7 := cell_of hxj 7
            have j8 := cell_of hxj 8
            have j9 := cell_of hxj 9
            have j10 := cell_of hxj 10
            have j11 := cell_of hxj 11
            have j12 := cell_of hxj 12
            simp only [List.getElem?_toArray, List.getElem?_cons_zero, List.getElem?_cons_succ] at j0 j1 j2 j3 j4 j5 j6 j7 j8 j9 j10 j11 j12
            have hlj := (Array.getElem?_eq_some_iff.1 hxj).1
            have xj0 : ∀ u0 : Wd S, u0.w.cell? ⟨g13, 0, none⟩ = some (.int .i64 11) := fun u0 => ((Hto.out u0).cell (p := ⟨g13, 0, none⟩) hlj).trans j0
            have xj1 : ∀ u0 : Wd S, u0.w.cell? ⟨g13, 1, none⟩ = some (.int .i64 C) := fun u0 => ((Hto.out u0).cell (p := ⟨g13, 1, none⟩) hlj).trans j1
            have xj2 : ∀ u0 : Wd S, u0.w.cell? ⟨g13, 2, none⟩ = some (.int .i64 N) := fun u0 => ((Hto.out u0).cell (p := ⟨g13, 2, none⟩) hlj).trans j2
            have xj3 : ∀ u0 : Wd S, u0.w.cell? ⟨g13, 3, none⟩ = some (.int .i64 t) := fun u0 => ((Hto.out u0).cell (p := ⟨g13, 3, none⟩) hlj).trans j3
            have xj4 : ∀ u0 : Wd S, u0.w.cell? ⟨g13, 4, none⟩ = some (.int .i64 o) := fun u0 => ((Hto.out u0).cell (p := ⟨g13, 4, none⟩) hlj).trans j4
            have xj5 : ∀ u0 : Wd S, u0.w.cell? ⟨g13, 5, none⟩ = some (.int .i64 vc) := fun u0 => ((Hto.out u0).cell (p := ⟨g13, 5, none⟩) hlj).trans j5
            have xj6 : ∀ u0 : Wd S, u0.w.cell? ⟨g13, 6, none⟩ = some (.int .i64 wd) := fun u0 => ((Hto.out u0).cell (p := ⟨g13, 6, none⟩) hlj).trans j6
            have xj7 : ∀ u0 : Wd S, u0.w.cell? ⟨g13, 7, none⟩ = some (.int .u32 v) := fun u0 => ((Hto.out u0).cell (p := ⟨g13, 7, none⟩) hlj).trans j7
            have xj8 : ∀ u0 : Wd S, u0.w.cell? ⟨g13, 8, none⟩ = some (.int .u32 x) := fun u0 => ((Hto.out u0).cell (p := ⟨g13, 8, none⟩) hlj).trans j8
            have xj9 : ∀ u0 : Wd S, u0.w.cell? ⟨g13, 9, none⟩ = some (.int .u32 y) := fun u0 => ((Hto.out u0).cell (p := ⟨g13, 9, none⟩) hlj).trans j9
            have xj10 : ∀ u0 : Wd S, u0.w.cell? ⟨g13, 10, none⟩ = some (.int .u32 z) := fun u0 => ((Hto.out u0).cell (p := ⟨g13, 10, none⟩) hlj).trans j10
            have xj11 : ∀ u0 : Wd S, u0.w.cell? ⟨g13, 11, none⟩ = some (.int .u32 q) := fun u0 => ((Hto.out u0).cell (p := ⟨g13, 11, none⟩) hlj).trans j11
            have xj12 : ∀ u0 : Wd S, u0.w.cell? ⟨g13, 12, none⟩ = some (.bool b) := fun u0 => ((Hto.out u0).cell (p := ⟨g13, 12, none⟩) hlj).trans j12
            clear hxj hlj j0 j1 j2 j3 j4 j5 j6 j7 j8 j9 j10 j11 j12
            refine lexW_light 17 (by kernel_rfl) ?_
            simp only [List.take_succ_cons, List.take_zero, List.drop_succ_cons, List.drop_zero]
            repeat (first | go_big_quiet_skip | (go_big_quiet_want; go_big_quiet_op; go_big_quiet_on))
            refine wpQuiet_nil ?_
            clear xj0 xj1 xj2 xj3 xj4 xj5 xj6 xj7 xj8 xj9 xj10 xj11 xj12
            refine lexW_heavy (by kernel_rfl) ?_
            go_wp2_with fail
            refine (mright_c ⟨11, C, N, t, o, vc, wd, v, x, y, z, q, b⟩ y2).mono ?_
            rintro ev y3 ⟨rfl, hby⟩
            rw [HRC.out, show mgE (11 : Int) = false from rfl]
            have HY3 := Lib.hid (HY2.out.trans (hby.mono HY2.out.size))
            clear hby
            go_wp2_with fail
            refine lexQ_more (Hof.out _ HY3.out) ?_
            have hxp := HQ6.out.d
            have p0 := cell_of hxp 0
            have p1 := cell_of hxp 1
            have p2 := cell_of hxp 2
            have p3 := cell_of hxp 3
            have p4 := cell_of hxp 4
            have p5 := cell_of hxp 5
            have p6 := cell_of hxp 6
            have p7 := cell_of hxp 7
            have p8 := cell_of hxp 8
            have p9 := cell_of hxp 9
            have p10 := cell_of hxp 10
            have p11 := cell_of hxp 11
            have p12 := cell_of hxp 12
            simp only [List.getElem?_toArray, List.getElem?_cons_zero, List.getElem?_cons_succ] at p0 p1 p2 p3 p4 p5 p6 p7 p8 p9 p10 p11 p12
            have hlp := (Array.getElem?_eq_some_iff.1 hxp).1
            have xp0 : ∀ u0 : Wd S, u0.w.cell? ⟨g14, 0, none⟩ = some (.int .i64 11) := fun u0 => ((Hto.out u0).cell (p := ⟨g14, 0, none⟩) hlp).trans p0
            have xp1 : ∀ u0 : Wd S, u0.w.cell? ⟨g14, 1, none⟩ = some (.int .i64 C) := fun u0 => ((Hto.out u0).cell (p := ⟨g14, 1, none⟩) hlp).trans p1
            have xp2 : ∀ u0 : Wd S, u0.w.cell? ⟨g14, 2, none⟩ = some (.int .i64 N) := fun u0 => ((Hto.out u0).cell (p := ⟨g14, 2, none⟩) hlp).trans p2
            have xp3 : ∀ u0 : Wd S, u0.w.cell? ⟨g14, 3, none⟩ = some (.int .i64 t) := fun u0 => ((Hto.out u0).cell (p := ⟨g14, 3, none⟩) hlp).trans p3
            have xp4 : ∀ u0 : Wd S, u0.w.cell? ⟨g14, 4, none⟩ = some (.int .i64 o) := fun u0 => ((Hto.out u0).cell (p := ⟨g14, 4, none⟩) hlp).trans p4
            have xp5 : ∀ u0 : Wd S, u0.w.cell? ⟨g14, 5, none⟩ = some (.int .i64 ep) := fun u0 => ((Hto.out u0).cell (p := ⟨g14, 5, none⟩) hlp).trans p5
            have xp6 : ∀ u0 : Wd S, u0.w.cell? ⟨g14, 6, none⟩ = some (.int .i64 wd) := fun u0 => ((Hto.out u0).cell (p := ⟨g14, 6, none⟩) hlp).trans p6
            have xp7 : ∀ u0 : Wd S, u0.w.cell? ⟨g14, 7, none⟩ = some (.int .u32 v) := fun u0 => ((Hto.out u0).cell (p := ⟨g14, 7, none⟩) hlp).trans p7
            have xp8 : ∀ u0 : Wd S, u0.w.cell? ⟨g14, 8, none⟩ = some (.int .u32 0) := fun u0 => ((Hto.out u0).cell (p := ⟨g14, 8, none⟩) hlp).trans p8
            have xp9 : ∀ u0 : Wd S, u0.w.cell? ⟨g14, 9, none⟩ = some (.int .u32 0) := fun u0 => ((Hto.out u0).cell (p := ⟨g14, 9, none⟩) hlp).trans p9
            have xp10 : ∀ u0 : Wd S, u0.w.cell? ⟨g14, 10, none⟩ = some (.int .u32 0) := fun u0 => ((Hto.out u0).cell (p := ⟨g14, 10, none⟩) hlp).trans p10
            have xp11 : ∀ u0 : Wd S, u0.w.cell? ⟨g14, 11, none⟩ = some (.int .u32 0) := fun u0 => ((Hto.out u0).cell (p := ⟨g14, 11, none⟩) hlp).trans p11
            have xp12 : ∀ u0 : Wd S, u0.w.cell? ⟨g14, 12, none⟩ = some (.bool vh) := fun u0 => ((Hto.out u0).cell (p := ⟨g14, 12, none⟩) hlp).trans p12
            clear hxp hlp p0 p1 p2 p3 p4 p5 p6 p7 p8 p9 p10 p11 p12
            refine lexW_light 12 (by kernel_rfl) ?_
            simp only [List.take_succ_cons, List.take_zero, List.drop_succ_cons, List.drop_zero]
            repeat (first | go_big_quiet_skip | (go_big_quiet_want; go_big_quiet_op; go_big_quiet_on))
            refine wpQuiet_nil ?_
            clear xp0 xp1 xp2 xp3 xp4 xp5 xp6 xp7 xp8 xp9 xp10 xp11 xp12
            refine lexW_heavy (by kernel_rfl) ?_
            go_wp2_with fail
            refine (mright_c ⟨11, C, N, t, o, ep, wd, v, 0, 0, 0, 0, vh⟩ y3).mono ?_
            rintro ev y4 ⟨rfl, hby⟩
            rw [HRD.out, show mgS (11 : Int) = true from rfl]
            have HY4 := Lib.hid (HY3.out.trans (hby.mono HY3.out.size))
            clear hby
            go_wp2_with fail
            refine lexQ_more (Hof.out _ HY4.out) ?_
            refine lexW_light 11 (by kernel_rfl) ?_
            simp only [List.take_succ_cons, List.take_zero, List.drop_succ_cons, List.drop_zero]
            repeat (first | go_big_quiet_skip | (go_big_quiet_want; go_big_quiet_op; go_big_quiet_on))
            refine wpQuiet_nil ?_
            refine lexW_heavy (by kernel_rfl) ?_
            go_wp2_with fail
            refine (msgRuns A y4 (HSE.out.below (HB1.out.trans ((HQ6.out.below.trans (HY4.out.mono HQ6.out.below.size)).mono HB1.out.size)))).mono ?_
            rintro ev y5 ⟨rfl, hby⟩
            have HY5 := Lib.hid (HY4.out.trans (hby.mono HY4.out.size))
            clear hby
            go_wp2_with fail
            refine lexQ_more (Hof.out _ HY5.out) ?_
            refine lexW_light 2 (by kernel_rfl) ?_
            simp only [List.take_succ_cons, List.take_zero, List.drop_succ_cons, List.drop_zero]
            repeat (first | go_big_quiet_skip | (go_big_quiet_want; go_big_quiet_op; go_big_quiet_on))
            refine wpQuiet_nil ?_
            refine lexW_done ?_
            clear xr0 Hto
            go_wp2_with fail
            go_ret
            exact ⟨rfl, HB1.out.trans ((HQ6.out.below.trans (HY5.out.mono HQ6.out.below.size)).mono HB1.out.size)⟩
        have kg11 : (K == 11) = false := by simpa using kh11
        have HCL := Lib.hid (show mgW K = false ∧ mgM K = false ∧ mgE K = false ∧ mgS K = false by
          refine ⟨?_, ?_, ?_, ?_⟩ <;> simp [mgW, mgM, mgE, mgS] <;> omega)
        clear kh3 kh8 kh14 kh9 kh5 kh13 kh11
        as_aux_lemma =>
          have hxk := HQ6.out.m
          have k0 := cell_of hxk 0
          have k1 := cell_of hxk 1
          have k2 := cell_of hxk 2
          have k3 := cell_of hxk 3
          have k4 := cell_of hxk 4
          have k5 := cell_of hxk 5
          have k6 := cell_of hxk 6
          have k7 := cell_of hxk 7
          have k8 := cell_of hxk 8
          have k9 := cell_of hxk 9
          have k10 := cell_of hxk 10
          have k11 := cell_of hxk 11
          have k12 := cell_of hxk 12
          simp only [List.getElem?_toArray, List.getElem?_cons_zero, List.getElem?_cons_succ] at k0 k1 k2 k3 k4 k5 k6 k7 k8 k9 k10 k11 k12
          have hlk := (Array.getElem?_eq_some_iff.1 hxk).1
          go_upto_region 12 with fail
          clear hxk hlk k0 k1 k2 k3 k4 k5 k6 k7 k8 k9 k10 k11 k12
          refine wp_region_lexA ⟨[], []⟩ (fun x => Below w6.heap.size w6 x) (by kernel_rfl) (by kernel_rfl) (Below.refl _ _).drew ?_
          intro S hto hof hne
          have Hof := Lib.hid hof
          have Hto := Lib.hid hto
          clear hto hof
          have hxr := HQ6.out.m
          have r0 := cell_of hxr 0
          have r1 := cell_of hxr 1
          have r2 := cell_of hxr 2
          have r3 := cell_of hxr 3
          have r4 := cell_of hxr 4
          have r5 := cell_of hxr 5
          have r6 := cell_of hxr 6
          have r7 := cell_of hxr 7
          have r8 := cell_of hxr 8
          have r9 := cell_of hxr 9
          have r10 := cell_of hxr 10
          have r11 := cell_of hxr 11
          have r12 := cell_of hxr 12
          simp only [List.getElem?_toArray, List.getElem?_cons_zero, List.getElem?_cons_succ] at r0 r1 r2 r3 r4 r5 r6 r7 r8 r9 r10 r11 r12
          have hlr := (Array.getElem?_eq_some_iff.1 hxr).1
          have xr0 : ∀ u0 : Wd S, u0.w.cell? ⟨h5, 0, none⟩ = some (.int .i64 K) := fun u0 => ((Hto.out u0).cell (p := ⟨h5, 0, none⟩) hlr).trans r0
          clear hxr hlr r0 r1 r2 r3 r4 r5 r6 r7 r8 r9 r10 r11 r12
          have hxe := HQ6.out.a
          have e0 := cell_of hxe 0
          have e1 := cell_of hxe 1
          have e2 := cell_of hxe 2
          have e3 := cell_of hxe 3
          have e4 := cell_of hxe 4
          have e5 := cell_of hxe 5
          have e6 := cell_of hxe 6
          have e7 := cell_of hxe 7
          have e8 := cell_of hxe 8
          have e9 := cell_of hxe 9
          have e10 := cell_of hxe 10
          have e11 := cell_of hxe 11
          have e12 := cell_of hxe 12
          simp only [List.getElem?_toArray, List.getElem?_cons_zero, List.getElem?_cons_succ] at e0 e1 e2 e3 e4 e5 e6 e7 e8 e9 e10 e11 e12
          have hle := (Array.getElem?_eq_some_iff.1 hxe).1
          have xe0 : ∀ u0 : Wd S, u0.w.cell? ⟨g11, 0, none⟩ = some (.int .i64 K) := fun u0 => ((Hto.out u0).cell (p := ⟨g11, 0, none⟩) hle).trans e0
          have xe1 : ∀ u0 : Wd S, u0.w.cell? ⟨g11, 1, none⟩ = some (.int .i64 C) := fun u0 => ((Hto.out u0).cell (p := ⟨g11, 1, none⟩) hle).trans e1
          have xe2 : ∀ u0 : Wd S, u0.w.cell? ⟨g11, 2, none⟩ = some (.int .i64 N) := fun u0 => ((Hto.out u0).cell (p := ⟨g11, 2, none⟩) hle).trans e2
          have xe3 : ∀ u0 : Wd S, u0.w.cell? ⟨g11, 3, none⟩ = some (.int .i64 t) := fun u0 => ((Hto.out u0).cell (p := ⟨g11, 3, none⟩) hle).trans e3
          have xe4 : ∀ u0 : Wd S, u0.w.cell? ⟨g11, 4, none⟩ = some (.int .i64 o) := fun u0 => ((Hto.out u0).cell (p := ⟨g11, 4, none⟩) hle).trans e4
          have xe5 : ∀ u0 : Wd S, u0.w.cell? ⟨g11, 5, none⟩ = some (.int .i64 ep) := fun u0 => ((Hto.out u0).cell (p := ⟨g11, 5, none⟩) hle).trans e5
          have xe6 : ∀ u0 : Wd S, u0.w.cell? ⟨g11, 6, none⟩ = some (.int .i64 wd) := fun u0 => ((Hto.out u0).cell (p := ⟨g11, 6, none⟩) hle).trans e6
          have xe7 : ∀ u0 : Wd S, u0.w.cell? ⟨g11, 7, none⟩ = some (.int .u32 va) := fun u0 => ((Hto.out u0).cell (p := ⟨g11, 7, none⟩) hle).trans e7
          have xe8 : ∀ u0 : Wd S, u0.w.cell? ⟨g11, 8, none⟩ = some (.int .u32 x) := fun u0 => ((Hto.out u0).cell (p := ⟨g11, 8, none⟩) hle).trans e8
          have xe9 : ∀ u0 : Wd S, u0.w.cell? ⟨g11, 9, none⟩ = some (.int .u32 y) := fun u0 => ((Hto.out u0).cell (p := ⟨g11, 9, none⟩) hle).trans e9
          have xe10 : ∀ u0 : Wd S, u0.w.cell? ⟨g11, 10, none⟩ = some (.int .u32 z) := fun u0 => ((Hto.out u0).cell (p := ⟨g11, 10, none⟩) hle).trans e10
          have xe11 : ∀ u0 : Wd S, u0.w.cell? ⟨g11, 11, none⟩ = some (.int .u32 q) := fun u0 => ((Hto.out u0).cell (p := ⟨g11, 11, none⟩) hle).trans e11
          have xe12 : ∀ u0 : Wd S, u0.w.cell? ⟨g11, 12, none⟩ = some (.bool b) := fun u0 => ((Hto.out u0).cell (p := ⟨g11, 12, none⟩) hle).trans e12
          clear hxe hle e0 e1 e2 e3 e4 e5 e6 e7 e8 e9 e10 e11 e12
          refine lexW_light 1 (by kernel_rfl) ?_
          simp only [List.take_succ_cons, List.take_zero, List.drop_succ_cons, List.drop_zero]
          repeat (first | go_big_quiet_skip | (go_big_quiet_want; go_big_quiet_op; go_big_quiet_on))
          refine wpQuiet_nil ?_
          clear xe0 xe1 xe2 xe3 xe4 xe5 xe6 xe7 xe8 xe9 xe10 xe11 xe12
          refine lexW_heavy (by kernel_rfl) ?_
          go_wp2_with fail
          refine (mright_c ⟨K, C, N, t, o, ep, wd, va, x, y, z, q, b⟩ w6.drew).mono ?_
          rintro ev y1 ⟨rfl, hby⟩
          rw [HRA.out, show mgW K = false from HCL.out.1]
          have HY1 := Lib.hid ((Below.refl w6.heap.size w6).drew.trans hby)
          clear hby
          go_wp2_with fail
          refine lexQ_more (Hof.out _ HY1.out) ?_
          have hxf := HQ6.out.b
          have f0 := cell_of hxf 0
          have f1 := cell_of hxf 1
          have f2 := cell_of hxf 2
          have f3 := cell_of hxf 3
          have f4 := cell_of hxf 4
          have f5 := cell_of hxf 5
          have f6 := cell_of hxf 6
          have f7 := cell_of hxf 7
          have f8 := cell_of hxf 8
          have f9 := cell_of hxf 9
          have f10 := cell_of hxf 10
          have f11 := cell_of hxf 11
          have f12 := cell_of hxf 12
          simp only [List.getElem?_toArray, List.getElem?_cons_zero, List.getElem?_cons_succ] at f0 f1 f2 f3 f4 f5 f6 f7 f8 f9 f10 f11 f12
          have hlf := (Array.getElem?_eq_some_iff.1 hxf).1
          have xf0 : ∀ u0 : Wd S, u0.w.cell? ⟨g12, 0, none⟩ = some (.int .i64 K) := fun u0 => ((Hto.out u0).cell (p := ⟨g12, 0, none⟩) hlf).trans f0
          have xf1 : ∀ u0 : Wd S, u0.w.cell? ⟨g12, 1, none⟩ = some (.int .i64 C) := fun u0 => ((Hto.out u0).cell (p := ⟨g12, 1, none⟩) hlf).trans f1
          have xf2 : ∀ u0 : Wd S, u0.w.cell? ⟨g12, 2, none⟩ = some (.int .i64 N) := fun u0 => ((Hto.out u0).cell (p := ⟨g12, 2, none⟩) hlf).trans f2
          have xf3 : ∀ u0 : Wd S, u0.w.cell? ⟨g12, 3, none⟩ = some (.int .i64 t) := fun u0 => ((Hto.out u0).cell (p := ⟨g12, 3, none⟩) hlf).trans f3
          have xf4 : ∀ u0 : Wd S, u0.w.cell? ⟨g12, 4, none⟩ = some (.int .i64 vb) := fun u0 => ((Hto.out u0).cell (p := ⟨g12, 4, none⟩) hlf).trans f4
          have xf5 : ∀ u0 : Wd S, u0.w.cell? ⟨g12, 5, none⟩ = some (.int .i64 ep) := fun u0 => ((Hto.out u0).cell (p := ⟨g12, 5, none⟩) hlf).trans f5
          have xf6 : ∀ u0 : Wd S, u0.w.cell? ⟨g12, 6, none⟩ = some (.int .i64 wd) := fun u0 => ((Hto.out u0).cell (p := ⟨g12, 6, none⟩) hlf).trans f6
          have xf7 : ∀ u0 : Wd S, u0.w.cell? ⟨g12, 7, none⟩ = some (.int .u32 v) := fun u0 => ((Hto.out u0).cell (p := ⟨g12, 7, none⟩) hlf).trans f7
          have xf8 : ∀ u0 : Wd S, u0.w.cell? ⟨g12, 8, none⟩ = some (.int .u32 x) := fun u0 => ((Hto.out u0).cell (p := ⟨g12, 8, none⟩) hlf).trans f8
          have xf9 : ∀ u0 : Wd S, u0.w.cell? ⟨g12, 9, none⟩ = some (.int .u32 y) := fun u0 => ((Hto.out u0).cell (p := ⟨g12, 9, none⟩) hlf).trans f9
          have xf10 : ∀ u0 : Wd S, u0.w.cell? ⟨g12, 10, none⟩ = some (.int .u32 z) := fun u0 => ((Hto.out u0).cell (p := ⟨g12, 10, none⟩) hlf).trans f10
          have xf11 : ∀ u0 : Wd S, u0.w.cell? ⟨g12, 11, none⟩ = some (.int .u32 q) := fun u0 => ((Hto.out u0).cell (p := ⟨g12, 11, none⟩) hlf).trans f11
          have xf12 : ∀ u0 : Wd S, u0.w.cell? ⟨g12, 12, none⟩ = some (.bool b) := fun u0 => ((Hto.out u0).cell (p := ⟨g12, 12, none⟩) hlf).trans f12
          clear hxf hlf f0 f1 f2 f3 f4 f5 f6 f7 f8 f9 f10 f11 f12
          refine lexW_light 4 (by kernel_rfl) ?_
          simp only [List.take_succ_cons, List.take_zero, List.drop_succ_cons, List.drop_zero]
          repeat (first | go_big_quiet_skip | (go_big_quiet_want; go_big_quiet_op; go_big_quiet_on))
          refine wpQuiet_nil ?_
          clear xf0 xf1 xf2 xf3 xf4 xf5 xf6 xf7 xf8 xf9 xf10 xf11 xf12
          refine lexW_heavy (by kernel_rfl) ?_
          go_wp2_with fail
          refine (mright_c ⟨K, C, N, t, vb, ep, wd, v, x, y, z, q, b⟩ y1).mono ?_
          rintro ev y2 ⟨rfl, hby⟩
          rw [HRB.out, show mgM K = false from HCL.out.2.1]
          have HY2 := Lib.hid (HY1.out.trans (hby.mono HY1.out.size))
          clear hby
          go_wp2_with fail
          refine lexQ_more (Hof.out _ HY2.out) ?_
          have hxj := HQ6.out.c
          have j0 := cell_of hxj 0
          have j1 := cell_of hxj 1
          have j2 := cell_of hxj 2
          have j3 := cell_of hxj 3
          have j4 := cell_of hxj 4
          have j5 := cell_of hxj 5
          have j6 := cell_of hxj 6
          have j7 := cell_of hxj 7
          have j8 := cell_of hxj 8
          have j9 := cell_of hxj 9
          have j10 := cell_of hxj 10
          have j11 := cell_of hxj 11
          have j12 := cell_of hxj 12
          simp only [List.getElem?_toArray, List.getElem?_cons_zero, List.getElem?_cons_succ] at j0 j1 j2 j3 j4 j5 j6 j7 j8 j9 j10 j11 j12
          have hlj := (Array.getElem?_eq_some_iff.1 hxj).1
          have xj0 : ∀ u0 : Wd S, u0.w.cell? ⟨g13, 0, none⟩ = some (.int .i64 K) := fun u0 => ((Hto.out u0).cell (p := ⟨g13, 0, none⟩) hlj).trans j0
          have xj1 : ∀ u0 : Wd S, u0.w.cell? ⟨g13, 1, none⟩ = some (.int .i64 C) := fun u0 => ((Hto.out u0).cell (p := ⟨g13, 1, none⟩) hlj).trans j1
          have xj2 : ∀ u0 : Wd S, u0.w.cell? ⟨g13, 2, none⟩ = some (.int .i64 N) := fun u0 => ((Hto.out u0).cell (p := ⟨g13, 2, none⟩) hlj).trans j2
          have xj3 : ∀ u0 : Wd S, u0.w.cell? ⟨g13, 3, none⟩ = some (.int .i64 t) := fun u0 => ((Hto.out u0).cell (p := ⟨g13, 3, none⟩) hlj).trans j3
          have xj4 : ∀ u0 : Wd S, u0.w.cell? ⟨g13, 4, none⟩ = some (.int .i64 o) := fun u0 => ((Hto.out u0).cell (p := ⟨g13, 4, none⟩) hlj).trans j4
          have xj5 : ∀ u0 : Wd S, u0.w.cell? ⟨g13, 5, none⟩ = some (.int .i64 vc) := fun u0 => ((Hto.out u0).cell (p := ⟨g13, 5, none⟩) hlj).trans j5
          have xj6 : ∀ u0 : Wd S, u0.w.cell? ⟨g13, 6, none⟩ = some (.int .i64 wd) := fun u0 => ((Hto.out u0).cell (p := ⟨g13, 6, none⟩) hlj).trans j6
          have xj7 : ∀ u0 : Wd S, u0.w.cell? ⟨g13, 7, none⟩ = some (.int .u32 v) := fun u0 => ((Hto.out u0).cell (p := ⟨g13, 7, none⟩) hlj).trans j7
          have xj8 : ∀ u0 : Wd S, u0.w.cell? ⟨g13, 8, none⟩ = some (.int .u32 x) := fun u0 => ((Hto.out u0).cell (p := ⟨g13, 8, none⟩) hlj).trans j8
          have xj9 : ∀ u0 : Wd S, u0.w.cell? ⟨g13, 9, none⟩ = some (.int .u32 y) := fun u0 => ((Hto.out u0).cell (p := ⟨g13, 9, none⟩) hlj).trans j9
          have xj10 : ∀ u0 : Wd S, u0.w.cell? ⟨g13, 10, none⟩ = some (.int .u32 z) := fun u0 => ((Hto.out u0).cell (p := ⟨g13, 10, none⟩) hlj).trans j10
          have xj11 : ∀ u0 : Wd S, u0.w.cell? ⟨g13, 11, none⟩ = some (.int .u32 q) := fun u0 => ((Hto.out u0).cell (p := ⟨g13, 11, none⟩) hlj).trans j11
          have xj12 : ∀ u0 : Wd S, u0.w.cell? ⟨g13, 12, none⟩ = some (.bool b) := fun u0 => ((Hto.out u0).cell (p := ⟨g13, 12, none⟩) hlj).trans j12
          clear hxj hlj j0 j1 j2 j3 j4 j5 j6 j7 j8 j9 j10 j11 j12
          refine lexW_light 17 (by kernel_rfl) ?_
          simp only [List.take_succ_cons, List.take_zero, List.drop_succ_cons, List.drop_zero]
          repeat (first | go_big_quiet_skip | (go_big_quiet_want; go_big_quiet_op; go_big_quiet_on))
          refine wpQuiet_nil ?_
          clear xj0 xj1 xj2 xj3 xj4 xj5 xj6 xj7 xj8 xj9 xj10 xj11 xj12
          refine lexW_heavy (by kernel_rfl) ?_
          go_wp2_with fail
          refine (mright_c ⟨K, C, N, t, o, vc, wd, v, x, y, z, q, b⟩ y2).mono ?_
          rintro ev y3 ⟨rfl, hby⟩
          rw [HRC.out, show mgE K = false from HCL.out.2.2.1]
          have HY3 := Lib.hid (HY2.out.trans (hby.mono HY2.out.size))
          clear hby
          go_wp2_with fail
          refine lexQ_more (Hof.out _ HY3.out) ?_
          have hxp := HQ6.out.d
          have p0 := cell_of hxp 0
          have p1 := cell_of hxp 1
          have p2 := cell_of hxp 2
          have p3 := cell_of hxp 3
          have p4 := cell_of hxp 4
          have p5 := cell_of hxp 5
          have p6 := cell_of hxp 6
          have p7 := cell_of hxp 7
          have p8 := cell_of hxp 8
          have p9 := cell_of hxp 9
          have p10 := cell_of hxp 10
          have p11 := cell_of hxp 11
          have p12 := cell_of hxp 12
          simp only [List.getElem?_toArray, List.getElem?_cons_zero, List.getElem?_cons_succ] at p0 p1 p2 p3 p4 p5 p6 p7 p8 p9 p10 p11 p12
          have hlp := (Array.getElem?_eq_some_iff.1 hxp).1
          have xp0 : ∀ u0 : Wd S, u0.w.cell? ⟨g14, 0, none⟩ = some (.int .i64 K) := fun u0 => ((Hto.out u0).cell (p := ⟨g14, 0, none⟩) hlp).trans p0
          have xp1 : ∀ u0 : Wd S, u0.w.cell? ⟨g14, 1, none⟩ = some (.int .i64 C) := fun u0 => ((Hto.out u0).cell (p := ⟨g14, 1, none⟩) hlp).trans p1
          have xp2 : ∀ u0 : Wd S, u0.w.cell? ⟨g14, 2, none⟩ = some (.int .i64 N) := fun u0 => ((Hto.out u0).cell (p := ⟨g14, 2, none⟩) hlp).trans p2
          have xp3 : ∀ u0 : Wd S, u0.w.cell? ⟨g14, 3, none⟩ = some (.int .i64 t) := fun u0 => ((Hto.out u0).cell (p := ⟨g14, 3, none⟩) hlp).trans p3
          have xp4 : ∀ u0 : Wd S, u0.w.cell? ⟨g14, 4, none⟩ = some (.int .i64 o) := fun u0 => ((Hto.out u0).cell (p := ⟨g14, 4, none⟩) hlp).trans p4
          have xp5 : ∀ u0 : Wd S, u0.w.cell? ⟨g14, 5, none⟩ = some (.int .i64 ep) := fun u0 => ((Hto.out u0).cell (p := ⟨g14, 5, none⟩) hlp).trans p5
          have xp6 : ∀ u0 : Wd S, u0.w.cell? ⟨g14, 6, none⟩ = some (.int .i64 wd) := fun u0 => ((Hto.out u0).cell (p := ⟨g14, 6, none⟩) hlp).trans p6
          have xp7 : ∀ u0 : Wd S, u0.w.cell? ⟨g14, 7, none⟩ = some (.int .u32 v) := fun u0 => ((Hto.out u0).cell (p := ⟨g14, 7, none⟩) hlp).trans p7
          have xp8 : ∀ u0 : Wd S, u0.w.cell? ⟨g14, 8, none⟩ = some (.int .u32 0) := fun u0 => ((Hto.out u0).cell (p := ⟨g14, 8, none⟩) hlp).trans p8
          have xp9 : ∀ u0 : Wd S, u0.w.cell? ⟨g14, 9, none⟩ = some (.int .u32 0) := fun u0 => ((Hto.out u0).cell (p := ⟨g14, 9, none⟩) hlp).trans p9
          have xp10 : ∀ u0 : Wd S, u0.w.cell? ⟨g14, 10, none⟩ = some (.int .u32 0) := fun u0 => ((Hto.out u0).cell (p := ⟨g14, 10, none⟩) hlp).trans p10
          have xp11 : ∀ u0 : Wd S, u0.w.cell? ⟨g14, 11, none⟩ = some (.int .u32 0) := fun u0 => ((Hto.out u0).cell (p := ⟨g14, 11, none⟩) hlp).trans p11
          have xp12 : ∀ u0 : Wd S, u0.w.cell? ⟨g14, 12, none⟩ = some (.bool vh) := fun u0 => ((Hto.out u0).cell (p := ⟨g14, 12, none⟩) hlp).trans p12
          clear hxp hlp p0 p1 p2 p3 p4 p5 p6 p7 p8 p9 p10 p11 p12
          refine lexW_light 12 (by kernel_rfl) ?_
          simp only [List.take_succ_cons, List.take_zero, List.drop_succ_cons, List.drop_zero]
          repeat (first | go_big_quiet_skip | (go_big_quiet_want; go_big_quiet_op; go_big_quiet_on))
          refine wpQuiet_nil ?_
          clear xp0 xp1 xp2 xp3 xp4 xp5 xp6 xp7 xp8 xp9 xp10 xp11 xp12
          refine lexW_heavy (by kernel_rfl) ?_
          go_wp2_with fail
          refine (mright_c ⟨K, C, N, t, o, ep, wd, v, 0, 0, 0, 0, vh⟩ y3).mono ?_
          rintro ev y4 ⟨rfl, hby⟩
          rw [HRD.out, show mgS K = false from HCL.out.2.2.2]
          have HY4 := Lib.hid (HY3.out.trans (hby.mono HY3.out.size))
          clear hby
          go_wp2_with fail
          refine lexQ_more (Hof.out _ HY4.out) ?_
          refine lexW_light 11 (by kernel_rfl) ?_
          simp only [List.take_succ_cons, List.take_zero, List.drop_succ_cons, List.drop_zero]
          repeat (first | go_big_quiet_skip | (go_big_quiet_want; go_big_quiet_op; go_big_quiet_on))
          refine wpQuiet_nil ?_
          refine lexW_heavy (by kernel_rfl) ?_
          go_wp2_with fail
          refine (msgRuns A y4 (HSE.out.below (HB1.out.trans ((HQ6.out.below.trans (HY4.out.mono HQ6.out.below.size)).mono HB1.out.size)))).mono ?_
          rintro ev y5 ⟨rfl, hby⟩
          have HY5 := Lib.hid (HY4.out.trans (hby.mono HY4.out.size))
          clear hby
          go_wp2_with fail
          refine lexQ_more (Hof.out _ HY5.out) ?_
          refine lexW_light 2 (by kernel_rfl) ?_
          simp only [List.take_succ_cons, List.take_zero, List.drop_succ_cons, List.drop_zero]
          repeat (first | go_big_quiet_skip | (go_big_quiet_want; go_big_quiet_op; go_big_quiet_on))
          refine wpQuiet_nil ?_
          refine lexW_done ?_
          clear xr0 Hto
          go_wp2_with fail
          go_ret
          exact ⟨rfl, HB1.out.trans ((HQ6.out.below.trans (HY5.out.mono HQ6.out.below.size)).mono HB1.out.size)⟩

end Go.Proofs.YtpljdbcifaeblaaDoor
