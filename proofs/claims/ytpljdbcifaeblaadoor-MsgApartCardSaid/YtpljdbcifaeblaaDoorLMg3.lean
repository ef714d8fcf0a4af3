/- MsgBack: true; no condition but what a start gives. -/
import Derived.Test.YtpljdbcifaeblaaDoorLMg1
import Derived.Test.YtpljdbcifaeblaaDoorByt
import Derived.Test.YtpljdbcifaeblaaDoorBk
import Derived.Test.YtpljdbcifaeblaaDoorLPg2
import Derived.Deep.Cut
import Derived.Deep.CutRange
namespace Go.Proofs.YtpljdbcifaeblaaDoor
open Go.RowKit Go.Extern.Stop Go.Stop Go.Extern

/-- A message in a block. -/
def MAt (w : World) (h : Nat) (m : MsgV) : Prop := w.heap[h]? = some (.cells #[.int .i64 m.kind, .int .i64 m.core, .int .i64 m.line, .int .i64 m.state, .int .i64 m.mode, .int .i64 m.epoch, .int .i64 m.word, .int .u32 m.val, .int .u32 m.d0, .int .u32 m.d1, .int .u32 m.d2, .int .u32 m.d3, .bool m.has] 54 (0, 0))
theorem MAt.below {w w' : World} {h : Nat} {m : MsgV} (x : MAt w h m) (hb : Below w.heap.size w w') : MAt w' h m := (hb.block h (Array.getElem?_eq_some_iff.1 x).1).trans x
theorem MAt.lt {w : World} {h : Nat} {m : MsgV} (x : MAt w h m) : h < w.heap.size := (Array.getElem?_eq_some_iff.1 x).1
theorem MAt.new (w : World) (m : MsgV) : MAt (w.alloc (.cells #[.int .i64 m.kind, .int .i64 m.core, .int .i64 m.line, .int .i64 m.state, .int .i64 m.mode, .int .i64 m.epoch, .int .i64 m.word, .int .u32 m.val, .int .u32 m.d0, .int .u32 m.d1, .int .u32 m.d2, .int .u32 m.d3, .bool m.has] 54)) w.heap.size m := heap_alloc_new _ _
/-- Two messages, each in a block. -/
structure MBs (w : World) (h4 h5 : Nat) (m n : MsgV) (wx : World) : Prop where
  m : MAt wx h4 m
  n : MAt wx h5 n
  below : Below w.heap.size w wx
theorem MBs.bel {w wr wq : World} {h4 h5 : Nat} {m n : MsgV} (h : MBs w h4 h5 m n wr) (hb : Below wr.heap.size wr wq) : MBs w h4 h5 m n wq := ⟨h.m.below hb, h.n.below hb, h.below.trans (hb.mono h.below.size)⟩
theorem MBs.two (w : World) (m n : MsgV) : MBs w w.heap.size (w.heap.size + 1) m n ((w.alloc (.cells #[.int .i64 m.kind, .int .i64 m.core, .int .i64 m.line, .int .i64 m.state, .int .i64 m.mode, .int .i64 m.epoch, .int .i64 m.word, .int .u32 m.val, .int .u32 m.d0, .int .u32 m.d1, .int .u32 m.d2, .int .u32 m.d3, .bool m.has] 54)).alloc (.cells #[.int .i64 n.kind, .int .i64 n.core, .int .i64 n.line, .int .i64 n.state, .int .i64 n.mode, .int .i64 n.epoch, .int .i64 n.word, .int .u32 n.val, .int .u32 n.d0, .int .u32 n.d1, .int .u32 n.d2, .int .u32 n.d3, .bool n.has] 54)) := by
  have hs : (w.alloc (.cells #[.int .i64 m.kind, .int .i64 m.core, .int .i64 m.line, .int .i64 m.state, .int .i64 m.mode, .int .i64 m.epoch, .int .i64 m.word, .int .u32 m.val, .int .u32 m.d0, .int .u32 m.d1, .int .u32 m.d2, .int .u32 m.d3, .bool m.has] 54)).heap.size = w.heap.size + 1 := by simp
  have hb1 : Below w.heap.size w (w.alloc (.cells #[.int .i64 m.kind, .int .i64 m.core, .int .i64 m.line, .int .i64 m.state, .int .i64 m.mode, .int .i64 m.epoch, .int .i64 m.word, .int .u32 m.val, .int .u32 m.d0, .int .u32 m.d1, .int .u32 m.d2, .int .u32 m.d3, .bool m.has] 54)) := (Below.refl _ _).alloc (Nat.le_refl _) _
  have hb2 : Below (w.alloc (.cells #[.int .i64 m.kind, .int .i64 m.core, .int .i64 m.line, .int .i64 m.state, .int .i64 m.mode, .int .i64 m.epoch, .int .i64 m.word, .int .u32 m.val, .int .u32 m.d0, .int .u32 m.d1, .int .u32 m.d2, .int .u32 m.d3, .bool m.has] 54)).heap.size (w.alloc (.cells #[.int .i64 m.kind, .int .i64 m.core, .int .i64 m.line, .int .i64 m.state, .int .i64 m.mode, .int .i64 m.epoch, .int .i64 m.word, .int .u32 m.val, .int .u32 m.d0, .int .u32 m.d1, .int .u32 m.d2, .int .u32 m.d3, .bool m.has] 54)) ((w.alloc (.cells #[.int .i64 m.kind, .int .i64 m.core, .int .i64 m.line, .int .i64 m.state, .int .i64 m.mode, .int .i64 m.epoch, .int .i64 m.word, .int .u32 m.val, .int .u32 m.d0, .int .u32 m.d1, .int .u32 m.d2, .int .u32 m.d3, .bool m.has] 54)).alloc (.cells #[.int .i64 n.kind, .int .i64 n.core, .int .i64 n.line, .int .i64 n.state, .int .i64 n.mode, .int .i64 n.epoch, .int .i64 n.word, .int .u32 n.val, .int .u32 n.d0, .int .u32 n.d1, .int .u32 n.d2, .int .u32 n.d3, .bool n.has] 54)) := (Below.refl _ _).alloc (Nat.le_refl _) _
  have hn := MAt.new (w.alloc (.cells #[.int .i64 m.kind, .int .i64 m.core, .int .i64 m.line, .int .i64 m.state, .int .i64 m.mode, .int .i64 m.epoch, .int .i64 m.word, .int .u32 m.val, .int .u32 m.d0, .int .u32 m.d1, .int .u32 m.d2, .int .u32 m.d3, .bool m.has] 54)) n
  rw [hs] at hn
  exact ⟨(MAt.new w m).below hb2, hn, hb1.trans (hb2.mono hb1.size)⟩

set_option maxRecDepth 100000 in
set_option maxHeartbeats 8000000 in
theorem msgBack (A : Nat → Addr) (m n : MsgV) (vb : Value) (L : List Nat) (cut : Int) (w : World) (hs : SentAt w A) (fm : m.fit) (fn : n.fit) (hby : BytesIn w vb L) (hct : -9223372036854775808 ≤ cut ∧ cut ≤ 9223372036854775807) :
    Calls Tryd.prog 11 #[m.v, n.v, vb, .int .i64 cut] w (TruePost w) := by
  have HSE := Lib.hid hs
  have HFM := Lib.hid fm
  have HFN := Lib.hid fn
  have HBY := Lib.hid hby
  have HCT := Lib.hid hct
  obtain ⟨_, ab, cb, hvb, _⟩ := hby.row
  subst hvb
  clear hs fm fn hby hct
  have HS0 := Lib.hid (MBs.two w m n)
  obtain ⟨hM, hm⟩ : ∃ hM, hM = m := ⟨_, rfl⟩
  obtain ⟨hN, hn⟩ : ∃ hN, hN = n := ⟨_, rfl⟩
  have HM := Lib.hid hm
  have HN := Lib.hid hn
  obtain ⟨a1, a2, a3, a4, a5, a6, a7, a8, a9, a10, a11, a12, a13⟩ := m
  obtain ⟨b1, b2, b3, b4, b5, b6, b7, b8, b9, b10, b11, b12, b13⟩ := n
  clear hm hn
  simp only [MsgV.v] at HS0 ⊢
  obtain ⟨h5, hh5⟩ : ∃ h5, h5 = w.heap.size + 1 := ⟨_, rfl⟩
  rw [← hh5] at HS0
  obtain ⟨h4, hh4⟩ : ∃ h4, h4 = w.heap.size := ⟨_, rfl⟩
  go_enter Tryd.func11, Tryd.ntmps11
  go_upto_region 1 with fail
  rw [← hh5, ← hh4]
  have HS1 := Lib.hid (show MBs w h4 h5 ⟨a1, a2, a3, a4, a5, a6, a7, a8, a9, a10, a11, a12, a13⟩ ⟨b1, b2, b3, b4, b5, b6, b7, b8, b9, b10, b11, b12, b13⟩ ((w.alloc (.cells #[.int .i64 a1, .int .i64 a2, .int .i64 a3, .int .i64 a4, .int .i64 a5, .int .i64 a6, .int .i64 a7, .int .u32 a8, .int .u32 a9, .int .u32 a10, .int .u32 a11, .int .u32 a12, .bool a13] 54)).alloc (.cells #[.int .i64 b1, .int .i64 b2, .int .i64 b3, .int .i64 b4, .int .i64 b5, .int .i64 b6, .int .i64 b7, .int .u32 b8, .int .u32 b9, .int .u32 b10, .int .u32 b11, .int .u32 b12, .bool b13] 54)) from by rw [hh4]; exact HS0.out)
  generalize (w.alloc (.cells #[.int .i64 a1, .int .i64 a2, .int .i64 a3, .int .i64 a4, .int .i64 a5, .int .i64 a6, .int .i64 a7, .int .u32 a8, .int .u32 a9, .int .u32 a10, .int .u32 a11, .int .u32 a12, .bool a13] 54)).alloc (.cells #[.int .i64 b1, .int .i64 b2, .int .i64 b3, .int .i64 b4, .int .i64 b5, .int .i64 b6, .int .i64 b7, .int .u32 b8, .int .u32 b9, .int .u32 b10, .int .u32 b11, .int .u32 b12, .bool b13] 54) = w1 at *
  clear hh4 hh5 HS0
  go_wp2_with fail
  refine (mget_c A _ L w1 (HSE.out.below HS1.out.below) (HBY.out.row.below HS1.out.below) (by have := HBY.out.len; omega) HBY.out.byt).mono ?_
  rintro ev w2 ⟨rfl, hb2⟩
  have HS2 := Lib.hid (HS1.out.bel hb2)
  have HTD := Lib.hid (fun h => tell_dec (L := L) HBY.out.byt h)
  clear hb2 HS1
  generalize tellM L = T at *
  obtain ⟨X, E⟩ := T
  obtain ⟨X0, hX0⟩ : ∃ X0, X0 = X := ⟨_, rfl⟩
  have HX0 := Lib.hid hX0
  clear hX0
  obtain ⟨s1, s2, s3, s4, s5, s6, s7, s8, s9, s10, s11, s12, s13⟩ := X
  simp only [MsgV.v]
  have HXA := Lib.hid (MAt.new w2 ⟨s1, s2, s3, s4, s5, s6, s7, s8, s9, s10, s11, s12, s13⟩)
  have hbx : Below w2.heap.size w2 (w2.alloc (.cells #[.int .i64 s1, .int .i64 s2, .int .i64 s3, .int .i64 s4, .int .i64 s5, .int .i64 s6, .int .i64 s7, .int .u32 s8, .int .u32 s9, .int .u32 s10, .int .u32 s11, .int .u32 s12, .bool s13] 54)) := (Below.refl _ _).alloc (Nat.le_refl _) _
  have HS3 := Lib.hid (HS2.out.bel hbx)
  clear hbx HS2
  go_upto_region 2 with fail
  obtain ⟨h9, hh9⟩ : ∃ h9, h9 = w2.heap.size := ⟨_, rfl⟩
  rw [← hh9] at HXA ⊢
  simp only at HXA HS3
  generalize w2.alloc (.cells #[.int .i64 s1, .int .i64 s2, .int .i64 s3, .int .i64 s4, .int .i64 s5, .int .i64 s6, .int .i64 s7, .int .u32 s8, .int .u32 s9, .int .u32 s10, .int .u32 s11, .int .u32 s12, .bool s13] 54) = w3 at *
  clear hh9
  go_cut [29] from 21 to 28 (fun s wx => s = .bool false ∧ MBs w h4 h5 ⟨a1, a2, a3, a4, a5, a6, a7, a8, a9, a10, a11, a12, a13⟩ ⟨b1, b2, b3, b4, b5, b6, b7, b8, b9, b10, b11, b12, b13⟩ wx)
  case first =>
    cases hn : E.isNil with
    | false =>
      have heq := fun w => eqlNil A E w
      have hgd := fun op x c w => eqGuardNil A E op x c w
      rw [hn] at heq
      clear hn
      go_wp2_with fail
      go_meet
      case rel => exact ⟨rfl, HS3.out⟩
    | true =>
      have HTR := Lib.hid (HTD.out (by simpa using hn))
      have heq := fun w => eqlNil A E w
      have hgd := fun op x c w => eqGuardNil A E op x c w
      rw [hn] at heq
      clear hn
      have hxr := HXA.out
      have r0 := cell_of hxr 0
      have r1 := cell_of hxr 1
      have r2 := cell_of hxr 2
      have r3 := cell_of hxr 3
      have r4 := cell_of hxr 4
      have r5 := cell_of hxr 5
      have r6 := cell_of hxr 6
      have r7 := cell_of hxr 7
      have r8 := cell_of hxr 8
      have r9 := cell_of hxr 9
      have r10 := cell_of hxr 10
      have r11 := cell_of hxr 11
      have r12 := cell_of hxr 12
      simp only [List.getElem?_toArray, List.getElem?_cons_zero, List.getElem?_cons_succ] at r0 r1 r2 r3 r4 r5 r6 r7 r8 r9 r10 r11 r12
      have hlr := (Array.getElem?_eq_some_iff.1 hxr).1
      go_wp2_with fail
      refine (mput_c ⟨s1, s2, s3, s4, s5, s6, s7, s8, s9, s10, s11, s12, s13⟩ w3 HTR.out.2.1).mono ?_
      rintro ev w4 ⟨u4, rfl, hu4, hb4⟩
      obtain ⟨ap4, cp4, rfl⟩ := hu4.len
      have HU4 := Lib.hid hu4.slc
      have HS4 := Lib.hid (HS3.out.bel hb4)
      have HPE := Lib.hid (putM_right ((rightM_iff _).2 HTR.out.1))
      clear hu4 hb4
      clear hxr hlr r0 r1 r2 r3 r4 r5 r6 r7 r8 r9 r10 r11 r12
      go_wp2_with fail
      refine (sameG_c (putM ⟨s1, s2, s3, s4, s5, s6, s7, s8, s9, s10, s11, s12, s13⟩) L _ _ w4 HU4.out (HBY.out.row.below HS4.out.below) (by have := encM_len HTR.out.2.1; rw [HPE.out]; omega) (by have := HBY.out.len; omega)).mono ?_
      rintro ev w5 ⟨rfl, hb5⟩
      rw [show decide (putM ⟨s1, s2, s3, s4, s5, s6, s7, s8, s9, s10, s11, s12, s13⟩ = L) = true by rw [HPE.out]; exact decide_eq_true HTR.out.2.2.symm]
      have HS5 := Lib.hid (HS4.out.bel hb5)
      clear hb5
      go_wp2_with fail
      go_meet
      case rel => exact ⟨rfl, HS5.out⟩
  case rest =>
    obtain ⟨rfl, hS⟩ := hcut
    have HS6 := Lib.hid hS
    clear hS HS3 HXA HTD
    generalize wc = w6 at *
    go_upto_region 4 with fail
    have hxq := HS6.out.m
    have q0 := cell_of hxq 0
    have q1 := cell_of hxq 1
    have q2 := cell_of hxq 2
    have q3 := cell_of hxq 3
    have q4 := cell_of hxq 4
    have q5 := cell_of hxq 5
    have q6 := cell_of hxq 6
    have q7 := cell_of hxq 7
    have q8 := cell_of hxq 8
    have q9 := cell_of hxq 9
    have q10 := cell_of hxq 10
    have q11 := cell_of hxq 11
    have q12 := cell_of hxq 12
    simp only [List.getElem?_toArray, List.getElem?_cons_zero, List.getElem?_cons_succ] at q0 q1 q2 q3 q4 q5 q6 q7 q8 q9 q10 q11 q12
    have hlq := (Array.getElem?_eq_some_iff.1 hxq).1
    go_wp2_with fail
    refine (mput_c ⟨a1, a2, a3, a4, a5, a6, a7, a8, a9, a10, a11, a12, a13⟩ w6 HFM.out).mono ?_
    rintro ev w7 ⟨u7, rfl, hu7, hb7⟩
    obtain ⟨ap7, cp7, rfl⟩ := hu7.len
    have HU7 := Lib.hid hu7
    have HS7 := Lib.hid (HS6.out.bel hb7)
    clear hu7 hb7 HS6
    clear hxq hlq q0 q1 q2 q3 q4 q5 q6 q7 q8 q9 q10 q11 q12
    have hxq := HS7.out.m
    have q0 := cell_of hxq 0
    have q1 := cell_of hxq 1
    have q2 := cell_of hxq 2
    have q3 := cell_of hxq 3
    have q4 := cell_of hxq 4
    have q5 := cell_of hxq 5
    have q6 := cell_of hxq 6
    have q7 := cell_of hxq 7
    have q8 := cell_of hxq 8
    have q9 := cell_of hxq 9
    have q10 := cell_of hxq 10
    have q11 := cell_of hxq 11
    have q12 := cell_of hxq 12
    simp only [List.getElem?_toArray, List.getElem?_cons_zero, List.getElem?_cons_succ] at q0 q1 q2 q3 q4 q5 q6 q7 q8 q9 q10 q11 q12
    have hlq := (Array.getElem?_eq_some_iff.1 hxq).1
    go_wp2_with fail
    refine (mright_c ⟨a1, a2, a3, a4, a5, a6, a7, a8, a9, a10, a11, a12, a13⟩ w7).mono ?_
    rintro ev w8 ⟨rfl, hb8⟩
    have HS8 := Lib.hid (HS7.out.bel hb8)
    have HU8 := Lib.hid (HU7.out.below hb8)
    clear hb8 HS7 HU7
    clear hxq hlq q0 q1 q2 q3 q4 q5 q6 q7 q8 q9 q10 q11 q12
    cases hr : rightM ⟨a1, a2, a3, a4, a5, a6, a7, a8, a9, a10, a11, a12, a13⟩ with
    | false =>
      have HR := Lib.hid hr
      have hpe := putM_wrong hr
      rw [hpe] at HU8 ⊢
      clear hr hpe
      have hxq := HS8.out.m
      have q0 := cell_of hxq 0
      have q1 := cell_of hxq 1
      have q2 := cell_of hxq 2
      have q3 := cell_of hxq 3
      have q4 := cell_of hxq 4
      have q5 := cell_of hxq 5
      have q6 := cell_of hxq 6
      have q7 := cell_of hxq 7
      have q8 := cell_of hxq 8
      have q9 := cell_of hxq 9
      have q10 := cell_of hxq 10
      have q11 := cell_of hxq 11
      have q12 := cell_of hxq 12
      simp only [List.getElem?_toArray, List.getElem?_cons_zero, List.getElem?_cons_succ] at q0 q1 q2 q3 q4 q5 q6 q7 q8 q9 q10 q11 q12
      have hlq := (Array.getElem?_eq_some_iff.1 hxq).1
      go_wp2_with fail
      refine (mright_c ⟨a1, a2, a3, a4, a5, a6, a7, a8, a9, a10, a11, a12, a13⟩ w8).mono ?_
      rintro ev w9 ⟨rfl, hb9⟩
      have HB9 := Lib.hid (HS8.out.below.trans (hb9.mono HS8.out.below.size))
      rw [HR.out]
      clear hb9
      clear hxq hlq q0 q1 q2 q3 q4 q5 q6 q7 q8 q9 q10 q11 q12
      go_wp2_with fail
      refine (msgRuns A w9 (HSE.out.below HB9.out)).mono ?_
      rintro ev w10 ⟨rfl, hb10⟩
      have HB10 := Lib.hid (HB9.out.trans (hb10.mono HB9.out.size))
      clear hb10
      go_wp2_with fail
      go_ret
      exact ⟨rfl, HB10.out⟩
    | true =>
      have HR := Lib.hid ((rightM_iff _).1 hr)
      have hpe := putM_right hr
      rw [hpe] at HU8 ⊢
      have HLN := Lib.hid (encM_len HFM.out)
      have HTE := Lib.hid (tell_enc HR.out HFM.out)
      have HCU := Lib.hid (fun k hk => tell_cut HR.out HFM.out (encM_byt ⟨a1, a2, a3, a4, a5, a6, a7, a8, a9, a10, a11, a12, a13⟩) (k := k) hk)
      have HBT := Lib.hid (encM_byt ⟨a1, a2, a3, a4, a5, a6, a7, a8, a9, a10, a11, a12, a13⟩)
      have hpos := encM_pos ⟨a1, a2, a3, a4, a5, a6, a7, a8, a9, a10, a11, a12, a13⟩
      have HIN := Lib.hid (fun (n : MsgV) (h1 : n.Right) (h2 : n.fit) (h3 : encM ⟨a1, a2, a3, a4, a5, a6, a7, a8, a9, a10, a11, a12, a13⟩ = encM n) => encM_inj HR.out HFM.out h1 h2 h3)
      clear hr hpe
      generalize hPP : encM ⟨a1, a2, a3, a4, a5, a6, a7, a8, a9, a10, a11, a12, a13⟩ = P at *
      have HPE2 := Lib.hid hPP
      clear hPP
      obtain ⟨nl, hnl⟩ : ∃ nl, P.length = nl := ⟨_, rfl⟩
      have HNL := Lib.hid hnl
      rw [hnl] at hpos ⊢
      have hl150 : nl ≤ 150 := by have := HLN.out; omega
      have g0 : ((nl : Int) == 0) = false := by simp; omega
      have g1 : (nl == 0) = false := by simp; omega
      clear hnl
      go_upto_region 7 with fail
      go_wp2_with fail
      have HUS := Lib.hid (show slc w8 1 (.slice ap7 nl cp7) P.length (byteV P) from by have h := HU8.out.slc; rw [← HNL.out]; exact h)
      have hkc : nl ≤ cp7 := by have h := HU8.out.capn; rw [HNL.out] at h; exact h
      refine (mget_c A _ P w8 (HSE.out.below HS8.out.below) HUS.out (by have := HNL.out; omega) HBT.out).mono ?_
      rintro ev w9 ⟨rfl, hb9⟩
      rw [HTE.out]
      simp only [MsgV.v]
      rw [show ErrT.nil.val A = .nilIface from rfl]
      have HMA := Lib.hid (MAt.new w9 ⟨a1, a2, a3, a4, a5, a6, a7, a8, a9, a10, a11, a12, a13⟩)
      have hb10 : Below w9.heap.size w9 (w9.alloc (.cells #[.int .i64 a1, .int .i64 a2, .int .i64 a3, .int .i64 a4, .int .i64 a5, .int .i64 a6, .int .i64 a7, .int .u32 a8, .int .u32 a9, .int .u32 a10, .int .u32 a11, .int .u32 a12, .bool a13] 54)) := (Below.refl _ _).alloc (Nat.le_refl _) _
      have HS10 := Lib.hid ((HS8.out.bel hb9).bel hb10)
      have HU10 := Lib.hid ((HUS.out.below hb9).below hb10)
      clear hb9 hb10 HS8 HUS HU8
      go_upto_region 8 with fail
      obtain ⟨h12, hh12⟩ : ∃ h, h = w9.heap.size := ⟨_, rfl⟩
      rw [← hh12] at HMA ⊢
      simp only at HMA HS10
      generalize w9.alloc (.cells #[.int .i64 a1, .int .i64 a2, .int .i64 a3, .int .i64 a4, .int .i64 a5, .int .i64 a6, .int .i64 a7, .int .u32 a8, .int .u32 a9, .int .u32 a10, .int .u32 a11, .int .u32 a12, .bool a13] 54) = w10 at *
      clear hh12
      have hkk := wiF_b (n := cut) (lo := 0) (hi := (nl : Int) - 1) (by omega)
      obtain ⟨k, hk⟩ := Int.eq_ofNat_of_zero_le hkk.1
      have HK := Lib.hid hk
      have hkl : k < nl := by omega
      have hkc2 : k ≤ cp7 := by omega
      have gs : decide ((k : Int) ≥ 0) = true := by simp
      clear hk hkk
      go_wp2_with fail
      refine (Within_b cut 0 ((nl : Int) - 1) w10 (by omega) (by omega) (by omega) HCT.out.1 HCT.out.2).mono ?_
      rintro ev w' ⟨rfl, hww⟩
      obtain rfl := hww
      rw [HK.out]
      go_wp2_with fail
      refine (mget_c A _ (P.take k) w10 (HSE.out.below HS10.out.below) (slc_take HU10.out (by have := HNL.out; omega)) (by have := HNL.out; rw [List.length_take]; omega) (fun c hc => HBT.out c (List.mem_of_mem_take hc))).mono ?_
      rintro ev w11 ⟨rfl, hb11⟩
      have HCK := Lib.hid (HCU.out k (by have := HNL.out; omega))
      generalize tellM (P.take k) = T at *
      obtain ⟨Y, F⟩ := T
      obtain ⟨y1, y2, y3, y4, y5, y6, y7, y8, y9, y10, y11, y12, y13⟩ := Y
      simp only [MsgV.v] at HCK ⊢
      have hb12 : Below w11.heap.size w11 (w11.alloc (.cells #[.int .i64 y1, .int .i64 y2, .int .i64 y3, .int .i64 y4, .int .i64 y5, .int .i64 y6, .int .i64 y7, .int .u32 y8, .int .u32 y9, .int .u32 y10, .int .u32 y11, .int .u32 y12, .bool y13] 54)) := (Below.refl _ _).alloc (Nat.le_refl _) _
      have HS12 := Lib.hid ((HS10.out.bel hb11).bel hb12)
      have HU12 := Lib.hid ((HU10.out.below hb11).below hb12)
      have HM12 := Lib.hid ((HMA.out.below hb11).below hb12)
      clear hb11 hb12 HS10 HU10 HMA gs
      go_upto_region 9 with fail
      generalize w11.alloc (.cells #[.int .i64 y1, .int .i64 y2, .int .i64 y3, .int .i64 y4, .int .i64 y5, .int .i64 y6, .int .i64 y7, .int .u32 y8, .int .u32 y9, .int .u32 y10, .int .u32 y11, .int .u32 y12, .bool y13] 54) = w12 at *
      have hne1 := fun w => neqNil A F w
      rw [HCK.out, Bool.not_false] at hne1
      have hgd := fun op x c w => eqGuardNil A F op x c w
      have hq1 := fun w => run_eqMs a1 a2 a3 a4 a5 a6 a7 a8 a9 a10 a11 a12 a1 a2 a3 a4 a5 a6 a7 a8 a9 a10 a11 a12 a13 a13 w
      rw [show eqM ⟨a1, a2, a3, a4, a5, a6, a7, a8, a9, a10, a11, a12, a13⟩ ⟨a1, a2, a3, a4, a5, a6, a7, a8, a9, a10, a11, a12, a13⟩ = true from (eqM_iff _ _).2 rfl] at hq1
      have hq2 := fun w => run_eqMs a1 a2 a3 a4 a5 a6 a7 a8 a9 a10 a11 a12 b1 b2 b3 b4 b5 b6 b7 b8 b9 b10 b11 b12 a13 b13 w
      have HEQ := Lib.hid (eqM_iff ⟨a1, a2, a3, a4, a5, a6, a7, a8, a9, a10, a11, a12, a13⟩ ⟨b1, b2, b3, b4, b5, b6, b7, b8, b9, b10, b11, b12, b13⟩)
      generalize eqM ⟨a1, a2, a3, a4, a5, a6, a7, a8, a9, a10, a11, a12, a13⟩ ⟨b1, b2, b3, b4, b5, b6, b7, b8, b9, b10, b11, b12, b13⟩ = Q at *
      cases hr : rightM ⟨b1, b2, b3, b4, b5, b6, b7, b8, b9, b10, b11, b12, b13⟩ with
      | false =>
        have HRN := Lib.hid hr
        clear hr
        refine wp_region_lexA ⟨[], []⟩ (fun x => Below w12.heap.size w12 x) (by kernel_rfl) (by kernel_rfl) (Below.refl _ _).drew ?_
        intro S hto hof hne
        have hxe := HM12.out
        have e0 := cell_of hxe 0
        have e1 := cell_of hxe 1
        have e2 := cell_of hxe 2
        have e3 := cell_of hxe 3
        have e4 := cell_of hxe 4
        have e5 := cell_of hxe 5
        have e6 := cell_of hxe 6
        have e7 := cell_of hxe 7
        have e8 := cell_of hxe 8
        have e9 := cell_of hxe 9
        have e10 := cell_of hxe 10
        have e11 := cell_of hxe 11
        have e12 := cell_of hxe 12
        simp only [List.getElem?_toArray, List.getElem?_cons_zero, List.getElem?_cons_succ] at e0 e1 e2 e3 e4 e5 e6 e7 e8 e9 e10 e11 e12
        have hle := (Array.getElem?_eq_some_iff.1 hxe).1
        have xe0 : ∀ z : Wd S, z.w.cell? ⟨h12, 0, none⟩ = some (.int .i64 a1) := fun z => ((hto z).cell (p := ⟨h12, 0, none⟩) hle).trans e0
        have xe1 : ∀ z : Wd S, z.w.cell? ⟨h12, 1, none⟩ = some (.int .i64 a2) := fun z => ((hto z).cell (p := ⟨h12, 1, none⟩) hle).trans e1
        have xe2 : ∀ z : Wd S, z.w.cell? ⟨h12, 2, none⟩ = some (.int .i64 a3) := fun z => ((hto z).cell (p := ⟨h12, 2, none⟩) hle).trans e2
        have xe3 : ∀ z : Wd S, z.w.cell? ⟨h12, 3, none⟩ = some (.int .i64 a4) := fun z => ((hto z).cell (p := ⟨h12, 3, none⟩) hle).trans e3
        have xe4 : ∀ z : Wd S, z.w.cell? ⟨h12, 4, none⟩ = some (.int .i64 a5) := fun z => ((hto z).cell (p := ⟨h12, 4, none⟩) hle).trans e4
        have xe5 : ∀ z : Wd S, z.w.cell? ⟨h12, 5, none⟩ = some (.int .i64 a6) := fun z => ((hto z).cell (p := ⟨h12, 5, none⟩) hle).trans e5
        have xe6 : ∀ z : Wd S, z.w.cell? ⟨h12, 6, none⟩ = some (.int .i64 a7) := fun z => ((hto z).cell (p := ⟨h12, 6, none⟩) hle).trans e6
        have xe7 : ∀ z : Wd S, z.w.cell? ⟨h12, 7, none⟩ = some (.int .u32 a8) := fun z => ((hto z).cell (p := ⟨h12, 7, none⟩) hle).trans e7
        have xe8 : ∀ z : Wd S, z.w.cell? ⟨h12, 8, none⟩ = some (.int .u32 a9) := fun z => ((hto z).cell (p := ⟨h12, 8, none⟩) hle).trans e8
        have xe9 : ∀ z : Wd S, z.w.cell? ⟨h12, 9, none⟩ = some (.int .u32 a10) := fun z => ((hto z).cell (p := ⟨h12, 9, none⟩) hle).trans e9
        have xe10 : ∀ z : Wd S, z.w.cell? ⟨h12, 10, none⟩ = some (.int .u32 a11) := fun z => ((hto z).cell (p := ⟨h12, 10, none⟩) hle).trans e10
        have xe11 : ∀ z : Wd S, z.w.cell? ⟨h12, 11, none⟩ = some (.int .u32 a12) := fun z => ((hto z).cell (p := ⟨h12, 11, none⟩) hle).trans e11
        have xe12 : ∀ z : Wd S, z.w.cell? ⟨h12, 12, none⟩ = some (.bool a13) := fun z => ((hto z).cell (p := ⟨h12, 12, none⟩) hle).trans e12
        clear hxe hle e0 e1 e2 e3 e4 e5 e6 e7 e8 e9 e10 e11 e12
        have hxf := HS12.out.m
        have f0 := cell_of hxf 0
        have f1 := cell_of hxf 1
        have f2 := cell_of hxf 2
        have f3 := cell_of hxf 3
        have f4 := cell_of hxf 4
        have f5 := cell_of hxf 5
        have f6 := cell_of hxf 6
        have f7 := cell_of hxf 7
        have f8 := cell_of hxf 8
        have f9 := cell_of hxf 9
        have f10 := cell_of hxf 10
        have f11 := cell_of hxf 11
        have f12 := cell_of hxf 12
        simp only [List.getElem?_toArray, List.getElem?_cons_zero, List.getElem?_cons_succ] at f0 f1 f2 f3 f4 f5 f6 f7 f8 f9 f10 f11 f12
        have hlf := (Array.getElem?_eq_some_iff.1 hxf).1
        have xf0 : ∀ z : Wd S, z.w.cell? ⟨h4, 0, none⟩ = some (.int .i64 a1) := fun z => ((hto z).cell (p := ⟨h4, 0, none⟩) hlf).trans f0
        have xf1 : ∀ z : Wd S, z.w.cell? ⟨h4, 1, none⟩ = some (.int .i64 a2) := fun z => ((hto z).cell (p := ⟨h4, 1, none⟩) hlf).trans f1
        have xf2 : ∀ z : Wd S, z.w.cell? ⟨h4, 2, none⟩ = some (.int .i64 a3) := fun z => ((hto z).cell (p := ⟨h4, 2, none⟩) hlf).trans f2
        have xf3 : ∀ z : Wd S, z.w.cell? ⟨h4, 3, none⟩ = some (.int .i64 a4) := fun z => ((hto z).cell (p := ⟨h4, 3, none⟩) hlf).trans f3
        have xf4 : ∀ z : Wd S, z.w.cell? ⟨h4, 4, none⟩ = some (.int .i64 a5) := fun z => ((hto z).cell (p := ⟨h4, 4, none⟩) hlf).trans f4
        have xf5 : ∀ z : Wd S, z.w.cell? ⟨h4, 5, none⟩ = some (.int .i64 a6) := fun z => ((hto z).cell (p := ⟨h4, 5, none⟩) hlf).trans f5
        have xf6 : ∀ z : Wd S, z.w.cell? ⟨h4, 6, none⟩ = some (.int .i64 a7) := fun z => ((hto z).cell (p := ⟨h4, 6, none⟩) hlf).trans f6
        have xf7 : ∀ z : Wd S, z.w.cell? ⟨h4, 7, none⟩ = some (.int .u32 a8) := fun z => ((hto z).cell (p := ⟨h4, 7, none⟩) hlf).trans f7
        have xf8 : ∀ z : Wd S, z.w.cell? ⟨h4, 8, none⟩ = some (.int .u32 a9) := fun z => ((hto z).cell (p := ⟨h4, 8, none⟩) hlf).trans f8
        have xf9 : ∀ z : Wd S, z.w.cell? ⟨h4, 9, none⟩ = some (.int .u32 a10) := fun z => ((hto z).cell (p := ⟨h4, 9, none⟩) hlf).trans f9
        have xf10 : ∀ z : Wd S, z.w.cell? ⟨h4, 10, none⟩ = some (.int .u32 a11) := fun z => ((hto z).cell (p := ⟨h4, 10, none⟩) hlf).trans f10
        have xf11 : ∀ z : Wd S, z.w.cell? ⟨h4, 11, none⟩ = some (.int .u32 a12) := fun z => ((hto z).cell (p := ⟨h4, 11, none⟩) hlf).trans f11
        have xf12 : ∀ z : Wd S, z.w.cell? ⟨h4, 12, none⟩ = some (.bool a13) := fun z => ((hto z).cell (p := ⟨h4, 12, none⟩) hlf).trans f12
        clear hxf hlf f0 f1 f2 f3 f4 f5 f6 f7 f8 f9 f10 f11 f12
        have hxg := HS12.out.n
        have g0 := cell_of hxg 0
        have g1 := cell_of hxg 1
        have g2 := cell_of hxg 2
        have g3 := cell_of hxg 3
        have g4 := cell_of hxg 4
        have g5 := cell_of hxg 5
        have g6 := cell_of hxg 6
        have g7 := cell_of hxg 7
        have g8 := cell_of hxg 8
        have g9 := cell_of hxg 9
        have g10 := cell_of hxg 10
        have g11 := cell_of hxg 11
        have g12 := cell_of hxg 12
        simp only [List.getElem?_toArray, List.getElem?_cons_zero, List.getElem?_cons_succ] at g0 g1 g2 g3 g4 g5 g6 g7 g8 g9 g10 g11 g12
        have hlg := (Array.getElem?_eq_some_iff.1 hxg).1
        have xg0 : ∀ z : Wd S, z.w.cell? ⟨h5, 0, none⟩ = some (.int .i64 b1) := fun z => ((hto z).cell (p := ⟨h5, 0, none⟩) hlg).trans g0
        have xg1 : ∀ z : Wd S, z.w.cell? ⟨h5, 1, none⟩ = some (.int .i64 b2) := fun z => ((hto z).cell (p := ⟨h5, 1, none⟩) hlg).trans g1
        have xg2 : ∀ z : Wd S, z.w.cell? ⟨h5, 2, none⟩ = some (.int .i64 b3) := fun z => ((hto z).cell (p := ⟨h5, 2, none⟩) hlg).trans g2
        have xg3 : ∀ z : Wd S, z.w.cell? ⟨h5, 3, none⟩ = some (.int .i64 b4) := fun z => ((hto z).cell (p := ⟨h5, 3, none⟩) hlg).trans g3
        have xg4 : ∀ z : Wd S, z.w.cell? ⟨h5, 4, none⟩ = some (.int .i64 b5) := fun z => ((hto z).cell (p := ⟨h5, 4, none⟩) hlg).trans g4
        have xg5 : ∀ z : Wd S, z.w.cell? ⟨h5, 5, none⟩ = some (.int .i64 b6) := fun z => ((hto z).cell (p := ⟨h5, 5, none⟩) hlg).trans g5
        have xg6 : ∀ z : Wd S, z.w.cell? ⟨h5, 6, none⟩ = some (.int .i64 b7) := fun z => ((hto z).cell (p := ⟨h5, 6, none⟩) hlg).trans g6
        have xg7 : ∀ z : Wd S, z.w.cell? ⟨h5, 7, none⟩ = some (.int .u32 b8) := fun z => ((hto z).cell (p := ⟨h5, 7, none⟩) hlg).trans g7
        have xg8 : ∀ z : Wd S, z.w.cell? ⟨h5, 8, none⟩ = some (.int .u32 b9) := fun z => ((hto z).cell (p := ⟨h5, 8, none⟩) hlg).trans g8
        have xg9 : ∀ z : Wd S, z.w.cell? ⟨h5, 9, none⟩ = some (.int .u32 b10) := fun z => ((hto z).cell (p := ⟨h5, 9, none⟩) hlg).trans g9
        have xg10 : ∀ z : Wd S, z.w.cell? ⟨h5, 10, none⟩ = some (.int .u32 b11) := fun z => ((hto z).cell (p := ⟨h5, 10, none⟩) hlg).trans g10
        have xg11 : ∀ z : Wd S, z.w.cell? ⟨h5, 11, none⟩ = some (.int .u32 b12) := fun z => ((hto z).cell (p := ⟨h5, 11, none⟩) hlg).trans g11
        have xg12 : ∀ z : Wd S, z.w.cell? ⟨h5, 12, none⟩ = some (.bool b13) := fun z => ((hto z).cell (p := ⟨h5, 12, none⟩) hlg).trans g12
        clear hxg hlg g0 g1 g2 g3 g4 g5 g6 g7 g8 g9 g10 g11 g12
        have Hof := Lib.hid hof
        clear hto hof
        refine lexW_light 13 (by kernel_rfl) ?_
        simp only [List.take_succ_cons, List.take_zero, List.drop_succ_cons, List.drop_zero]
        repeat (first | go_big_quiet_skip | (go_big_quiet_want; go_big_quiet_op; go_big_quiet_on))
        refine wpQuiet_nil ?_
        refine lexW_heavy (by kernel_rfl) ?_
        go_wp2_with fail
        refine (mright_c ⟨b1, b2, b3, b4, b5, b6, b7, b8, b9, b10, b11, b12, b13⟩ w12.drew).mono ?_
        rintro ev w13 ⟨rfl, hb13⟩
        rw [HRN.out]
        have HB13 := Lib.hid ((Below.refl w12.heap.size w12).drew.trans hb13)
        clear hb13
        go_wp2_with fail
        refine lexQ_more (Hof.out _ HB13.out) ?_
        refine lexW_light 4 (by kernel_rfl) ?_
        simp only [List.take_succ_cons, List.take_zero, List.drop_succ_cons, List.drop_zero]
        repeat (first | go_big_quiet_skip | (go_big_quiet_want; go_big_quiet_op; go_big_quiet_on))
        refine wpQuiet_nil ?_
        refine lexW_heavy (by kernel_rfl) ?_
        go_wp2_with fail
        refine lexQ_more (Hof.out _ HB13.out) ?_
        refine lexW_heavy (by kernel_rfl) ?_
        go_wp2_with fail
        refine lexQ_more (Hof.out _ HB13.out) ?_
        refine lexW_light 7 (by kernel_rfl) ?_
        simp only [List.take_succ_cons, List.take_zero, List.drop_succ_cons, List.drop_zero]
        repeat (first | go_big_quiet_skip | (go_big_quiet_want; go_big_quiet_op; go_big_quiet_on))
        refine wpQuiet_nil ?_
        refine lexW_heavy (by kernel_rfl) ?_
        go_wp2_with fail
        refine (msgRuns A w13 (HSE.out.below (HS12.out.below.trans (HB13.out.mono HS12.out.below.size)))).mono ?_
        rintro ev w14 ⟨rfl, hb14⟩
        have HB14 := Lib.hid (HB13.out.trans (hb14.mono HB13.out.size))
        clear hb14
        go_wp2_with fail
        refine lexQ_more (Hof.out _ HB14.out) ?_
        refine lexW_light 2 (by kernel_rfl) ?_
        simp only [List.take_succ_cons, List.take_zero, List.drop_succ_cons, List.drop_zero]
        repeat (first | go_big_quiet_skip | (go_big_quiet_want; go_big_quiet_op; go_big_quiet_on))
        refine wpQuiet_nil ?_
        refine lexW_done ?_
        clear xe0 xe1 xe2 xe3 xe4 xe5 xe6 xe7 xe8 xe9 xe10 xe11 xe12 xf0 xf1 xf2 xf3 xf4 xf5 xf6 xf7 xf8 xf9 xf10 xf11 xf12 xg0 xg1 xg2 xg3 xg4 xg5 xg6 xg7 xg8 xg9 xg10 xg11 xg12
        go_wp2_with fail
        go_ret
        exact ⟨rfl, HS12.out.below.trans (HB14.out.mono HS12.out.below.size)⟩
      | true =>
        have HRN := Lib.hid hr
        have HPN := Lib.hid (putM_right hr)
        have HDQ := Lib.hid (show decide (P = encM ⟨b1, b2, b3, b4, b5, b6, b7, b8, b9, b10, b11, b12, b13⟩) = Q by
          rw [Bool.eq_iff_iff, HEQ.out, decide_eq_true_eq]
          constructor
          · exact fun h => HIN.out _ ((rightM_iff _).1 HRN.out) HFN.out h
          · intro h; rw [← HPE2.out, h])
        clear hr
        cases Q with
        | false =>
          refine wp_region_lexA ⟨[], []⟩ (fun x => Below w12.heap.size w12 x) (by kernel_rfl) (by kernel_rfl) (Below.refl _ _).drew ?_
          intro S hto hof hne
          have hxe := HM12.out
          have e0 := cell_of hxe 0
          have e1 := cell_of hxe 1
          have e2 := cell_of hxe 2
          have e3 := cell_of hxe 3
          have e4 := cell_of hxe 4
          have e5 := cell_of hxe 5
          have e6 := cell_of hxe 6
          have e7 := cell_of hxe 7
          have e8 := cell_of hxe 8
          have e9 := cell_of hxe 9
          have e10 := cell_of hxe 10
          have e11 := cell_of hxe 11
          have e12 := cell_of hxe 12
          simp only [List.getElem?_toArray, List.getElem?_cons_zero, List.getElem?_cons_succ] at e0 e1 e2 e3 e4 e5 e6 e7 e8 e9 e10 e11 e12
          have hle := (Array.getElem?_eq_some_iff.1 hxe).1
          have xe0 : ∀ z : Wd S, z.w.cell? ⟨h12, 0, none⟩ = some (.int .i64 a1) := fun z => ((hto z).cell (p := ⟨h12, 0, none⟩) hle).trans e0
          have xe1 : ∀ z : Wd S, z.w.cell? ⟨h12, 1, none⟩ = some (.int .i64 a2) := fun z => ((hto z).cell (p := ⟨h12, 1, none⟩) hle).trans e1
          have xe2 : ∀ z : Wd S, z.w.cell? ⟨h12, 2, none⟩ = some (.int .i64 a3) := fun z => ((hto z).cell (p := ⟨h12, 2, none⟩) hle).trans e2
          have xe3 : ∀ z : Wd S, z.w.cell? ⟨h12, 3, none⟩ = some (.int .i64 a4) := fun z => ((hto z).cell (p := ⟨h12, 3, none⟩) hle).trans e3
          have xe4 : ∀ z : Wd S, z.w.cell? ⟨h12, 4, none⟩ = some (.int .i64 a5) := fun z => ((hto z).cell (p := ⟨h12, 4, none⟩) hle).trans e4
          have xe5 : ∀ z : Wd S, z.w.cell? ⟨h12, 5, none⟩ = some (.int .i64 a6) := fun z => ((hto z).cell (p := ⟨h12, 5, none⟩) hle).trans e5
          have xe6 : ∀ z : Wd S, z.w.cell? ⟨h12, 6, none⟩ = some (.int .i64 a7) := fun z => ((hto z).cell (p := ⟨h12, 6, none⟩) hle).trans e6
          have xe7 : ∀ z : Wd S, z.w.cell? ⟨h12, 7, none⟩ = some (.int .u32 a8) := fun z => ((hto z).cell (p := ⟨h12, 7, none⟩) hle).trans e7
          have xe8 : ∀ z : Wd S, z.w.cell? ⟨h12, 8, none⟩ = some (.int .u32 a9) := fun z => ((hto z).cell (p := ⟨h12, 8, none⟩) hle).trans e8
          have xe9 : ∀ z : Wd S, z.w.cell? ⟨h12, 9, none⟩ = some (.int .u32 a10) := fun z => ((hto z).cell (p := ⟨h12, 9, none⟩) hle).trans e9
          have xe10 : ∀ z : Wd S, z.w.cell? ⟨h12, 10, none⟩ = some (.int .u32 a11) := fun z => ((hto z).cell (p := ⟨h12, 10, none⟩) hle).trans e10
          have xe11 : ∀ z : Wd S, z.w.cell? ⟨h12, 11, none⟩ = some (.int .u32 a12) := fun z => ((hto z).cell (p := ⟨h12, 11, none⟩) hle).trans e11
          have xe12 : ∀ z : Wd S, z.w.cell? ⟨h12, 12, none⟩ = some (.bool a13) := fun z => ((hto z).cell (p := ⟨h12, 12, none⟩) hle).trans e12
          clear hxe hle e0 e1 e2 e3 e4 e5 e6 e7 e8 e9 e10 e11 e12
          have hxf := HS12.out.m
          have f0 := cell_of hxf 0
          have f1 := cell_of hxf 1
          have f2 := cell_of hxf 2
          have f3 := cell_of hxf 3
          have f4 := cell_of hxf 4
          have f5 := cell_of hxf 5
          have f6 := cell_of hxf 6
          have f7 := cell_of hxf 7
          have f8 := cell_of hxf 8
          have f9 := cell_of hxf 9
          have f10 := cell_of hxf 10
          have f11 := cell_of hxf 11
          have f12 := cell_of hxf 12
          simp only [List.getElem?_toArray, List.getElem?_cons_zero, List.getElem?_cons_succ] at f0 f1 f2 f3 f4 f5 f6 f7 f8 f9 f10 f11 f12
          have hlf := (Array.getElem?_eq_some_iff.1 hxf).1
          have xf0 : ∀ z : Wd S, z.w.cell? ⟨h4, 0, none⟩ = some (.int .i64 a1) := fun z => ((hto z).cell (p := ⟨h4, 0, none⟩) hlf).trans f0
          have xf1 : ∀ z : Wd S, z.w.cell? ⟨h4, 1, none⟩ = some (.int .i64 a2) := fun z => ((hto z).cell (p := ⟨h4, 1, none⟩) hlf).trans f1
          have xf2 : ∀ z : Wd S, z.w.cell? ⟨h4, 2, none⟩ = some (.int .i64 a3) := fun z => ((hto z).cell (p := ⟨h4, 2, none⟩) hlf).trans f2
          have xf3 : ∀ z : Wd S, z.w.cell? ⟨h4, 3, none⟩ = some (.int .i64 a4) := fun z => ((hto z).cell (p := ⟨h4, 3, none⟩) hlf).trans f3
          have xf4 : ∀ z : Wd S, z.w.cell? ⟨h4, 4, none⟩ = some (.int .i64 a5) := fun z => ((hto z).cell (p := ⟨h4, 4, none⟩) hlf).trans f4
          have xf5 : ∀ z : Wd S, z.w.cell? ⟨h4, 5, none⟩ = some (.int .i64 a6) := fun z => ((hto z).cell (p := ⟨h4, 5, none⟩) hlf).trans f5
          have xf6 : ∀ z : Wd S, z.w.cell? ⟨h4, 6, none⟩ = some (.int .i64 a7) := fun z => ((hto z).cell (p := ⟨h4, 6, none⟩) hlf).trans f6
          have xf7 : ∀ z : Wd S, z.w.cell? ⟨h4, 7, none⟩ = some (.int .u32 a8) := fun z => ((hto z).cell (p := ⟨h4, 7, none⟩) hlf).trans f7
          have xf8 : ∀ z : Wd S, z.w.cell? ⟨h4, 8, none⟩ = some (.int .u32 a9) := fun z => ((hto z).cell (p := ⟨h4, 8, none⟩) hlf).trans f8
          have xf9 : ∀ z : Wd S, z.w.cell? ⟨h4, 9, none⟩ = some (.int .u32 a10) := fun z => ((hto z).cell (p := ⟨h4, 9, none⟩) hlf).trans f9
          have xf10 : ∀ z : Wd S, z.w.cell? ⟨h4, 10, none⟩ = some (.int .u32 a11) := fun z => ((hto z).cell (p := ⟨h4, 10, none⟩) hlf).trans f10
          have xf11 : ∀ z : Wd S, z.w.cell? ⟨h4, 11, none⟩ = some (.int .u32 a12) := fun z => ((hto z).cell (p := ⟨h4, 11, none⟩) hlf).trans f11
          have xf12 : ∀ z : Wd S, z.w.cell? ⟨h4, 12, none⟩ = some (.bool a13) := fun z => ((hto z).cell (p := ⟨h4, 12, none⟩) hlf).trans f12
          clear hxf hlf f0 f1 f2 f3 f4 f5 f6 f7 f8 f9 f10 f11 f12
          have hxg := HS12.out.n
          have g0 := cell_of hxg 0
          have g1 := cell_of hxg 1
          have g2 := cell_of hxg 2
          have g3 := cell_of hxg 3
          have g4 := cell_of hxg 4
          have g5 := cell_of hxg 5
          have g6 := cell_of hxg 6
          have g7 := cell_of hxg 7
          have g8 := cell_of hxg 8
          have g9 := cell_of hxg 9
          have g10 := cell_of hxg 10
          have g11 := cell_of hxg 11
          have g12 := cell_of hxg 12
          simp only [List.getElem?_toArray, List.getElem?_cons_zero, List.getElem?_cons_succ] at g0 g1 g2 g3 g4 g5 g6 g7 g8 g9 g10 g11 g12
          have hlg := (Array.getElem?_eq_some_iff.1 hxg).1
          have xg0 : ∀ z : Wd S, z.w.cell? ⟨h5, 0, none⟩ = some (.int .i64 b1) := fun z => ((hto z).cell (p := ⟨h5, 0, none⟩) hlg).trans g0
          have xg1 : ∀ z : Wd S, z.w.cell? ⟨h5, 1, none⟩ = some (.int .i64 b2) := fun z => ((hto z).cell (p := ⟨h5, 1, none⟩) hlg).trans g1
          have xg2 : ∀ z : Wd S, z.w.cell? ⟨h5, 2, none⟩ = some (.int .i64 b3) := fun z => ((hto z).cell (p := ⟨h5, 2, none⟩) hlg).trans g2
          have xg3 : ∀ z : Wd S, z.w.cell? ⟨h5, 3, none⟩ = some (.int .i64 b4) := fun z => ((hto z).cell (p := ⟨h5, 3, none⟩) hlg).trans g3
          have xg4 : ∀ z : Wd S, z.w.cell? ⟨h5, 4, none⟩ = some (.int .i64 b5) := fun z => ((hto z).cell (p := ⟨h5, 4, none⟩) hlg).trans g4
          have xg5 : ∀ z : Wd S, z.w.cell? ⟨h5, 5, none⟩ = some (.int .i64 b6) := fun z => ((hto z).cell (p := ⟨h5, 5, none⟩) hlg).trans g5
          have xg6 : ∀ z : Wd S, z.w.cell? ⟨h5, 6, none⟩ = some (.int .i64 b7) := fun z => ((hto z).cell (p := ⟨h5, 6, none⟩) hlg).trans g6
          have xg7 : ∀ z : Wd S, z.w.cell? ⟨h5, 7, none⟩ = some (.int .u32 b8) := fun z => ((hto z).cell (p := ⟨h5, 7, none⟩) hlg).trans g7
          have xg8 : ∀ z : Wd S, z.w.cell? ⟨h5, 8, none⟩ = some (.int .u32 b9) := fun z => ((hto z).cell (p := ⟨h5, 8, none⟩) hlg).trans g8
          have xg9 : ∀ z : Wd S, z.w.cell? ⟨h5, 9, none⟩ = some (.int .u32 b10) := fun z => ((hto z).cell (p := ⟨h5, 9, none⟩) hlg).trans g9
          have xg10 : ∀ z : Wd S, z.w.cell? ⟨h5, 10, none⟩ = some (.int .u32 b11) := fun z => ((hto z).cell (p := ⟨h5, 10, none⟩) hlg).trans g10
          have xg11 : ∀ z : Wd S, z.w.cell? ⟨h5, 11, none⟩ = some (.int .u32 b12) := fun z => ((hto z).cell (p := ⟨h5, 11, none⟩) hlg).trans g11
          have xg12 : ∀ z : Wd S, z.w.cell? ⟨h5, 12, none⟩ = some (.bool b13) := fun z => ((hto z).cell (p := ⟨h5, 12, none⟩) hlg).trans g12
          clear hxg hlg g0 g1 g2 g3 g4 g5 g6 g7 g8 g9 g10 g11 g12
          have Hof := Lib.hid hof
          clear hto hof
          refine lexW_light 13 (by kernel_rfl) ?_
          simp only [List.take_succ_cons, List.take_zero, List.drop_succ_cons, List.drop_zero]
          repeat (first | go_big_quiet_skip | (go_big_quiet_want; go_big_quiet_op; go_big_quiet_on))
          refine wpQuiet_nil ?_
          refine lexW_heavy (by kernel_rfl) ?_
          go_wp2_with fail
          refine (mright_c ⟨b1, b2, b3, b4, b5, b6, b7, b8, b9, b10, b11, b12, b13⟩ w12.drew).mono ?_
          rintro ev w13 ⟨rfl, hb13⟩
          rw [HRN.out]
          have HB13 := Lib.hid ((Below.refl w12.heap.size w12).drew.trans hb13)
          clear hb13
          go_wp2_with fail
          refine lexQ_more (Hof.out _ HB13.out) ?_
          refine lexW_light 4 (by kernel_rfl) ?_
          simp only [List.take_succ_cons, List.take_zero, List.drop_succ_cons, List.drop_zero]
          repeat (first | go_big_quiet_skip | (go_big_quiet_want; go_big_quiet_op; go_big_quiet_on))
          refine wpQuiet_nil ?_
          refine lexW_heavy (by kernel_rfl) ?_
          go_wp2_with fail
          refine (mput_c ⟨b1, b2, b3, b4, b5, b6, b7, b8, b9, b10, b11, b12, b13⟩ w13 HFN.out).mono ?_
          rintro ev w14 ⟨u14, rfl, hu14, hb14⟩
          rw [HPN.out] at hu14
          obtain ⟨ap14, cp14, rfl⟩ := hu14.len
          have HU14 := Lib.hid hu14.slc
          have HB14 := Lib.hid (HB13.out.trans (hb14.mono HB13.out.size))
          clear hu14 hb14
          go_wp2_with fail
          refine lexQ_more (Hof.out _ HB14.out) ?_
          refine lexW_heavy (by kernel_rfl) ?_
          go_wp2_with fail
          refine (sameG_c P (encM ⟨b1, b2, b3, b4, b5, b6, b7, b8, b9, b10, b11, b12, b13⟩) _ _ w14 (HU12.out.below HB14.out) HU14.out (by have := HNL.out; omega) (by have := encM_len HFN.out; omega)).mono ?_
          rintro ev w15 ⟨rfl, hb15⟩
          rw [HDQ.out]
          have HB15 := Lib.hid (HB14.out.trans (hb15.mono HB14.out.size))
          clear hb15
          go_wp2_with fail
          refine lexQ_more (Hof.out _ HB15.out) ?_
          refine lexW_light 7 (by kernel_rfl) ?_
          simp only [List.take_succ_cons, List.take_zero, List.drop_succ_cons, List.drop_zero]
          repeat (first | go_big_quiet_skip | (go_big_quiet_want; go_big_quiet_op; go_big_quiet_on))
          refine wpQuiet_nil ?_
          refine lexW_heavy (by kernel_rfl) ?_
          go_wp2_with fail
          refine (msgRuns A w15 (HSE.out.below (HS12.out.below.trans (HB15.out.mono HS12.out.below.size)))).mono ?_
          rintro ev w16 ⟨rfl, hb16⟩
          have HB16 := Lib.hid (HB15.out.trans (hb16.mono HB15.out.size))
          clear hb16
          go_wp2_with fail
          refine lexQ_more (Hof.out _ HB16.out) ?_
          refine lexW_light 2 (by kernel_rfl) ?_
          simp only [List.take_succ_cons, List.take_zero, List.drop_succ_cons, List.drop_zero]
          repeat (first | go_big_quiet_skip | (go_big_quiet_want; go_big_quiet_op; go_big_quiet_on))
          refine wpQuiet_nil ?_
          refine lexW_done ?_
          clear xe0 xe1 xe2 xe3 xe4 xe5 xe6 xe7 xe8 xe9 xe10 xe11 xe12 xf0 xf1 xf2 xf3 xf4 xf5 xf6 xf7 xf8 xf9 xf10 xf11 xf12 xg0 xg1 xg2 xg3 xg4 xg5 xg6 xg7 xg8 xg9 xg10 xg11 xg12
          go_wp2_with fail
          go_ret
          exact ⟨rfl, HS12.out.below.trans (HB16.out.mono HS12.out.below.size)⟩
        | true =>
          refine wp_region_lexA ⟨[], []⟩ (fun x => Below w12.heap.size w12 x) (by kernel_rfl) (by kernel_rfl) (Below.refl _ _).drew ?_
          intro S hto hof hne
          have hxe := HM12.out
          have e0 := cell_of hxe 0
          have e1 := cell_of hxe 1
          have e2 := cell_of hxe 2
          have e3 := cell_of hxe 3
          have e4 := cell_of hxe 4
          have e5 := cell_of hxe 5
          have e6 := cell_of hxe 6
          have e7 := cell_of hxe 7
          have e8 := cell_of hxe 8
          have e9 := cell_of hxe 9
          have e10 := cell_of hxe 10
          have e11 := cell_of hxe 11
          have e12 := cell_of hxe 12
          simp only [List.getElem?_toArray, List.getElem?_cons_zero, List.getElem?_cons_succ] at e0 e1 e2 e3 e4 e5 e6 e7 e8 e9 e10 e11 e12
          have hle := (Array.getElem?_eq_some_iff.1 hxe).1
          have xe0 : ∀ z : Wd S, z.w.cell? ⟨h12, 0, none⟩ = some (.int .i64 a1) := fun z => ((hto z).cell (p := ⟨h12, 0, none⟩) hle).trans e0
          have xe1 : ∀ z : Wd S, z.w.cell? ⟨h12, 1, none⟩ = some (.int .i64 a2) := fun z => ((hto z).cell (p := ⟨h12, 1, none⟩) hle).trans e1
          have xe2 : ∀ z : Wd S, z.w.cell? ⟨h12, 2, none⟩ = some (.int .i64 a3) := fun z => ((hto z).cell (p := ⟨h12, 2, none⟩) hle).trans e2
          have xe3 : ∀ z : Wd S, z.w.cell? ⟨h12, 3, none⟩ = some (.int .i64 a4) := fun z => ((hto z).cell (p := ⟨h12, 3, none⟩) hle).trans e3
          have xe4 : ∀ z : Wd S, z.w.cell? ⟨h12, 4, none⟩ = some (.int .i64 a5) := fun z => ((hto z).cell (p := ⟨h12, 4, none⟩) hle).trans e4
          have xe5 : ∀ z : Wd S, z.w.cell? ⟨h12, 5, none⟩ = some (.int .i64 a6) := fun z => ((hto z).cell (p := ⟨h12, 5, none⟩) hle).trans e5
          have xe6 : ∀ z : Wd S, z.w.cell? ⟨h12, 6, none⟩ = some (.int .i64 a7) := fun z => ((hto z).cell (p := ⟨h12, 6, none⟩) hle).trans e6
          have xe7 : ∀ z : Wd S, z.w.cell? ⟨h12, 7, none⟩ = some (.int .u32 a8) := fun z => ((hto z).cell (p := ⟨h12, 7, none⟩) hle).trans e7
          have xe8 : ∀ z : Wd S, z.w.cell? ⟨h12, 8, none⟩ = some (.int .u32 a9) := fun z => ((hto z).cell (p := ⟨h12, 8, none⟩) hle).trans e8
          have xe9 : ∀ z : Wd S, z.w.cell? ⟨h12, 9, none⟩ = some (.int .u32 a10) := fun z => ((hto z).cell (p := ⟨h12, 9, none⟩) hle).trans e9
          have xe10 : ∀ z : Wd S, z.w.cell? ⟨h12, 10, none⟩ = some (.int .u32 a11) := fun z => ((hto z).cell (p := ⟨h12, 10, none⟩) hle).trans e10
          have xe11 : ∀ z : Wd S, z.w.cell? ⟨h12, 11, none⟩ = some (.int .u32 a12) := fun z => ((hto z).cell (p := ⟨h12, 11, none⟩) hle).trans e11
          have xe12 : ∀ z : Wd S, z.w.cell? ⟨h12, 12, none⟩ = some (.bool a13) := fun z => ((hto z).cell (p := ⟨h12, 12, none⟩) hle).trans e12
          clear hxe hle e0 e1 e2 e3 e4 e5 e6 e7 e8 e9 e10 e11 e12
          have hxf := HS12.out.m
          have f0 := cell_of hxf 0
          have f1 := cell_of hxf 1
          have f2 := cell_of hxf 2
          have f3 := cell_of hxf 3
          have f4 := cell_of hxf 4
          have f5 := cell_of hxf 5
          have f6 := cell_of hxf 6
          have f7 := cell_of hxf 7
          have f8 := cell_of hxf 8
          have f9 := cell_of hxf 9
          have f10 := cell_of hxf 10
          have f11 := cell_of hxf 11
          have f12 := cell_of hxf 12
          simp only [List.getElem?_toArray, List.getElem?_cons_zero, List.getElem?_cons_succ] at f0 f1 f2 f3 f4 f5 f6 f7 f8 f9 f10 f11 f12
          have hlf := (Array.getElem?_eq_some_iff.1 hxf).1
          have xf0 : ∀ z : Wd S, z.w.cell? ⟨h4, 0, none⟩ = some (.int .i64 a1) := fun z => ((hto z).cell (p := ⟨h4, 0, none⟩) hlf).trans f0
          have xf1 : ∀ z : Wd S, z.w.cell? ⟨h4, 1, none⟩ = some (.int .i64 a2) := fun z => ((hto z).cell (p := ⟨h4, 1, none⟩) hlf).trans f1
          have xf2 : ∀ z : Wd S, z.w.cell? ⟨h4, 2, none⟩ = some (.int .i64 a3) := fun z => ((hto z).cell (p := ⟨h4, 2, none⟩) hlf).trans f2
          have xf3 : ∀ z : Wd S, z.w.cell? ⟨h4, 3, none⟩ = some (.int .i64 a4) := fun z => ((hto z).cell (p := ⟨h4, 3, none⟩) hlf).trans f3
          have xf4 : ∀ z : Wd S, z.w.cell? ⟨h4, 4, none⟩ = some (.int .i64 a5) := fun z => ((hto z).cell (p := ⟨h4, 4, none⟩) hlf).trans f4
          have xf5 : ∀ z : Wd S, z.w.cell? ⟨h4, 5, none⟩ = some (.int .i64 a6) := fun z => ((hto z).cell (p := ⟨h4, 5, none⟩) hlf).trans f5
          have xf6 : ∀ z : Wd S, z.w.cell? ⟨h4, 6, none⟩ = some (.int .i64 a7) := fun z => ((hto z).cell (p := ⟨h4, 6, none⟩) hlf).trans f6
          have xf7 : ∀ z : Wd S, z.w.cell? ⟨h4, 7, none⟩ = some (.int .u32 a8) := fun z => ((hto z).cell (p := ⟨h4, 7, none⟩) hlf).trans f7
          have xf8 : ∀ z : Wd S, z.w.cell? ⟨h4, 8, none⟩ = some (.int .u32 a9) := fun z => ((hto z).cell (p := ⟨h4, 8, none⟩) hlf).trans f8
          have xf9 : ∀ z : Wd S, z.w.cell? ⟨h4, 9, none⟩ = some (.int .u32 a10) := fun z => ((hto z).cell (p := ⟨h4, 9, none⟩) hlf).trans f9
          have xf10 : ∀ z : Wd S, z.w.cell? ⟨h4, 10, none⟩ = some (.int .u32 a11) := fun z => ((hto z).cell (p := ⟨h4, 10, none⟩) hlf).trans f10
          have xf11 : ∀ z : Wd S, z.w.cell? ⟨h4, 11, none⟩ = some (.int .u32 a12) := fun z => ((hto z).cell (p := ⟨h4, 11, none⟩) hlf).trans f11
          have xf12 : ∀ z : Wd S, z.w.cell? ⟨h4, 12, none⟩ = some (.bool a13) := fun z => ((hto z).cell (p := ⟨h4, 12, none⟩) hlf).trans f12
          clear hxf hlf f0 f1 f2 f3 f4 f5 f6 f7 f8 f9 f10 f11 f12
          have hxg := HS12.out.n
          have g0 := cell_of hxg 0
          have g1 := cell_of hxg 1
          have g2 := cell_of hxg 2
          have g3 := cell_of hxg 3
          have g4 := cell_of hxg 4
          have g5 := cell_of hxg 5
          have g6 := cell_of hxg 6
          have g7 := cell_of hxg 7
          have g8 := cell_of hxg 8
          have g9 := cell_of hxg 9
          have g10 := cell_of hxg 10
          have g11 := cell_of hxg 11
          have g12 := cell_of hxg 12
          simp only [List.getElem?_toArray, List.getElem?_cons_zero, List.getElem?_cons_succ] at g0 g1 g2 g3 g4 g5 g6 g7 g8 g9 g10 g11 g12
          have hlg := (Array.getElem?_eq_some_iff.1 hxg).1
          have xg0 : ∀ z : Wd S, z.w.cell? ⟨h5, 0, none⟩ = some (.int .i64 b1) := fun z => ((hto z).cell (p := ⟨h5, 0, none⟩) hlg).trans g0
          have xg1 : ∀ z : Wd S, z.w.cell? ⟨h5, 1, none⟩ = some (.int .i64 b2) := fun z => ((hto z).cell (p := ⟨h5, 1, none⟩) hlg).trans g1
          have xg2 : ∀ z : Wd S, z.w.cell? ⟨h5, 2, none⟩ = some (.int .i64 b3) := fun z => ((hto z).cell (p := ⟨h5, 2, none⟩) hlg).trans g2
          have xg3 : ∀ z : Wd S, z.w.cell? ⟨h5, 3, none⟩ = some (.int .i64 b4) := fun z => ((hto z).cell (p := ⟨h5, 3, none⟩) hlg).trans g3
          have xg4 : ∀ z : Wd S, z.w.cell? ⟨h5, 4, none⟩ = some (.int .i64 b5) := fun z => ((hto z).cell (p := ⟨h5, 4, none⟩) hlg).trans g4
          have xg5 : ∀ z : Wd S, z.w.cell? ⟨h5, 5, none⟩ = some (.int .i64 b6) := fun z => ((hto z).cell (p := ⟨h5, 5, none⟩) hlg).trans g5
          have xg6 : ∀ z : Wd S, z.w.cell? ⟨h5, 6, none⟩ = some (.int .i64 b7) := fun z => ((hto z).cell (p := ⟨h5, 6, none⟩) hlg).trans g6
          have xg7 : ∀ z : Wd S, z.w.cell? ⟨h5, 7, none⟩ = some (.int .u32 b8) := fun z => ((hto z).cell (p := ⟨h5, 7, none⟩) hlg).trans g7
          have xg8 : ∀ z : Wd S, z.w.cell? ⟨h5, 8, none⟩ = some (.int .u32 b9) := fun z => ((hto z).cell (p := ⟨h5, 8, none⟩) hlg).trans g8
          have xg9 : ∀ z : Wd S, z.w.cell? ⟨h5, 9, none⟩ = some (.int .u32 b10) := fun z => ((hto z).cell (p := ⟨h5, 9, none⟩) hlg).trans g9
          have xg10 : ∀ z : Wd S, z.w.cell? ⟨h5, 10, none⟩ = some (.int .u32 b11) := fun z => ((hto z).cell (p := ⟨h5, 10, none⟩) hlg).trans g10
          have xg11 : ∀ z : Wd S, z.w.cell? ⟨h5, 11, none⟩ = some (.int .u32 b12) := fun z => ((hto z).cell (p := ⟨h5, 11, none⟩) hlg).trans g11
          have xg12 : ∀ z : Wd S, z.w.cell? ⟨h5, 12, none⟩ = some (.bool b13) := fun z => ((hto z).cell (p := ⟨h5, 12, none⟩) hlg).trans g12
          clear hxg hlg g0 g1 g2 g3 g4 g5 g6 g7 g8 g9 g10 g11 g12
          have Hof := Lib.hid hof
          clear hto hof
          refine lexW_light 13 (by kernel_rfl) ?_
          simp only [List.take_succ_cons, List.take_zero, List.drop_succ_cons, List.drop_zero]
          repeat (first | go_big_quiet_skip | (go_big_quiet_want; go_big_quiet_op; go_big_quiet_on))
          refine wpQuiet_nil ?_
          refine lexW_heavy (by kernel_rfl) ?_
          go_wp2_with fail
          refine (mright_c ⟨b1, b2, b3, b4, b5, b6, b7, b8, b9, b10, b11, b12, b13⟩ w12.drew).mono ?_
          rintro ev w13 ⟨rfl, hb13⟩
          rw [HRN.out]
          have HB13 := Lib.hid ((Below.refl w12.heap.size w12).drew.trans hb13)
          clear hb13
          go_wp2_with fail
          refine lexQ_more (Hof.out _ HB13.out) ?_
          refine lexW_light 4 (by kernel_rfl) ?_
          simp only [List.take_succ_cons, List.take_zero, List.drop_succ_cons, List.drop_zero]
          repeat (first | go_big_quiet_skip | (go_big_quiet_want; go_big_quiet_op; go_big_quiet_on))
          refine wpQuiet_nil ?_
          refine lexW_heavy (by kernel_rfl) ?_
          go_wp2_with fail
          refine (mput_c ⟨b1, b2, b3, b4, b5, b6, b7, b8, b9, b10, b11, b12, b13⟩ w13 HFN.out).mono ?_
          rintro ev w14 ⟨u14, rfl, hu14, hb14⟩
          rw [HPN.out] at hu14
          obtain ⟨ap14, cp14, rfl⟩ := hu14.len
          have HU14 := Lib.hid hu14.slc
          have HB14 := Lib.hid (HB13.out.trans (hb14.mono HB13.out.size))
          clear hu14 hb14
          go_wp2_with fail
          refine lexQ_more (Hof.out _ HB14.out) ?_
          refine lexW_heavy (by kernel_rfl) ?_
          go_wp2_with fail
          refine (sameG_c P (encM ⟨b1, b2, b3, b4, b5, b6, b7, b8, b9, b10, b11, b12, b13⟩) _ _ w14 (HU12.out.below HB14.out) HU14.out (by have := HNL.out; omega) (by have := encM_len HFN.out; omega)).mono ?_
          rintro ev w15 ⟨rfl, hb15⟩
          rw [HDQ.out]
          have HB15 := Lib.hid (HB14.out.trans (hb15.mono HB14.out.size))
          clear hb15
          go_wp2_with fail
          refine lexQ_more (Hof.out _ HB15.out) ?_
          refine lexW_light 7 (by kernel_rfl) ?_
          simp only [List.take_succ_cons, List.take_zero, List.drop_succ_cons, List.drop_zero]
          repeat (first | go_big_quiet_skip | (go_big_quiet_want; go_big_quiet_op; go_big_quiet_on))
          refine wpQuiet_nil ?_
          refine lexW_heavy (by kernel_rfl) ?_
          go_wp2_with fail
          refine (msgRuns A w15 (HSE.out.below (HS12.out.below.trans (HB15.out.mono HS12.out.below.size)))).mono ?_
          rintro ev w16 ⟨rfl, hb16⟩
          have HB16 := Lib.hid (HB15.out.trans (hb16.mono HB15.out.size))
          clear hb16
          go_wp2_with fail
          refine lexQ_more (Hof.out _ HB16.out) ?_
          refine lexW_light 2 (by kernel_rfl) ?_
          simp only [List.take_succ_cons, List.take_zero, List.drop_succ_cons, List.drop_zero]
          repeat (first | go_big_quiet_skip | (go_big_quiet_want; go_big_quiet_op; go_big_quiet_on))
          refine wpQuiet_nil ?_
          refine lexW_done ?_
          clear xe0 xe1 xe2 xe3 xe4 xe5 xe6 xe7 xe8 xe9 xe10 xe11 xe12 xf0 xf1 xf2 xf3 xf4 xf5 xf6 xf7 xf8 xf9 xf10 xf11 xf12 xg0 xg1 xg2 xg3 xg4 xg5 xg6 xg7 xg8 xg9 xg10 xg11 xg12
          go_wp2_with fail
          go_ret
          exact ⟨rfl, HS12.out.below.trans (HB16.out.mono HS12.out.below.size)⟩
end Go.Proofs.YtpljdbcifaeblaaDoor
