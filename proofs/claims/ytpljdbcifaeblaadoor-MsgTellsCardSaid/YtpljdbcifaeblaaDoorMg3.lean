/- msg.Get. -/
import Derived.Test.YtpljdbcifaeblaaDoorMg1
import Derived.Test.YtpljdbcifaeblaaDoorPg5
import Derived.Test.YtpljdbcifaeblaaDoorMgS
import Derived.Deep.Cut
import Derived.Deep.CutRange
import Derived.Deep.CutBlock
namespace Go.Proofs.YtpljdbcifaeblaaDoor
open Go.RowKit Go.Extern.Stop Go.Stop Go.Extern

def getB (L : List Nat) (K C N : Int) (s : Nat × ErrT) : MsgV × Nat × ErrT :=
  let w := rdF L s (mgW K) 0 3
  let v := rdF L w.2 (mgW K) 0 4294967295
  let e := rdF L v.2 (mg9 K) 0 255
  let o := rdF L e.2 (mgM K) 0 3
  let p := rdF L o.2 (mgD K) 0 255
  let t := rdF L p.2 (mgS K) 0 4
  let h := rdF L t.2 (mgS K) 0 1
  (⟨K, C, N, t.1, o.1, e.1 + p.1, w.1, v.1, 0, 0, 0, 0, h.1 == 1⟩, h.2)
def getC (L : List Nat) (m : MsgV) (s : Nat × ErrT) : MsgV × Nat × ErrT :=
  let x := rdF L s m.has 0 4294967295
  let y := rdF L x.2 m.has 0 4294967295
  let z := rdF L y.2 m.has 0 4294967295
  let q := rdF L z.2 m.has 0 4294967295
  (⟨m.kind, m.core, m.line, m.state, m.mode, m.epoch, m.word, m.val, x.1, y.1, z.1, q.1, m.has⟩, q.2)
theorem getM_parts {L : List Nat} {K C N : Int} {s s1 s2 s3 s4 s5 : Nat × ErrT} {m m2 : MsgV} (h1 : stepR L s.1 s.2 (inOk 1 15) = (K, s1)) (h2 : stepR L s1.1 s1.2 (inOk 0 63) = (C, s2)) (h3 : stepR L s2.1 s2.2 (inOk 0 31) = (N, s3)) (h4 : getB L K C N s3 = (m, s4)) (h5 : getC L m s4 = (m2, s5)) : getM L s = (m2, s5) := by
  have e : getM L s = getC L (getB L (rdF L s true 1 15).1 (rdF L (rdF L s true 1 15).2 true 0 63).1 (rdF L (rdF L (rdF L s true 1 15).2 true 0 63).2 true 0 31).1 (rdF L (rdF L (rdF L s true 1 15).2 true 0 63).2 true 0 31).2).1 (getB L (rdF L s true 1 15).1 (rdF L (rdF L s true 1 15).2 true 0 63).1 (rdF L (rdF L (rdF L s true 1 15).2 true 0 63).2 true 0 31).1 (rdF L (rdF L (rdF L s true 1 15).2 true 0 63).2 true 0 31).2).2 := rfl
  rw [e, show rdF L s true 1 15 = (K, s1) from h1]
  simp only
  rw [show rdF L s1 true 0 63 = (C, s2) from h2]
  simp only
  rw [show rdF L s2 true 0 31 = (N, s3) from h3]
  simp only
  rw [h4]
  exact h5
def setD (k : Nat) (d : Int × Int × Int × Int) (n : Int) : Int × Int × Int × Int := match k with
  | 0 => (n, d.2)
  | 1 => (d.1, n, d.2.2)
  | 2 => (d.1, d.2.1, n, d.2.2.2)
  | _ => (d.1, d.2.1, d.2.2.1, n)
def getDs (L : List Nat) (s : Nat × ErrT) : Nat → (Int × Int × Int × Int) × Nat × ErrT
  | 0 => ((0, 0, 0, 0), s)
  | k + 1 => (setD k (getDs L s k).1 (stepR L (getDs L s k).2.1 (getDs L s k).2.2 (inOk 0 4294967295)).1, (stepR L (getDs L s k).2.1 (getDs L s k).2.2 (inOk 0 4294967295)).2)
theorem getDs_more {L : List Nat} {s : Nat × ErrT} {k : Nat} {d : Int × Int × Int × Int} {a a2 : Nat} {e e2 : ErrT} {n : Int} (h : getDs L s k = (d, a, e)) (h2 : stepR L a e (inOk 0 4294967295) = (n, a2, e2)) : getDs L s (k + 1) = (setD k d n, a2, e2) := by
  simp only [getDs, h, h2]
theorem getC_false (L : List Nat) (K C N t o ep w v : Int) (s : Nat × ErrT) : getC L ⟨K, C, N, t, o, ep, w, v, 0, 0, 0, 0, false⟩ s = (⟨K, C, N, t, o, ep, w, v, 0, 0, 0, 0, false⟩, s) := rfl
theorem getC_true {L : List Nat} {K C N t o ep w v x y z q : Int} {s s2 : Nat × ErrT} (h : getDs L s 4 = ((x, y, z, q), s2)) : getC L ⟨K, C, N, t, o, ep, w, v, 0, 0, 0, 0, true⟩ s = (⟨K, C, N, t, o, ep, w, v, x, y, z, q, true⟩, s2) := by
  simp only [getDs, setD, Prod.mk.injEq] at h
  obtain ⟨⟨h1, h2, h3, h4⟩, h5⟩ := h
  rw [← h1, ← h2, ← h3, ← h4, ← h5]
  rfl

/-- Ahead of the message: the reader and the result's cell. -/
structure GS0 (w : World) (A : Nat → Addr) (b : Nat) (v : Value) (L : List Nat) (h2 at_ : Nat) (e : ErrT) (wx : World) : Prop where
  rd : RdAt wx A b v L at_ e
  res : wx.heap[h2]? = some (.cells #[.int .i64 0, .int .i64 0, .int .i64 0, .int .i64 0, .int .i64 0, .int .i64 0, .int .i64 0, .int .u32 0, .int .u32 0, .int .u32 0, .int .u32 0, .int .u32 0, .bool false] 54 (0, 0))
  below : Below w.heap.size w wx
  lo : w.heap.size ≤ b ∧ w.heap.size ≤ h2
  ne : b ≠ h2
  vl : 0 < L.length → ∀ g, v.ownBlock = some g → g ≠ h2
/-- The reader, the message so far, the result's cell. -/
structure GSt (w : World) (A : Nat → Addr) (b : Nat) (v : Value) (L : List Nat) (h2 h5 : Nat) (M : MsgV) (at_ : Nat) (e : ErrT) (wx : World) : Prop where
  rd : RdAt wx A b v L at_ e
  msg : wx.heap[h5]? = some (.cells #[.int .i64 M.kind, .int .i64 M.core, .int .i64 M.line, .int .i64 M.state, .int .i64 M.mode, .int .i64 M.epoch, .int .i64 M.word, .int .u32 M.val, .int .u32 M.d0, .int .u32 M.d1, .int .u32 M.d2, .int .u32 M.d3, .bool M.has] 54 (0, 0))
  res : wx.heap[h2]? = some (.cells #[.int .i64 0, .int .i64 0, .int .i64 0, .int .i64 0, .int .i64 0, .int .i64 0, .int .i64 0, .int .u32 0, .int .u32 0, .int .u32 0, .int .u32 0, .int .u32 0, .bool false] 54 (0, 0))
  below : Below w.heap.size w wx
  lo : w.heap.size ≤ b ∧ w.heap.size ≤ h2 ∧ w.heap.size ≤ h5
  ne : b ≠ h5 ∧ b ≠ h2 ∧ h2 ≠ h5
  vl : 0 < L.length → ∀ g, v.ownBlock = some g → g ≠ h5 ∧ g ≠ h2
section
variable {w wr w1 wz : World} {A : Nat → Addr} {b : Nat} {v : Value} {L : List Nat} {h2 h5 at_ at2 : Nat} {e e2 : ErrT} {M : MsgV}
theorem GS0.read (h : GS0 w A b v L h2 at_ e wr) (hr : RdAt w1 A b v L at2 e2) (hm : Mods (onlyS b) wr w1) : GS0 w A b v L h2 at2 e2 w1 :=
  ⟨hr, (hm.block h2 (Array.getElem?_eq_some_iff.1 h.res).1 fun (x : h2 = b) => h.ne x.symm).trans h.res, h.below.trans (hm.below h.below.size fun k (hk : k = b) => by have := h.lo.1; omega), h.lo, h.ne, h.vl⟩
theorem GSt.read (h : GSt w A b v L h2 h5 M at_ e wr) (hr : RdAt w1 A b v L at2 e2) (hm : Mods (onlyS b) wr w1) : GSt w A b v L h2 h5 M at2 e2 w1 :=
  ⟨hr, (hm.block h5 (Array.getElem?_eq_some_iff.1 h.msg).1 fun (x : h5 = b) => h.ne.1 x.symm).trans h.msg, (hm.block h2 (Array.getElem?_eq_some_iff.1 h.res).1 fun (x : h2 = b) => h.ne.2.1 x.symm).trans h.res, h.below.trans (hm.below h.below.size fun k (hk : k = b) => by have := h.lo.1; omega), h.lo, h.ne, h.vl⟩
theorem GSt.bel (h : GSt w A b v L h2 h5 M at_ e wr) (hb : Below wr.heap.size wr w1) : GSt w A b v L h2 h5 M at_ e w1 :=
  ⟨h.rd.below hb, (hb.block h5 (Array.getElem?_eq_some_iff.1 h.msg).1).trans h.msg, (hb.block h2 (Array.getElem?_eq_some_iff.1 h.res).1).trans h.res, h.below.trans (hb.mono h.below.size), h.lo, h.ne, h.vl⟩
theorem GS0.msg (h : GS0 w A b v L h2 at_ e wr) (M : MsgV) : GSt w A b v L h2 wr.heap.size M at_ e (wr.alloc (.cells #[.int .i64 M.kind, .int .i64 M.core, .int .i64 M.line, .int .i64 M.state, .int .i64 M.mode, .int .i64 M.epoch, .int .i64 M.word, .int .u32 M.val, .int .u32 M.d0, .int .u32 M.d1, .int .u32 M.d2, .int .u32 M.d3, .bool M.has] 54)) := by
  have hb : Below wr.heap.size wr (wr.alloc (.cells #[.int .i64 M.kind, .int .i64 M.core, .int .i64 M.line, .int .i64 M.state, .int .i64 M.mode, .int .i64 M.epoch, .int .i64 M.word, .int .u32 M.val, .int .u32 M.d0, .int .u32 M.d1, .int .u32 M.d2, .int .u32 M.d3, .bool M.has] 54)) := (Below.refl _ _).alloc (Nat.le_refl _) _
  have hl := h.rd.lt
  have hr := (Array.getElem?_eq_some_iff.1 h.res).1
  exact ⟨h.rd.below hb, heap_alloc_new _ _, (hb.block h2 hr).trans h.res, h.below.trans (hb.mono h.below.size), ⟨h.lo.1, h.lo.2, h.below.size⟩, ⟨by omega, h.ne, by omega⟩, fun hL g hg => ⟨by have := h.rd.row.own_lt hL g hg; omega, h.vl hL g hg⟩⟩
theorem GSt.set {M' : MsgV} (h : GSt w A b v L h2 h5 M at_ e wr) (hM : Mods (fun q => q = h5) wr wz) (hb : wz.heap[h5]? = some (.cells #[.int .i64 M'.kind, .int .i64 M'.core, .int .i64 M'.line, .int .i64 M'.state, .int .i64 M'.mode, .int .i64 M'.epoch, .int .i64 M'.word, .int .u32 M'.val, .int .u32 M'.d0, .int .u32 M'.d1, .int .u32 M'.d2, .int .u32 M'.d3, .bool M'.has] 54 (0, 0))) : GSt w A b v L h2 h5 M' at_ e wz :=
  ⟨h.rd.keepQ hM (fun (x : b = h5) => h.ne.1 x) fun hL g hg (x : g = h5) => (h.vl hL g hg).1 x, hb, (hM.block h2 (Array.getElem?_eq_some_iff.1 h.res).1 fun (x : h2 = h5) => h.ne.2.2 x).trans h.res, h.below.trans (hM.below h.below.size fun k (hk : k = h5) => by have := h.lo.2.2; omega), h.lo, h.ne, h.vl⟩
end

set_option maxRecDepth 100000 in
set_option maxHeartbeats 8000000 in
theorem mget_c (A : Nat → Addr) (v0 : Value) (L : List Nat) (w : World) (hs : SentAt w A) (hv : slc w 1 v0 L.length (byteV L)) (hbig : L.length ≤ 140737488355320) (hbyt : ∀ c ∈ L, c < 256) :
    Calls Tryd.prog 30 #[v0] w fun ev w' => ev = .returned (.tuple #[(tellM L).1.v, (tellM L).2.val A]) ∧ Below w.heap.size w w' := by
  have HSE := Lib.hid hs
  have HV := Lib.hid hv
  have HBG := Lib.hid hbig
  have HBY := Lib.hid hbyt
  obtain ⟨_, ad0, cap0, rfl, _⟩ := hv
  have hX := heap_alloc_new w (.cells #[.int .i64 0, .int .i64 0, .int .i64 0, .int .i64 0, .int .i64 0, .int .i64 0, .int .i64 0, .int .u32 0, .int .u32 0, .int .u32 0, .int .u32 0, .int .u32 0, .bool false] 54)
  have hba : Below w.heap.size w (w.alloc (.cells #[.int .i64 0, .int .i64 0, .int .i64 0, .int .i64 0, .int .i64 0, .int .i64 0, .int .i64 0, .int .u32 0, .int .u32 0, .int .u32 0, .int .u32 0, .int .u32 0, .bool false] 54)) := (Below.refl _ _).alloc (Nat.le_refl _) _
  have HX := Lib.hid hX
  have HBA := Lib.hid hba
  clear hs hX hba hbig hbyt
  go_enter Tryd.func30, Tryd.ntmps30
  go_wp2_with fail
  refine (read_c A _ L (w.alloc (.cells #[.int .i64 0, .int .i64 0, .int .i64 0, .int .i64 0, .int .i64 0, .int .i64 0, .int .i64 0, .int .u32 0, .int .u32 0, .int .u32 0, .int .u32 0, .int .u32 0, .bool false] 54)) (HV.out.below HBA.out) HBG.out HBY.out).mono ?_
  rintro ev w1 ⟨b, v, rfl, hr, hbl, hvb, hb1⟩
  have HG := Lib.hid (show GS0 w A b v L w.heap.size 0 .nil w1 from by
    have hbl : w.heap.size + 1 ≤ b := by simpa using hbl
    have hvb : ∀ g, v.ownBlock = some g → w.heap.size + 1 ≤ g := fun g hg => by simpa using hvb g hg
    exact ⟨hr, (hb1.block w.heap.size (by simp)).trans HX.out, HBA.out.trans (hb1.mono HBA.out.size), ⟨by omega, Nat.le_refl _⟩, by omega, fun _ g hg => by have := hvb g hg; omega⟩)
  clear hr hbl hvb hb1 HX HBA HV
  obtain ⟨h2, hh2⟩ : ∃ h2, h2 = w.heap.size := ⟨_, rfl⟩
  rw [← hh2] at HG ⊢
  clear hh2
  go_wp2_with fail
  refine (rin_c A b v L 0 .nil 1 15 w1 (HSE.out.below HG.out.below) HG.out.rd).mono ?_
  rintro ev w2 ⟨rfl, hr, hm⟩
  have hV := step_in L 0 .nil 1 15
  generalize hst : stepR L 0 .nil (inOk 1 15) = st at *
  obtain ⟨K, at1, e1⟩ := st
  simp only at hr hV ⊢
  have HK1 := Lib.hid hst
  have HG1 := Lib.hid (HG.out.read hr hm)
  have lbK : 0 ≤ K := by omega
  have ubK : K ≤ 15 := by omega
  clear hst hr hm hV
  go_wp2_with fail
  refine (rin_c A b v L at1 e1 0 63 w2 (HSE.out.below HG1.out.below) HG1.out.rd).mono ?_
  rintro ev w3 ⟨rfl, hr, hm⟩
  have hV := step_in L at1 e1 0 63
  generalize hst : stepR L at1 e1 (inOk 0 63) = st at *
  obtain ⟨C, at2, e2⟩ := st
  simp only at hr hV ⊢
  have HK2 := Lib.hid hst
  have HG2 := Lib.hid (HG1.out.read hr hm)
  have lbC : 0 ≤ C := by omega
  have ubC : C ≤ 63 := by omega
  clear hst hr hm hV
  go_wp2_with fail
  refine (rin_c A b v L at2 e2 0 31 w3 (HSE.out.below HG2.out.below) HG2.out.rd).mono ?_
  rintro ev w4 ⟨rfl, hr, hm⟩
  have hV := step_in L at2 e2 0 31
  generalize hst : stepR L at2 e2 (inOk 0 31) = st at *
  obtain ⟨N, at3, e3⟩ := st
  simp only at hr hV ⊢
  have HK3 := Lib.hid hst
  have HG3 := Lib.hid (HG2.out.read hr hm)
  have lbN : 0 ≤ N := by omega
  have ubN : N ≤ 31 := by omega
  clear hst hr hm hV
  go_upto_region 3 with fail
  have HG0 := Lib.hid (HG3.out.msg ⟨K, C, N, 0, 0, 0, 0, 0, 0, 0, 0, 0, false⟩)
  obtain ⟨h5, hh5⟩ : ∃ h5, h5 = w4.heap.size := ⟨_, rfl⟩
  rw [← hh5] at HG0 ⊢
  simp only at HG0
  generalize w4.alloc (.cells #[.int .i64 K, .int .i64 C, .int .i64 N, .int .i64 0, .int .i64 0, .int .i64 0, .int .i64 0, .int .u32 0, .int .u32 0, .int .u32 0, .int .u32 0, .int .u32 0, .bool false] 54) = w5 at *
  clear hh5 HG HG1 HG2 HG3 lbK ubK lbC ubC lbN ubN
  have hxm := HG0.out.msg
  have q0 := cell_of hxm 0
  simp only [List.getElem?_toArray, List.getElem?_cons_zero] at q0
  have hlx := (Array.getElem?_eq_some_iff.1 hxm).1
  go_upto_block 0 with fail
  clear hxm hlx q0
  go_cut [19] from 20 to 56 (fun _ wx => ∃ (t o ep wd vv : Int) (has : Bool) (a : Nat) (e : ErrT), getB L K C N (at3, e3) = (⟨K, C, N, t, o, ep, wd, vv, 0, 0, 0, 0, has⟩, a, e) ∧ GSt w A b v L h2 h5 ⟨K, C, N, t, o, ep, wd, vv, 0, 0, 0, 0, has⟩ a e wx)
  case first =>
    by_cases kh3 : K = 3
    · subst kh3
      go_wp2_with fail
      refine (rin_c A b v L at3 e3 0 3 w5 (HSE.out.below HG0.out.below) HG0.out.rd).mono ?_
      rintro ev wr1 ⟨rfl, hr, hm⟩
      have hV := step_in L at3 e3 0 3
      generalize hst : stepR L at3 e3 (inOk 0 3) = st at *
      obtain ⟨wd, ar1, er1⟩ := st
      simp only at hr hV ⊢
      have HE1 := Lib.hid hst
      have HR1 := Lib.hid (HG0.out.read hr hm)
      have lbwd : 0 ≤ wd := by omega
      have ubwd : wd ≤ 3 := by omega
      clear hst hr hm hV
      go_wp2_with fail
      refine (rin_c A b v L ar1 er1 0 4294967295 wr1 (HSE.out.below HR1.out.below) HR1.out.rd).mono ?_
      rintro ev wr2 ⟨rfl, hr, hm⟩
      have hV := step_in L ar1 er1 0 4294967295
      generalize hst : stepR L ar1 er1 (inOk 0 4294967295) = st at *
      obtain ⟨vv, ar2, er2⟩ := st
      simp only at hr hV ⊢
      have HE2 := Lib.hid hst
      have HR2 := Lib.hid (HR1.out.read hr hm)
      have lbvv : 0 ≤ vv := by omega
      have ubvv : vv ≤ 4294967295 := by omega
      clear hst hr hm hV
      have HT2 := Lib.hid (show GSt w A b v L h2 h5 ⟨3, C, N, 0, 0, 0, wd, vv, 0, 0, 0, 0, false⟩ ar2 er2 ((wr2.setCell ⟨h5, 6, none⟩ (.int .i64 wd)).setCell ⟨h5, 7, none⟩ (.int .u32 vv)) from HR2.out.set (((Mods.refl (fun q => q = h5) wr2).setCell (p := ⟨h5, 6, none⟩) rfl _).setCell (p := ⟨h5, 7, none⟩) rfl _) ((heap_setCell_at (k := 7) ((heap_setCell_at (k := 6) (HR2.out.msg) _).trans rfl) _).trans rfl))
      have hxm := HR2.out.msg
      have q6 := cell_of hxm 6
      have q7 := cell_of hxm 7
      simp only [List.getElem?_toArray, List.getElem?_cons_zero, List.getElem?_cons_succ] at q6 q7
      have hlx := (Array.getElem?_eq_some_iff.1 hxm).1
      have z6 := frozen_of hxm 6
      have z7 := frozen_of hxm 7
      go_wp2_with fail
      go_meet
      case rel => exact ⟨0, 0, 0, wd, vv, false, ar2, er2, by simp [getB, rdF, mgW, mgM, mg9, mgD, mgS, HE1.out, HE2.out], HT2.out⟩
    have g3 : (K == 3) = false := by simpa using kh3
    by_cases kh8 : K = 8
    · subst kh8
      go_wp2_with fail
      refine (rin_c A b v L at3 e3 0 3 w5 (HSE.out.below HG0.out.below) HG0.out.rd).mono ?_
      rintro ev wr1 ⟨rfl, hr, hm⟩
      have hV := step_in L at3 e3 0 3
      generalize hst : stepR L at3 e3 (inOk 0 3) = st at *
      obtain ⟨wd, ar1, er1⟩ := st
      simp only at hr hV ⊢
      have HE1 := Lib.hid hst
      have HR1 := Lib.hid (HG0.out.read hr hm)
      have lbwd : 0 ≤ wd := by omega
      have ubwd : wd ≤ 3 := by omega
      clear hst hr hm hV
      go_wp2_with fail
      refine (rin_c A b v L ar1 er1 0 4294967295 wr1 (HSE.out.below HR1.out.below) HR1.out.rd).mono ?_
      rintro ev wr2 ⟨rfl, hr, hm⟩
      have hV := step_in L ar1 er1 0 4294967295
      generalize hst : stepR L ar1 er1 (inOk 0 4294967295) = st at *
      obtain ⟨vv, ar2, er2⟩ := st
      simp only at hr hV ⊢
      have HE2 := Lib.hid hst
      have HR2 := Lib.hid (HR1.out.read hr hm)
      have lbvv : 0 ≤ vv := by omega
      have ubvv : vv ≤ 4294967295 := by omega
      clear hst hr hm hV
      have HT2 := Lib.hid (show GSt w A b v L h2 h5 ⟨8, C, N, 0, 0, 0, wd, vv, 0, 0, 0, 0, false⟩ ar2 er2 ((wr2.setCell ⟨h5, 6, none⟩ (.int .i64 wd)).setCell ⟨h5, 7, none⟩ (.int .u32 vv)) from HR2.out.set (((Mods.refl (fun q => q = h5) wr2).setCell (p := ⟨h5, 6, none⟩) rfl _).setCell (p := ⟨h5, 7, none⟩) rfl _) ((heap_setCell_at (k := 7) ((heap_setCell_at (k := 6) (HR2.out.msg) _).trans rfl) _).trans rfl))
      have hxm := HR2.out.msg
      have q6 := cell_of hxm 6
      have q7 := cell_of hxm 7
      simp only [List.getElem?_toArray, List.getElem?_cons_zero, List.getElem?_cons_succ] at q6 q7
      have hlx := (Array.getElem?_eq_some_iff.1 hxm).1
      have z6 := frozen_of hxm 6
      have z7 := frozen_of hxm 7
      go_wp2_with fail
      go_meet
      case rel => exact ⟨0, 0, 0, wd, vv, false, ar2, er2, by simp [getB, rdF, mgW, mgM, mg9, mgD, mgS, HE1.out, HE2.out], HT2.out⟩
    have g8 : (K == 8) = false := by simpa using kh8
    by_cases kh14 : K = 14
    · subst kh14
      go_wp2_with fail
      refine (rin_c A b v L at3 e3 0 3 w5 (HSE.out.below HG0.out.below) HG0.out.rd).mono ?_
      rintro ev wr1 ⟨rfl, hr, hm⟩
      have hV := step_in L at3 e3 0 3
      generalize hst : stepR L at3 e3 (inOk 0 3) = st at *
      obtain ⟨wd, ar1, er1⟩ := st
      simp only at hr hV ⊢
      have HE1 := Lib.hid hst
      have HR1 := Lib.hid (HG0.out.read hr hm)
      have lbwd : 0 ≤ wd := by omega
      have ubwd : wd ≤ 3 := by omega
      clear hst hr hm hV
      go_wp2_with fail
      refine (rin_c A b v L ar1 er1 0 4294967295 wr1 (HSE.out.below HR1.out.below) HR1.out.rd).mono ?_
      rintro ev wr2 ⟨rfl, hr, hm⟩
      have hV := step_in L ar1 er1 0 4294967295
      generalize hst : stepR L ar1 er1 (inOk 0 4294967295) = st at *
      obtain ⟨vv, ar2, er2⟩ := st
      simp only at hr hV ⊢
      have HE2 := Lib.hid hst
      have HR2 := Lib.hid (HR1.out.read hr hm)
      have lbvv : 0 ≤ vv := by omega
      have ubvv : vv ≤ 4294967295 := by omega
      clear hst hr hm hV
      have HT2 := Lib.hid (show GSt w A b v L h2 h5 ⟨14, C, N, 0, 0, 0, wd, vv, 0, 0, 0, 0, false⟩ ar2 er2 ((wr2.setCell ⟨h5, 6, none⟩ (.int .i64 wd)).setCell ⟨h5, 7, none⟩ (.int .u32 vv)) from HR2.out.set (((Mods.refl (fun q => q = h5) wr2).setCell (p := ⟨h5, 6, none⟩) rfl _).setCell (p := ⟨h5, 7, none⟩) rfl _) ((heap_setCell_at (k := 7) ((heap_setCell_at (k := 6) (HR2.out.msg) _).trans rfl) _).trans rfl))
      have hxm := HR2.out.msg
      have q6 := cell_of hxm 6
      have q7 := cell_of hxm 7
      simp only [List.getElem?_toArray, List.getElem?_cons_zero, List.getElem?_cons_succ] at q6 q7
      have hlx := (Array.getElem?_eq_some_iff.1 hxm).1
      have z6 := frozen_of hxm 6
      have z7 := frozen_of hxm 7
      go_wp2_with fail
      go_meet
      case rel => exact ⟨0, 0, 0, wd, vv, false, ar2, er2, by simp [getB, rdF, mgW, mgM, mg9, mgD, mgS, HE1.out, HE2.out], HT2.out⟩
    have g14 : (K == 14) = false := by simpa using kh14
    by_cases kh9 : K = 9
    · subst kh9
      go_wp2_with fail
      refine (rin_c A b v L at3 e3 0 255 w5 (HSE.out.below HG0.out.below) HG0.out.rd).mono ?_
      rintro ev wr1 ⟨rfl, hr, hm⟩
      have hV := step_in L at3 e3 0 255
      generalize hst : stepR L at3 e3 (inOk 0 255) = st at *
      obtain ⟨ep, ar1, er1⟩ := st
      simp only at hr hV ⊢
      have HE1 := Lib.hid hst
      have HR1 := Lib.hid (HG0.out.read hr hm)
      have lbep : 0 ≤ ep := by omega
      have ubep : ep ≤ 255 := by omega
      clear hst hr hm hV
      have HT1 := Lib.hid (show GSt w A b v L h2 h5 ⟨9, C, N, 0, 0, ep, 0, 0, 0, 0, 0, 0, false⟩ ar1 er1 (wr1.setCell ⟨h5, 5, none⟩ (.int .i64 ep)) from HR1.out.set ((Mods.refl (fun q => q = h5) wr1).setCell (p := ⟨h5, 5, none⟩) rfl _) ((heap_setCell_at (k := 5) (HR1.out.msg) _).trans rfl))
      have hxm := HR1.out.msg
      have q5 := cell_of hxm 5
      simp only [List.getElem?_toArray, List.getElem?_cons_zero, List.getElem?_cons_succ] at q5
      have hlx := (Array.getElem?_eq_some_iff.1 hxm).1
      have z5 := frozen_of hxm 5
      go_wp2_with fail
      clear hxm hlx q5 z5
      refine (rin_c A b v L ar1 er1 0 3 (wr1.setCell ⟨h5, 5, none⟩ (.int .i64 ep)) (HSE.out.below HT1.out.below) HT1.out.rd).mono ?_
      rintro ev wr2 ⟨rfl, hr, hm⟩
      have hV := step_in L ar1 er1 0 3
      generalize hst : stepR L ar1 er1 (inOk 0 3) = st at *
      obtain ⟨o, ar2, er2⟩ := st
      simp only at hr hV ⊢
      have HE2 := Lib.hid hst
      have HR2 := Lib.hid (HT1.out.read hr hm)
      have lbo : 0 ≤ o := by omega
      have ubo : o ≤ 3 := by omega
      clear hst hr hm hV
      have HT2 := Lib.hid (show GSt w A b v L h2 h5 ⟨9, C, N, 0, o, ep, 0, 0, 0, 0, 0, 0, false⟩ ar2 er2 (wr2.setCell ⟨h5, 4, none⟩ (.int .i64 o)) from HR2.out.set ((Mods.refl (fun q => q = h5) wr2).setCell (p := ⟨h5, 4, none⟩) rfl _) ((heap_setCell_at (k := 4) (HR2.out.msg) _).trans rfl))
      have hxm := HR2.out.msg
      have q4 := cell_of hxm 4
      simp only [List.getElem?_toArray, List.getElem?_cons_zero, List.getElem?_cons_succ] at q4
      have hlx := (Array.getElem?_eq_some_iff.1 hxm).1
      have z4 := frozen_of hxm 4
      go_wp2_with fail
      go_meet
      case rel => exact ⟨0, o, ep, 0, 0, false, ar2, er2, by simp [getB, rdF, mgW, mgM, mg9, mgD, mgS, HE1.out, HE2.out], HT2.out⟩
    have g9 : (K == 9) = false := by simpa using kh9
    by_cases kh5 : K = 5
    · subst kh5
      go_wp2_with fail
      refine (rin_c A b v L at3 e3 0 3 w5 (HSE.out.below HG0.out.below) HG0.out.rd).mono ?_
      rintro ev wr1 ⟨rfl, hr, hm⟩
      have hV := step_in L at3 e3 0 3
      generalize hst : stepR L at3 e3 (inOk 0 3) = st at *
      obtain ⟨o, ar1, er1⟩ := st
      simp only at hr hV ⊢
      have HE1 := Lib.hid hst
      have HR1 := Lib.hid (HG0.out.read hr hm)
      have lbo : 0 ≤ o := by omega
      have ubo : o ≤ 3 := by omega
      clear hst hr hm hV
      have HT1 := Lib.hid (show GSt w A b v L h2 h5 ⟨5, C, N, 0, o, 0, 0, 0, 0, 0, 0, 0, false⟩ ar1 er1 (wr1.setCell ⟨h5, 4, none⟩ (.int .i64 o)) from HR1.out.set ((Mods.refl (fun q => q = h5) wr1).setCell (p := ⟨h5, 4, none⟩) rfl _) ((heap_setCell_at (k := 4) (HR1.out.msg) _).trans rfl))
      have hxm := HR1.out.msg
      have q4 := cell_of hxm 4
      simp only [List.getElem?_toArray, List.getElem?_cons_zero, List.getElem?_cons_succ] at q4
      have hlx := (Array.getElem?_eq_some_iff.1 hxm).1
      have z4 := frozen_of hxm 4
      go_wp2_with fail
      go_meet
      case rel => exact ⟨0, o, 0, 0, 0, false, ar1, er1, by simp [getB, rdF, mgW, mgM, mg9, mgD, mgS, HE1.out], HT1.out⟩
    have g5 : (K == 5) = false := by simpa using kh5
    by_cases kh13 : K = 13
    · subst kh13
      go_wp2_with fail
      refine (rin_c A b v L at3 e3 0 3 w5 (HSE.out.below HG0.out.below) HG0.out.rd).mono ?_
      rintro ev wr1 ⟨rfl, hr, hm⟩
      have hV := step_in L at3 e3 0 3
      generalize hst : stepR L at3 e3 (inOk 0 3) = st at *
      obtain ⟨o, ar1, er1⟩ := st
      simp only at hr hV ⊢
      have HE1 := Lib.hid hst
      have HR1 := Lib.hid (HG0.out.read hr hm)
      have lbo : 0 ≤ o := by omega
      have ubo : o ≤ 3 := by omega
      clear hst hr hm hV
      go_wp2_with fail
      refine (rin_c A b v L ar1 er1 0 255 wr1 (HSE.out.below HR1.out.below) HR1.out.rd).mono ?_
      rintro ev wr2 ⟨rfl, hr, hm⟩
      have hV := step_in L ar1 er1 0 255
      generalize hst : stepR L ar1 er1 (inOk 0 255) = st at *
      obtain ⟨ep, ar2, er2⟩ := st
      simp only at hr hV ⊢
      have HE2 := Lib.hid hst
      have HR2 := Lib.hid (HR1.out.read hr hm)
      have lbep : 0 ≤ ep := by omega
      have ubep : ep ≤ 255 := by omega
      clear hst hr hm hV
      have HT2 := Lib.hid (show GSt w A b v L h2 h5 ⟨13, C, N, 0, o, ep, 0, 0, 0, 0, 0, 0, false⟩ ar2 er2 ((wr2.setCell ⟨h5, 4, none⟩ (.int .i64 o)).setCell ⟨h5, 5, none⟩ (.int .i64 ep)) from HR2.out.set (((Mods.refl (fun q => q = h5) wr2).setCell (p := ⟨h5, 4, none⟩) rfl _).setCell (p := ⟨h5, 5, none⟩) rfl _) ((heap_setCell_at (k := 5) ((heap_setCell_at (k := 4) (HR2.out.msg) _).trans rfl) _).trans rfl))
      have hxm := HR2.out.msg
      have q4 := cell_of hxm 4
      have q5 := cell_of hxm 5
      simp only [List.getElem?_toArray, List.getElem?_cons_zero, List.getElem?_cons_succ] at q4 q5
      have hlx := (Array.getElem?_eq_some_iff.1 hxm).1
      have z4 := frozen_of hxm 4
      have z5 := frozen_of hxm 5
      go_wp2_with fail
      clear hxm hlx q4 q5 z4 z5
      refine (rin_c A b v L ar2 er2 0 4 ((wr2.setCell ⟨h5, 4, none⟩ (.int .i64 o)).setCell ⟨h5, 5, none⟩ (.int .i64 ep)) (HSE.out.below HT2.out.below) HT2.out.rd).mono ?_
      rintro ev wr3 ⟨rfl, hr, hm⟩
      have hV := step_in L ar2 er2 0 4
      generalize hst : stepR L ar2 er2 (inOk 0 4) = st at *
      obtain ⟨t, ar3, er3⟩ := st
      simp only at hr hV ⊢
      have HE3 := Lib.hid hst
      have HR3 := Lib.hid (HT2.out.read hr hm)
      have lbt : 0 ≤ t := by omega
      have ubt : t ≤ 4 := by omega
      clear hst hr hm hV
      have HT3 := Lib.hid (show GSt w A b v L h2 h5 ⟨13, C, N, t, o, ep, 0, 0, 0, 0, 0, 0, false⟩ ar3 er3 (wr3.setCell ⟨h5, 3, none⟩ (.int .i64 t)) from HR3.out.set ((Mods.refl (fun q => q = h5) wr3).setCell (p := ⟨h5, 3, none⟩) rfl _) ((heap_setCell_at (k := 3) (HR3.out.msg) _).trans rfl))
      have hxm := HR3.out.msg
      have q3 := cell_of hxm 3
      simp only [List.getElem?_toArray, List.getElem?_cons_zero, List.getElem?_cons_succ] at q3
      have hlx := (Array.getElem?_eq_some_iff.1 hxm).1
      have z3 := frozen_of hxm 3
      go_wp2_with fail
      clear hxm hlx q3 z3
      refine (rin_c A b v L ar3 er3 0 1 (wr3.setCell ⟨h5, 3, none⟩ (.int .i64 t)) (HSE.out.below HT3.out.below) HT3.out.rd).mono ?_
      rintro ev wr4 ⟨rfl, hr, hm⟩
      have hV := step_in L ar3 er3 0 1
      generalize hst : stepR L ar3 er3 (inOk 0 1) = st at *
      obtain ⟨hh, ar4, er4⟩ := st
      simp only at hr hV ⊢
      have HE4 := Lib.hid hst
      have HR4 := Lib.hid (HT3.out.read hr hm)
      have lbhh : 0 ≤ hh := by omega
      have ubhh : hh ≤ 1 := by omega
      clear hst hr hm hV
      have HT4 := Lib.hid (show GSt w A b v L h2 h5 ⟨13, C, N, t, o, ep, 0, 0, 0, 0, 0, 0, (hh == 1)⟩ ar4 er4 (wr4.setCell ⟨h5, 12, none⟩ (.bool (hh == 1))) from HR4.out.set ((Mods.refl (fun q => q = h5) wr4).setCell (p := ⟨h5, 12, none⟩) rfl _) ((heap_setCell_at (k := 12) (HR4.out.msg) _).trans rfl))
      have hxm := HR4.out.msg
      have q12 := cell_of hxm 12
      simp only [List.getElem?_toArray, List.getElem?_cons_zero, List.getElem?_cons_succ] at q12
      have hlx := (Array.getElem?_eq_some_iff.1 hxm).1
      have z12 := frozen_of hxm 12
      go_wp2_with fail
      go_meet
      case rel => exact ⟨t, o, ep, 0, 0, (hh == 1), ar4, er4, by simp [getB, rdF, mgW, mgM, mg9, mgD, mgS, HE1.out, HE2.out, HE3.out, HE4.out], HT4.out⟩
    have g13 : (K == 13) = false := by simpa using kh13
    by_cases kh11 : K = 11
    · subst kh11
      go_wp2_with fail
      refine (rin_c A b v L at3 e3 0 4 w5 (HSE.out.below HG0.out.below) HG0.out.rd).mono ?_
      rintro ev wr1 ⟨rfl, hr, hm⟩
      have hV := step_in L at3 e3 0 4
      generalize hst : stepR L at3 e3 (inOk 0 4) = st at *
      obtain ⟨t, ar1, er1⟩ := st
      simp only at hr hV ⊢
      have HE1 := Lib.hid hst
      have HR1 := Lib.hid (HG0.out.read hr hm)
      have lbt : 0 ≤ t := by omega
      have ubt : t ≤ 4 := by omega
      clear hst hr hm hV
      have HT1 := Lib.hid (show GSt w A b v L h2 h5 ⟨11, C, N, t, 0, 0, 0, 0, 0, 0, 0, 0, false⟩ ar1 er1 (wr1.setCell ⟨h5, 3, none⟩ (.int .i64 t)) from HR1.out.set ((Mods.refl (fun q => q = h5) wr1).setCell (p := ⟨h5, 3, none⟩) rfl _) ((heap_setCell_at (k := 3) (HR1.out.msg) _).trans rfl))
      have hxm := HR1.out.msg
      have q3 := cell_of hxm 3
      simp only [List.getElem?_toArray, List.getElem?_cons_zero, List.getElem?_cons_succ] at q3
      have hlx := (Array.getElem?_eq_some_iff.1 hxm).1
      have z3 := frozen_of hxm 3
      go_wp2_with fail
      clear hxm hlx q3 z3
      refine (rin_c A b v L ar1 er1 0 1 (wr1.setCell ⟨h5, 3, none⟩ (.int .i64 t)) (HSE.out.below HT1.out.below) HT1.out.rd).mono ?_
      rintro ev wr2 ⟨rfl, hr, hm⟩
      have hV := step_in L ar1 er1 0 1
      generalize hst : stepR L ar1 er1 (inOk 0 1) = st at *
      obtain ⟨hh, ar2, er2⟩ := st
      simp only at hr hV ⊢
      have HE2 := Lib.hid hst
      have HR2 := Lib.hid (HT1.out.read hr hm)
      have lbhh : 0 ≤ hh := by omega
      have ubhh : hh ≤ 1 := by omega
      clear hst hr hm hV
      have HT2 := Lib.hid (show GSt w A b v L h2 h5 ⟨11, C, N, t, 0, 0, 0, 0, 0, 0, 0, 0, (hh == 1)⟩ ar2 er2 (wr2.setCell ⟨h5, 12, none⟩ (.bool (hh == 1))) from HR2.out.set ((Mods.refl (fun q => q = h5) wr2).setCell (p := ⟨h5, 12, none⟩) rfl _) ((heap_setCell_at (k := 12) (HR2.out.msg) _).trans rfl))
      have hxm := HR2.out.msg
      have q12 := cell_of hxm 12
      simp only [List.getElem?_toArray, List.getElem?_cons_zero, List.getElem?_cons_succ] at q12
      have hlx := (Array.getElem?_eq_some_iff.1 hxm).1
      have z12 := frozen_of hxm 12
      go_wp2_with fail
      go_meet
      case rel => exact ⟨t, 0, 0, 0, 0, (hh == 1), ar2, er2, by simp [getB, rdF, mgW, mgM, mg9, mgD, mgS, HE1.out, HE2.out], HT2.out⟩
    have g11 : (K == 11) = false := by simpa using kh11
    have HCL := Lib.hid (show mgW K = false ∧ mg9 K = false ∧ mgM K = false ∧ mgD K = false ∧ mgS K = false by
      refine ⟨?_, ?_, ?_, ?_, ?_⟩ <;> simp [mgW, mg9, mgM, mgD, mgS] <;> omega)
    clear kh3 kh8 kh14 kh9 kh5 kh13 kh11
    go_wp2_with fail
    go_meet
    case rel => exact ⟨0, 0, 0, 0, 0, false, at3, e3, by simp [getB, rdF, HCL.out], HG0.out⟩
  case rest =>
    obtain ⟨t, o, ep, wd, vv, has, a4, e4, hgb, hG⟩ := hcut
    have HGB := Lib.hid hgb
    have HG4 := Lib.hid hG
    clear hgb hG HG0
    generalize wc = w6 at *
    go_upto_block 6 with fail
    go_cut [6] from 57 to 68 (fun _ wx => ∃ (x y z q : Int) (a : Nat) (e : ErrT), getC L ⟨K, C, N, t, o, ep, wd, vv, 0, 0, 0, 0, has⟩ (a4, e4) = (⟨K, C, N, t, o, ep, wd, vv, x, y, z, q, has⟩, a, e) ∧ GSt w A b v L h2 h5 ⟨K, C, N, t, o, ep, wd, vv, x, y, z, q, has⟩ a e wx)
    case first =>
      cases has with
      | false =>
        go_wp2_with fail
        go_loopw [57] (fun s57 wr => ∃ (k : Nat) (i : Int), k ≤ 4 ∧ i = k ∧ s57 = .int .i64 i ∧ GSt w A b v L h2 h5 ⟨K, C, N, t, o, ep, wd, vv, 0, 0, 0, 0, false⟩ a4 e4 wr) (fun s57 _ => 4 - (intOf s57).toNat)
        case atStart => exact ⟨0, 0, by omega, rfl, rfl, HG4.out⟩
        case round =>
          obtain ⟨k, i, hk, hik, rfl, hS⟩ := hrel
          have HS := Lib.hid hS
          clear hS
          have i0 : 0 ≤ i := by omega
          have i4 : i ≤ 4 := by omega
          by_cases hi : i < 4
          · have g1 : decide (i < 4) = true := by simpa using hi
            have HI := Lib.hid (And.intro hik hi)
            clear hik hi
            have hxm := HS.out.msg
            have q12 := cell_of hxm 12
            simp only [List.getElem?_toArray, List.getElem?_cons_zero, List.getElem?_cons_succ] at q12
            have hlx := (Array.getElem?_eq_some_iff.1 hxm).1
            go_wp2_with fail
            go_roundw
            case rel => exact ⟨k + 1, i + 1, by have := HI.out; omega, by have := HI.out; omega, by go_num, HS.out⟩
            case measure => have := HI.out; simp [intOf] <;> omega
          · have g1 : decide (i < 4) = false := by simpa using hi
            go_wp2_with fail
            go_meet
            case rel => exact ⟨0, 0, 0, 0, a4, e4, getC_false L K C N t o ep wd vv (a4, e4), HS.out⟩
      | true =>
        go_wp2_with fail
        go_loopw [57] (fun s57 wr => ∃ (k : Nat) (i x y z q : Int) (a : Nat) (e : ErrT), k ≤ 4 ∧ i = k ∧ s57 = .int .i64 i ∧ getDs L (a4, e4) k = ((x, y, z, q), a, e) ∧ GSt w A b v L h2 h5 ⟨K, C, N, t, o, ep, wd, vv, x, y, z, q, true⟩ a e wr) (fun s57 _ => 4 - (intOf s57).toNat)
        case atStart => exact ⟨0, 0, 0, 0, 0, 0, a4, e4, by omega, rfl, rfl, rfl, HG4.out⟩
        case round =>
          obtain ⟨k, i, x, y, z, q, a, e, hk, hik, rfl, hd, hS⟩ := hrel
          have hk5 : k = 0 ∨ k = 1 ∨ k = 2 ∨ k = 3 ∨ k = 4 := by omega
          rcases hk5 with rfl | rfl | rfl | rfl | rfl
          · obtain rfl : i = 0 := by omega
            have HD := Lib.hid hd
            have HS := Lib.hid hS
            clear hS hd hik hk
            have hxm := HS.out.msg
            have q12 := cell_of hxm 12
            simp only [List.getElem?_toArray, List.getElem?_cons_zero, List.getElem?_cons_succ] at q12
            have hlx := (Array.getElem?_eq_some_iff.1 hxm).1
            go_wp2_with fail
            clear hxm hlx q12
            refine (rin_c A b v L a e 0 4294967295 wr (HSE.out.below HS.out.below) HS.out.rd).mono ?_
            rintro ev w8 ⟨rfl, hr, hm⟩
            have hV := step_in L a e 0 4294967295
            generalize hst : stepR L a e (inOk 0 4294967295) = st at *
            obtain ⟨n, a8, e8⟩ := st
            simp only at hr hV ⊢
            have HN := Lib.hid hst
            have HS8 := Lib.hid (HS.out.read hr hm)
            have lbn : 0 ≤ n := by omega
            have ubn : n ≤ 4294967295 := by omega
            clear hst hr hm hV
            have HT := Lib.hid (show GSt w A b v L h2 h5 ⟨K, C, N, t, o, ep, wd, vv, n, y, z, q, true⟩ a8 e8 (w8.setCell ⟨h5, 8, none⟩ (.int .u32 n)) from HS8.out.set ((Mods.refl (fun q => q = h5) w8).setCell (p := ⟨h5, 8, none⟩) rfl _) ((heap_setCell_at (k := 8) (HS8.out.msg) _).trans rfl))
            have hxm := HS8.out.msg
            have q8 := cell_of hxm 8
            simp only [List.getElem?_toArray, List.getElem?_cons_zero, List.getElem?_cons_succ] at q8
            have hlx := (Array.getElem?_eq_some_iff.1 hxm).1
            have z8 := frozen_of hxm 8
            go_wp2_with fail
            go_roundw
            case rel => exact ⟨1, 1, n, y, z, q, a8, e8, by omega, rfl, by go_num, getDs_more HD.out HN.out, HT.out⟩
            case measure => simp [intOf]
          · obtain rfl : i = 1 := by omega
            have HD := Lib.hid hd
            have HS := Lib.hid hS
            clear hS hd hik hk
            have hxm := HS.out.msg
            have q12 := cell_of hxm 12
            simp only [List.getElem?_toArray, List.getElem?_cons_zero, List.getElem?_cons_succ] at q12
            have hlx := (Array.getElem?_eq_some_iff.1 hxm).1
            go_wp2_with fail
            clear hxm hlx q12
            refine (rin_c A b v L a e 0 4294967295 wr (HSE.out.below HS.out.below) HS.out.rd).mono ?_
            rintro ev w8 ⟨rfl, hr, hm⟩
            have hV := step_in L a e 0 4294967295
            generalize hst : stepR L a e (inOk 0 4294967295) = st at *
            obtain ⟨n, a8, e8⟩ := st
            simp only at hr hV ⊢
            have HN := Lib.hid hst
            have HS8 := Lib.hid (HS.out.read hr hm)
            have lbn : 0 ≤ n := by omega
            have ubn : n ≤ 4294967295 := by omega
            clear hst hr hm hV
            have HT := Lib.hid (show GSt w A b v L h2 h5 ⟨K, C, N, t, o, ep, wd, vv, x, n, z, q, true⟩ a8 e8 (w8.setCell ⟨h5, 9, none⟩ (.int .u32 n)) from HS8.out.set ((Mods.refl (fun q => q = h5) w8).setCell (p := ⟨h5, 9, none⟩) rfl _) ((heap_setCell_at (k := 9) (HS8.out.msg) _).trans rfl))
            have hxm := HS8.out.msg
            have q9 := cell_of hxm 9
            simp only [List.getElem?_toArray, List.getElem?_cons_zero, List.getElem?_cons_succ] at q9
            have hlx := (Array.getElem?_eq_some_iff.1 hxm).1
            have z9 := frozen_of hxm 9
            go_wp2_with fail
            go_roundw
            case rel => exact ⟨2, 2, x, n, z, q, a8, e8, by omega, rfl, by go_num, getDs_more HD.out HN.out, HT.out⟩
            case measure => simp [intOf]
          · obtain rfl : i = 2 := by omega
            have HD := Lib.hid hd
            have HS := Lib.hid hS
            clear hS hd hik hk
            have hxm := HS.out.msg
            have q12 := cell_of hxm 12
            simp only [List.getElem?_toArray, List.getElem?_cons_zero, List.getElem?_cons_succ] at q12
            have hlx := (Array.getElem?_eq_some_iff.1 hxm).1
            go_wp2_with fail
            clear hxm hlx q12
            refine (rin_c A b v L a e 0 4294967295 wr (HSE.out.below HS.out.below) HS.out.rd).mono ?_
            rintro ev w8 ⟨rfl, hr, hm⟩
            have hV := step_in L a e 0 4294967295
            generalize hst : stepR L a e (inOk 0 4294967295) = st at *
            obtain ⟨n, a8, e8⟩ := st
            simp only at hr hV ⊢
            have HN := Lib.hid hst
            have HS8 := Lib.hid (HS.out.read hr hm)
            have lbn : 0 ≤ n := by omega
            have ubn : n ≤ 4294967295 := by omega
            clear hst hr hm hV
            have HT := Lib.hid (show GSt w A b v L h2 h5 ⟨K, C, N, t, o, ep, wd, vv, x, y, n, q, true⟩ a8 e8 (w8.setCell ⟨h5, 10, none⟩ (.int .u32 n)) from HS8.out.set ((Mods.refl (fun q => q = h5) w8).setCell (p := ⟨h5, 10, none⟩) rfl _) ((heap_setCell_at (k := 10) (HS8.out.msg) _).trans rfl))
            have hxm := HS8.out.msg
            have q10 := cell_of hxm 10
            simp only [List.getElem?_toArray, List.getElem?_cons_zero, List.getElem?_cons_succ] at q10
            have hlx := (Array.getElem?_eq_some_iff.1 hxm).1
            have z10 := frozen_of hxm 10
            go_wp2_with fail
            go_roundw
            case rel => exact ⟨3, 3, x, y, n, q, a8, e8, by omega, rfl, by go_num, getDs_more HD.out HN.out, HT.out⟩
            case measure => simp [intOf]
          · obtain rfl : i = 3 := by omega
            have HD := Lib.hid hd
            have HS := Lib.hid hS
            clear hS hd hik hk
            have hxm := HS.out.msg
            have q12 := cell_of hxm 12
            simp only [List.getElem?_toArray, List.getElem?_cons_zero, List.getElem?_cons_succ] at q12
            have hlx := (Array.getElem?_eq_some_iff.1 hxm).1
            go_wp2_with fail
            clear hxm hlx q12
            refine (rin_c A b v L a e 0 4294967295 wr (HSE.out.below HS.out.below) HS.out.rd).mono ?_
            rintro ev w8 ⟨rfl, hr, hm⟩
            have hV := step_in L a e 0 4294967295
            generalize hst : stepR L a e (inOk 0 4294967295) = st at *
            obtain ⟨n, a8, e8⟩ := st
            simp only at hr hV ⊢
            have HN := Lib.hid hst
            have HS8 := Lib.hid (HS.out.read hr hm)
            have lbn : 0 ≤ n := by omega
            have ubn : n ≤ 4294967295 := by omega
            clear hst hr hm hV
            have HT := Lib.hid (show GSt w A b v L h2 h5 ⟨K, C, N, t, o, ep, wd, vv, x, y, z, n, true⟩ a8 e8 (w8.setCell ⟨h5, 11, none⟩ (.int .u32 n)) from HS8.out.set ((Mods.refl (fun q => q = h5) w8).setCell (p := ⟨h5, 11, none⟩) rfl _) ((heap_setCell_at (k := 11) (HS8.out.msg) _).trans rfl))
            have hxm := HS8.out.msg
            have q11 := cell_of hxm 11
            simp only [List.getElem?_toArray, List.getElem?_cons_zero, List.getElem?_cons_succ] at q11
            have hlx := (Array.getElem?_eq_some_iff.1 hxm).1
            have z11 := frozen_of hxm 11
            go_wp2_with fail
            go_roundw
            case rel => exact ⟨4, 4, x, y, z, n, a8, e8, by omega, rfl, by go_num, getDs_more HD.out HN.out, HT.out⟩
            case measure => simp [intOf]
          · obtain rfl : i = 4 := by omega
            have HD := Lib.hid hd
            have HS := Lib.hid hS
            clear hS hd hik hk
            go_wp2_with fail
            go_meet
            case rel => exact ⟨x, y, z, q, a, e, getC_true HD.out, HS.out⟩
    case rest =>
      obtain ⟨x, y, z, q, a5, e5, hgc, hG⟩ := hcut
      have HG5 := Lib.hid hG
      have HGM := Lib.hid (getM_parts (s := (0, .nil)) (s1 := (at1, e1)) (s2 := (at2, e2)) (s3 := (at3, e3)) (s4 := (a4, e4)) (s5 := (a5, e5)) HK1.out HK2.out HK3.out HGB.out hgc)
      clear hgc hG HG4
      generalize wc = w7 at *
      go_wp2_with fail
      refine (rend_c A b v L a5 e5 w7 (HSE.out.below HG5.out.below) HG5.out.rd).mono ?_
      rintro ev w8 ⟨rfl, hr, hm⟩
      have HG8 := Lib.hid (HG5.out.read hr hm)
      clear hr hm
      obtain ⟨E, hE⟩ : ∃ E, endE L a5 e5 = E := ⟨_, rfl⟩
      have HE := Lib.hid hE
      rw [hE] at HG8 ⊢
      clear hE HG5
      cases hn : E.isNil with
      | false =>
        have HTL := Lib.hid (show tellM L = (zeroM, .wrap mtT 0 E) by unfold tellM; rw [HGM.out]; simp only [HE.out, hn]; rfl)
        obtain ⟨t2, u2, hev⟩ := E.val_iface A hn
        have hne := fun w => run_neq_iface_nil (P := Tryd.prog) (w := w) 24 (by kernel_rfl) t2 u2
        have HN := Lib.hid hn
        have HEV := Lib.hid hev
        rw [hev]
        clear hn hev
        go_wp2_with fail
        rw [← HEV.out]
        refine (wrap_c A mtT 0 E w8).mono ?_
        rintro e w' ⟨rfl, hww⟩
        obtain rfl := hww.symm
        rw [show wrapE mtT 0 E = .wrap mtT 0 E by unfold wrapE; rw [HN.out]; rfl]
        have hxr := HG8.out.res
        have r0 := cell_of hxr 0
        have r1 := cell_of hxr 1
        have r2 := cell_of hxr 2
        have r3 := cell_of hxr 3
        have r4 := cell_of hxr 4
        have r5 := cell_of hxr 5
        have r6 := cell_of hxr 6
        have r7 := cell_of hxr 7
        have r8 := cell_of hxr 8
        have r9 := cell_of hxr 9
        have r10 := cell_of hxr 10
        have r11 := cell_of hxr 11
        have r12 := cell_of hxr 12
        simp only [List.getElem?_toArray, List.getElem?_cons_zero, List.getElem?_cons_succ] at r0 r1 r2 r3 r4 r5 r6 r7 r8 r9 r10 r11 r12
        have hlr := (Array.getElem?_eq_some_iff.1 hxr).1
        have z0 := frozen_of hxr 0
        have z1 := frozen_of hxr 1
        have z2 := frozen_of hxr 2
        have z3 := frozen_of hxr 3
        have z4 := frozen_of hxr 4
        have z5 := frozen_of hxr 5
        have z6 := frozen_of hxr 6
        have z7 := frozen_of hxr 7
        have z8 := frozen_of hxr 8
        have z9 := frozen_of hxr 9
        have z10 := frozen_of hxr 10
        have z11 := frozen_of hxr 11
        have z12 := frozen_of hxr 12
        go_wp2_with fail
        rw [← set13 w8 h2]
        have hz := block13 HG8.out.res (.int .i64 0) (.int .i64 0) (.int .i64 0) (.int .i64 0) (.int .i64 0) (.int .i64 0) (.int .i64 0) (.int .u32 0) (.int .u32 0) (.int .u32 0) (.int .u32 0) (.int .u32 0) (.bool false)
        have HBZ := Lib.hid (HG8.out.below.trans ((mods13 w8 h2 (.int .i64 0) (.int .i64 0) (.int .i64 0) (.int .i64 0) (.int .i64 0) (.int .i64 0) (.int .i64 0) (.int .u32 0) (.int .u32 0) (.int .u32 0) (.int .u32 0) (.int .u32 0) (.bool false)).below HG8.out.below.size fun k (hk : k = h2) => by have := HG8.out.lo.2.1; omega))
        clear hxr hlr r0 z0 r1 z1 r2 z2 r3 z3 r4 z4 r5 z5 r6 z6 r7 z7 r8 z8 r9 z9 r10 z10 r11 z11 r12 z12
        generalize w8.setCells h2 0 [.int .i64 0, .int .i64 0, .int .i64 0, .int .i64 0, .int .i64 0, .int .i64 0, .int .i64 0, .int .u32 0, .int .u32 0, .int .u32 0, .int .u32 0, .int .u32 0, .bool false] = wz at *
        have c0 := cell_of hz 0
        have c1 := cell_of hz 1
        have c2 := cell_of hz 2
        have c3 := cell_of hz 3
        have c4 := cell_of hz 4
        have c5 := cell_of hz 5
        have c6 := cell_of hz 6
        have c7 := cell_of hz 7
        have c8 := cell_of hz 8
        have c9 := cell_of hz 9
        have c10 := cell_of hz 10
        have c11 := cell_of hz 11
        have c12 := cell_of hz 12
        simp only [List.getElem?_toArray, List.getElem?_cons_zero, List.getElem?_cons_succ] at c0 c1 c2 c3 c4 c5 c6 c7 c8 c9 c10 c11 c12
        refine bodyPost_ret_by (v := .tuple #[.agg #[.int .i64 0, .int .i64 0, .int .i64 0, .int .i64 0, .int .i64 0, .int .i64 0, .int .i64 0, .int .u32 0, .int .u32 0, .int .u32 0, .int .u32 0, .int .u32 0, .bool false], (ErrT.wrap mtT 0 E).val A]) (by simp [results, Tryd.results30, go_sem, c0, c1, c2, c3, c4, c5, c6, c7, c8, c9, c10, c11, c12]) rfl ?_
        rw [HTL.out]
        exact ⟨rfl, HBZ.out⟩
      | true =>
        obtain rfl : E = .nil := by cases E <;> first | rfl | cases hn
        rw [show ErrT.nil.val A = .nilIface from rfl]
        clear hn
        have hxm := HG8.out.msg
        have q0 := cell_of hxm 0
        have q1 := cell_of hxm 1
        have q2 := cell_of hxm 2
        have q3 := cell_of hxm 3
        have q4 := cell_of hxm 4
        have q5 := cell_of hxm 5
        have q6 := cell_of hxm 6
        have q7 := cell_of hxm 7
        have q8 := cell_of hxm 8
        have q9 := cell_of hxm 9
        have q10 := cell_of hxm 10
        have q11 := cell_of hxm 11
        have q12 := cell_of hxm 12
        simp only [List.getElem?_toArray, List.getElem?_cons_zero, List.getElem?_cons_succ] at q0 q1 q2 q3 q4 q5 q6 q7 q8 q9 q10 q11 q12
        have hlx := (Array.getElem?_eq_some_iff.1 hxm).1
        go_wp2_with fail
        refine (mright_c ⟨K, C, N, t, o, ep, wd, vv, x, y, z, q, has⟩ w8).mono ?_
        rintro ev w9 ⟨rfl, hb9⟩
        have HG9 := Lib.hid (HG8.out.bel hb9)
        clear hb9 HG8 hxm hlx q0 q1 q2 q3 q4 q5 q6 q7 q8 q9 q10 q11 q12
        cases hr : rightM ⟨K, C, N, t, o, ep, wd, vv, x, y, z, q, has⟩ with
        | false =>
          have HTL := Lib.hid (show tellM L = (zeroM, .wrap mtT 0 (.sent 3)) by unfold tellM; rw [HGM.out]; simp only [HE.out]; rw [if_pos (show ErrT.nil.isNil = true from rfl), hr]; rfl)
          have hga := (HSE.out.below HG9.out.below).glob 3 (by omega)
          simp only [gnum] at hga
          clear hr
          go_wp2_with fail
          refine (wrap_c A mtT 0 (.sent 3) w9).mono ?_
          rintro e w' ⟨rfl, hww⟩
          obtain rfl := hww.symm
          rw [show wrapE mtT 0 (.sent 3) = .wrap mtT 0 (.sent 3) from rfl]
          have hxr := HG9.out.res
          have r0 := cell_of hxr 0
          have r1 := cell_of hxr 1
          have r2 := cell_of hxr 2
          have r3 := cell_of hxr 3
          have r4 := cell_of hxr 4
          have r5 := cell_of hxr 5
          have r6 := cell_of hxr 6
          have r7 := cell_of hxr 7
          have r8 := cell_of hxr 8
          have r9 := cell_of hxr 9
          have r10 := cell_of hxr 10
          have r11 := cell_of hxr 11
          have r12 := cell_of hxr 12
          simp only [List.getElem?_toArray, List.getElem?_cons_zero, List.getElem?_cons_succ] at r0 r1 r2 r3 r4 r5 r6 r7 r8 r9 r10 r11 r12
          have hlr := (Array.getElem?_eq_some_iff.1 hxr).1
          have z0 := frozen_of hxr 0
          have z1 := frozen_of hxr 1
          have z2 := frozen_of hxr 2
          have z3 := frozen_of hxr 3
          have z4 := frozen_of hxr 4
          have z5 := frozen_of hxr 5
          have z6 := frozen_of hxr 6
          have z7 := frozen_of hxr 7
          have z8 := frozen_of hxr 8
          have z9 := frozen_of hxr 9
          have z10 := frozen_of hxr 10
          have z11 := frozen_of hxr 11
          have z12 := frozen_of hxr 12
          go_wp2_with fail
          rw [← set13 w9 h2]
          have hz := block13 HG9.out.res (.int .i64 0) (.int .i64 0) (.int .i64 0) (.int .i64 0) (.int .i64 0) (.int .i64 0) (.int .i64 0) (.int .u32 0) (.int .u32 0) (.int .u32 0) (.int .u32 0) (.int .u32 0) (.bool false)
          have HBZ := Lib.hid (HG9.out.below.trans ((mods13 w9 h2 (.int .i64 0) (.int .i64 0) (.int .i64 0) (.int .i64 0) (.int .i64 0) (.int .i64 0) (.int .i64 0) (.int .u32 0) (.int .u32 0) (.int .u32 0) (.int .u32 0) (.int .u32 0) (.bool false)).below HG9.out.below.size fun k (hk : k = h2) => by have := HG9.out.lo.2.1; omega))
          clear hxr hlr r0 z0 r1 z1 r2 z2 r3 z3 r4 z4 r5 z5 r6 z6 r7 z7 r8 z8 r9 z9 r10 z10 r11 z11 r12 z12
          generalize w9.setCells h2 0 [.int .i64 0, .int .i64 0, .int .i64 0, .int .i64 0, .int .i64 0, .int .i64 0, .int .i64 0, .int .u32 0, .int .u32 0, .int .u32 0, .int .u32 0, .int .u32 0, .bool false] = wz at *
          have c0 := cell_of hz 0
          have c1 := cell_of hz 1
          have c2 := cell_of hz 2
          have c3 := cell_of hz 3
          have c4 := cell_of hz 4
          have c5 := cell_of hz 5
          have c6 := cell_of hz 6
          have c7 := cell_of hz 7
          have c8 := cell_of hz 8
          have c9 := cell_of hz 9
          have c10 := cell_of hz 10
          have c11 := cell_of hz 11
          have c12 := cell_of hz 12
          simp only [List.getElem?_toArray, List.getElem?_cons_zero, List.getElem?_cons_succ] at c0 c1 c2 c3 c4 c5 c6 c7 c8 c9 c10 c11 c12
          refine bodyPost_ret_by (v := .tuple #[.agg #[.int .i64 0, .int .i64 0, .int .i64 0, .int .i64 0, .int .i64 0, .int .i64 0, .int .i64 0, .int .u32 0, .int .u32 0, .int .u32 0, .int .u32 0, .int .u32 0, .bool false], (ErrT.wrap mtT 0 (.sent 3)).val A]) (by simp [results, Tryd.results30, go_sem, c0, c1, c2, c3, c4, c5, c6, c7, c8, c9, c10, c11, c12]) rfl ?_
          rw [HTL.out]
          exact ⟨rfl, HBZ.out⟩
        | true =>
          have HTL := Lib.hid (show tellM L = (⟨K, C, N, t, o, ep, wd, vv, x, y, z, q, has⟩, .nil) by unfold tellM; rw [HGM.out]; simp only [HE.out]; rw [if_pos (show ErrT.nil.isNil = true from rfl), hr]; rfl)
          clear hr
          have hxm := HG9.out.msg
          have q0 := cell_of hxm 0
          have q1 := cell_of hxm 1
          have q2 := cell_of hxm 2
          have q3 := cell_of hxm 3
          have q4 := cell_of hxm 4
          have q5 := cell_of hxm 5
          have q6 := cell_of hxm 6
          have q7 := cell_of hxm 7
          have q8 := cell_of hxm 8
          have q9 := cell_of hxm 9
          have q10 := cell_of hxm 10
          have q11 := cell_of hxm 11
          have q12 := cell_of hxm 12
          simp only [List.getElem?_toArray, List.getElem?_cons_zero, List.getElem?_cons_succ] at q0 q1 q2 q3 q4 q5 q6 q7 q8 q9 q10 q11 q12
          have hlx := (Array.getElem?_eq_some_iff.1 hxm).1
          have hxr := HG9.out.res
          have r0 := cell_of hxr 0
          have r1 := cell_of hxr 1
          have r2 := cell_of hxr 2
          have r3 := cell_of hxr 3
          have r4 := cell_of hxr 4
          have r5 := cell_of hxr 5
          have r6 := cell_of hxr 6
          have r7 := cell_of hxr 7
          have r8 := cell_of hxr 8
          have r9 := cell_of hxr 9
          have r10 := cell_of hxr 10
          have r11 := cell_of hxr 11
          have r12 := cell_of hxr 12
          simp only [List.getElem?_toArray, List.getElem?_cons_zero, List.getElem?_cons_succ] at r0 r1 r2 r3 r4 r5 r6 r7 r8 r9 r10 r11 r12
          have hlr := (Array.getElem?_eq_some_iff.1 hxr).1
          have z0 := frozen_of hxr 0
          have z1 := frozen_of hxr 1
          have z2 := frozen_of hxr 2
          have z3 := frozen_of hxr 3
          have z4 := frozen_of hxr 4
          have z5 := frozen_of hxr 5
          have z6 := frozen_of hxr 6
          have z7 := frozen_of hxr 7
          have z8 := frozen_of hxr 8
          have z9 := frozen_of hxr 9
          have z10 := frozen_of hxr 10
          have z11 := frozen_of hxr 11
          have z12 := frozen_of hxr 12
          go_wp2_with fail
          clear hxm hlx q0 q1 q2 q3 q4 q5 q6 q7 q8 q9 q10 q11 q12
          rw [← set13 w9 h2]
          have hz := block13 HG9.out.res (.int .i64 K) (.int .i64 C) (.int .i64 N) (.int .i64 t) (.int .i64 o) (.int .i64 ep) (.int .i64 wd) (.int .u32 vv) (.int .u32 x) (.int .u32 y) (.int .u32 z) (.int .u32 q) (.bool has)
          have HBZ := Lib.hid (HG9.out.below.trans ((mods13 w9 h2 (.int .i64 K) (.int .i64 C) (.int .i64 N) (.int .i64 t) (.int .i64 o) (.int .i64 ep) (.int .i64 wd) (.int .u32 vv) (.int .u32 x) (.int .u32 y) (.int .u32 z) (.int .u32 q) (.bool has)).below HG9.out.below.size fun k (hk : k = h2) => by have := HG9.out.lo.2.1; omega))
          clear hxr hlr r0 z0 r1 z1 r2 z2 r3 z3 r4 z4 r5 z5 r6 z6 r7 z7 r8 z8 r9 z9 r10 z10 r11 z11 r12 z12
          generalize w9.setCells h2 0 [.int .i64 K, .int .i64 C, .int .i64 N, .int .i64 t, .int .i64 o, .int .i64 ep, .int .i64 wd, .int .u32 vv, .int .u32 x, .int .u32 y, .int .u32 z, .int .u32 q, .bool has] = wz at *
          have c0 := cell_of hz 0
          have c1 := cell_of hz 1
          have c2 := cell_of hz 2
          have c3 := cell_of hz 3
          have c4 := cell_of hz 4
          have c5 := cell_of hz 5
          have c6 := cell_of hz 6
          have c7 := cell_of hz 7
          have c8 := cell_of hz 8
          have c9 := cell_of hz 9
          have c10 := cell_of hz 10
          have c11 := cell_of hz 11
          have c12 := cell_of hz 12
          simp only [List.getElem?_toArray, List.getElem?_cons_zero, List.getElem?_cons_succ] at c0 c1 c2 c3 c4 c5 c6 c7 c8 c9 c10 c11 c12
          refine bodyPost_ret_by (v := .tuple #[.agg #[.int .i64 K, .int .i64 C, .int .i64 N, .int .i64 t, .int .i64 o, .int .i64 ep, .int .i64 wd, .int .u32 vv, .int .u32 x, .int .u32 y, .int .u32 z, .int .u32 q, .bool has], .nilIface]) (by simp [results, Tryd.results30, go_sem, c0, c1, c2, c3, c4, c5, c6, c7, c8, c9, c10, c11, c12]) rfl ?_
          rw [HTL.out]
          exact ⟨rfl, HBZ.out⟩

end Go.Proofs.YtpljdbcifaeblaaDoor
