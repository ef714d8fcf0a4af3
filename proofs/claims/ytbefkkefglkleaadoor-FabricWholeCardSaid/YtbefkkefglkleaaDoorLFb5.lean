/- FabricHolds: true; no condition but what a start gives. -/
import Derived.Test.YtbefkkefglkleaaDoorFb5
import Derived.Test.YtbefkkefglkleaaDoorMfArg
namespace Go.Proofs.YtbefkkefglkleaaDoor
open Go.RowKit Go.Extern.Stop Go.Stop Go.Extern

theorem lenP_at {n : Int} {F : Plc → List MsgV} {p c : Int} (h : placeOk n p c = true) : lenP n F p c = ((F (placeP p c)).length : Int) := if_pos h
theorem lenP_off {n : Int} {F : Plc → List MsgV} {p c : Int} (h : placeOk n p c = false) : lenP n F p c = 0 := if_neg (by simp [h])
theorem lenP_b {n : Int} {F : Plc → List MsgV} {p c : Int} {k : Nat} (h : LeF F k) : 0 ≤ lenP n F p c ∧ lenP n F p c ≤ k := by
  cases ho : placeOk n p c with
  | true => rw [lenP_at ho]; have := h (placeP p c); omega
  | false => rw [lenP_off ho]; omega
theorem lenP_pos {n : Int} {F : Plc → List MsgV} {p c : Int} (h : 0 < lenP n F p c) : placeOk n p c = true := by
  cases ho : placeOk n p c with
  | true => rfl
  | false => rw [lenP_off ho] at h; omega
/-- One message that is sent. -/
structure OneIn (n : Int) (k : Nat) (F : Plc → List MsgV) (m : MsgV) : Prop where
  ok : placeOk n (poolM m.kind) m.core = true
  room : lenP n F (poolM m.kind) m.core < k
  put : sendF n k F [m] = updF F (plM m) (F (plM m) ++ [m])
  cnt : sentN n k F [m] = 1
  len : lenP n (sendF n k F [m]) (poolM m.kind) m.core = lenP n F (poolM m.kind) m.core + 1
  peek : peekP n (sendF n k F [m]) (poolM m.kind) m.core (lenP n F (poolM m.kind) m.core) = (m, true)
theorem one_in {n : Int} {k : Nat} {F : Plc → List MsgV} {m : MsgV} (h : fitsE n k F [m] = .nil) : OneIn n k F m := by
  obtain ⟨h1, h2⟩ := fits_inv h
  have hb : badM n m = false := h1 0 (by simp)
  have hf : fullB k F [m] 0 = false := h2 0 (by simp)
  simp only [badM, Bool.or_eq_false_iff, Bool.not_eq_false', decide_eq_false_iff_not] at hb
  have hr := (rightM_iff m).1 hb.1
  have ok : placeOk n (poolM m.kind) m.core = true := by
    have hk := hr.kind
    have hc := hr.core
    unfold placeOk poolM
    simp only [Bool.or_eq_true, Bool.and_eq_true, decide_eq_true_eq]
    repeat' split
    all_goals omega
  have hl : ((F (plM m)).length : Int) + 1 ≤ k := by
    unfold fullB at hf
    simp [cntP] at hf
    omega
  have e := lenP_at (F := F) ok
  obtain ⟨p1, p2⟩ := send_one h
  have e2 : lenP n (sendF n k F [m]) (poolM m.kind) m.core = lenP n F (poolM m.kind) m.core + 1 := by
    rw [lenP_at ok, e, p1]
    show ((updF F (plM m) (F (plM m) ++ [m]) (plM m)).length : Int) = _
    unfold updF
    rw [if_pos rfl, List.length_append]
    show (((F (plM m)).length + 1 : Nat) : Int) = ((F (plM m)).length : Int) + 1
    omega
  refine ⟨ok, by rw [e]; show ((F (plM m)).length : Int) < k; omega, p1, p2, e2, ?_⟩
  rw [e]
  refine (peek_at (q := plM m) ok rfl ?_).1
  rw [p1]
  unfold updF
  rw [if_pos rfl]
  show (F (plM m) ++ [m])[(F (plM m)).length]? = _
  rw [List.getElem?_append_right (Nat.le_refl _), Nat.sub_self]
  rfl
/-- One that is taken. -/
theorem one_out {n : Int} {F : Plc → List MsgV} {p c : Int} {a : Int} (h0 : 0 ≤ a) (h1 : a < lenP n F p c) : ∃ M, peekP n F p c a = (M, true) ∧ tookN n F p c a = 1 := by
  have ok := lenP_pos (show 0 < lenP n F p c by omega)
  rw [lenP_at ok] at h1
  obtain ⟨a, rfl⟩ := Int.eq_ofNat_of_zero_le h0
  obtain ⟨e1, _, e3⟩ := peek_at (q := placeP p c) (F := F) (k := a) ok rfl (List.getElem?_eq_getElem (by omega))
  exact ⟨_, e1, e3⟩
theorem fbs_fitsB (A : Nat → Addr) (w0 : World) (b n : Nat) (cores room : Int) (rn : Nat) (hrn : room = rn) (F : Plc → List MsgV) (K : List Nat) (l : List MsgV) (w : World) (h : FbS w0 b cores room F n K w) (hs : SentAt w0 A) (hl : l.length ≤ 100000) (hF : LeF F rn) (hro : rn ≤ 100000) :
    Calls Tryd.prog 18 #[.pointer (some ⟨b, 0, none⟩), .slice (some ⟨w.heap.size, 0, none⟩) l.length l.length] (w.alloc (.cells (flatM l).toArray 32)) fun ev w' => ev = .returned ((fitsE cores room F l).val A) ∧ Below w.heap.size w w' := by
  have hb : Below w.heap.size w (w.alloc (.cells (flatM l).toArray 32)) := (Below.refl _ _).alloc (Nat.le_refl _) _
  refine (fbs_fits A w0 b n cores room F K _ l _ (h.bel hb) hs (slc_built w _ 13 l.length (flatM l) (flatM_length l)) hl (fun q => by have := hF q; omega) (by omega)).mono ?_
  rintro ev w' ⟨rfl, h2⟩
  exact ⟨rfl, hb.trans (h2.mono hb.size)⟩

set_option maxRecDepth 100000 in
set_option maxHeartbeats 16000000 in
theorem fabricHolds (A : Nat → Addr) (cores room : Int) (vl : Value) (nl : Nat) (l : List MsgV) (vp : Value) (np : Nat) (gp : Nat → Int) (w : World) (hs : SentAt w A) (h1 : in64 cores) (h2 : in64 room) (hl : MsgsAt w vl nl l) (h3 : IntsAt .i64 w vp np gp) : Calls Tryd.prog 5 #[.int .i64 cores, .int .i64 room, vl, vp] w (TruePost w) := by
  have HS := Lib.hid hs
  have HP := Lib.hid h3
  obtain ⟨ap, cp, rfl, hpc⟩ := h3.form
  have HPC := Lib.hid hpc
  have hnp : np ≤ 9223372036854775807 := by have := h3.len; unfold maxLen at this; omega
  have H1 := Lib.hid h1
  have H2 := Lib.hid h2
  have HL := Lib.hid hl
  obtain ⟨_, al, cl, rfl, hel⟩ := hl.sl
  have HEL := Lib.hid hel
  have hnl : nl ≤ 9223372036854775807 := by have := hl.big; unfold maxLen at this; omega
  clear hs h1 h2 h3 hpc hl hel
  go_enter Tryd.func5, Tryd.ntmps5
  go_wp2_with fail
  refine (Within_b cores 1 4 w (by omega) (by omega) (by omega) H1.out.1 H1.out.2).mono ?_
  rintro ev w' ⟨rfl, hww⟩
  obtain rfl := hww
  have hn := wiF_b (n := cores) (lo := 1) (hi := 4) (by omega)
  generalize wiF cores 1 4 = n at *
  obtain ⟨n, rfl⟩ := Int.eq_ofNat_of_zero_le (show 0 ≤ n by omega)
  have HN := Lib.hid (show 1 ≤ n ∧ n ≤ 4 by omega)
  clear hn
  go_wp2_with fail
  refine (Within_b room 1 6 w (by omega) (by omega) (by omega) H2.out.1 H2.out.2).mono ?_
  rintro ev w' ⟨rfl, hww⟩
  obtain rfl := hww
  have hn := wiF_b (n := room) (lo := 1) (hi := 6) (by omega)
  generalize wiF room 1 6 = k at *
  obtain ⟨k, rfl⟩ := Int.eq_ofNat_of_zero_le (show 0 ≤ k by omega)
  have HK := Lib.hid (show 1 ≤ k ∧ k ≤ 6 by omega)
  clear hn
  go_wp2_with fail
  refine (fbs_new n k [] w (by have := HN.out; omega) (by have := HN.out; omega) (by have := HK.out; omega) (by have := HK.out; omega) (fun q hq => by cases hq)).mono ?_
  rintro ev w1 ⟨b, rfl, hF⟩
  have HF := Lib.hid hF
  clear hF
  go_wp2_with fail
  go_loopw [13, 14, 15] (fun s13 s14 s15 wr => ∃ (i a o cn : Nat) (F : Plc → List MsgV), s15 = .int .i64 i ∧ s13 = .int .i64 a ∧ s14 = .int .i64 o ∧ a ≤ i ∧ i ≤ 60 ∧ o + cn = a ∧ LeF F k ∧ FbS w b n k F cn [] wr) (fun _ _ s15 _ => 60 - (intOf s15).toNat)
  case atStart => exact ⟨0, 0, 0, 0, _, rfl, rfl, rfl, by omega, by omega, rfl, LeF.nil k, HF.out⟩
  case round =>
    clear HF
    obtain ⟨i, a, o, cn, F, rfl, rfl, rfl, hai, hi60, hoc, hle, hf⟩ := hrel
    have HLE := Lib.hid hle
    have HF := Lib.hid hf
    have HOC := Lib.hid hoc
    have ho60 : o ≤ 60 := by omega
    have hn1 : 1 ≤ n := HN.out.1
    have hn4 : n ≤ 4 := HN.out.2
    have hcn : cn ≤ 60 := by omega
    clear hle hf hoc
    by_cases hin : i < nl
    · have k1 : decide (i < nl) = true := by simpa using hin
      have k2 : decide ((i : Int) < (nl : Int)) = true := by simp; omega
      by_cases hi6 : i < 60
      · have k3 : decide (i < 60) = true := by simpa using hi6
        have k4 : decide ((i : Int) < 60) = true := by simp; omega
        obtain ⟨m, hm⟩ : ∃ m, l[i]? = some m := ⟨_, List.getElem?_eq_getElem (by rw [HL.out.len]; exact hin)⟩
        have HFIT := Lib.hid (HL.out.fit m (List.mem_of_getElem? hm))
        obtain ⟨g, off, rfl, hg, hc⟩ := HEL.out (by omega)
        obtain ⟨m1, m2, m3, m4, m5, m6, m7, m8, m9, m10, m11, m12, m13⟩ := m
        have HBW := Lib.hid HF.out.below
        have a0 := (HBW.out.cell (p := ⟨g, _, none⟩) hg).trans (hc _ _ (flatM_at hm (c := 0) rfl))
        have a1 := (HBW.out.cell (p := ⟨g, _, none⟩) hg).trans (hc _ _ (flatM_at hm (c := 1) rfl))
        have a2 := (HBW.out.cell (p := ⟨g, _, none⟩) hg).trans (hc _ _ (flatM_at hm (c := 2) rfl))
        have a3 := (HBW.out.cell (p := ⟨g, _, none⟩) hg).trans (hc _ _ (flatM_at hm (c := 3) rfl))
        have a4 := (HBW.out.cell (p := ⟨g, _, none⟩) hg).trans (hc _ _ (flatM_at hm (c := 4) rfl))
        have a5 := (HBW.out.cell (p := ⟨g, _, none⟩) hg).trans (hc _ _ (flatM_at hm (c := 5) rfl))
        have a6 := (HBW.out.cell (p := ⟨g, _, none⟩) hg).trans (hc _ _ (flatM_at hm (c := 6) rfl))
        have a7 := (HBW.out.cell (p := ⟨g, _, none⟩) hg).trans (hc _ _ (flatM_at hm (c := 7) rfl))
        have a8 := (HBW.out.cell (p := ⟨g, _, none⟩) hg).trans (hc _ _ (flatM_at hm (c := 8) rfl))
        have a9 := (HBW.out.cell (p := ⟨g, _, none⟩) hg).trans (hc _ _ (flatM_at hm (c := 9) rfl))
        have a10 := (HBW.out.cell (p := ⟨g, _, none⟩) hg).trans (hc _ _ (flatM_at hm (c := 10) rfl))
        have a11 := (HBW.out.cell (p := ⟨g, _, none⟩) hg).trans (hc _ _ (flatM_at hm (c := 11) rfl))
        have a12 := (HBW.out.cell (p := ⟨g, _, none⟩) hg).trans (hc _ _ (flatM_at hm (c := 12) rfl))
        simp only [Nat.add_zero, ← Nat.add_assoc] at a0 a1 a2 a3 a4 a5 a6 a7 a8 a9 a10 a11 a12
        clear hg hm hc
        go_upto_region 10 with fail
        obtain ⟨h16, hh⟩ : ∃ h, h = wr.heap.size := ⟨_, rfl⟩
        have hb : Below wr.heap.size wr (wr.alloc (.cells #[.int .i64 m1, .int .i64 m2, .int .i64 m3, .int .i64 m4, .int .i64 m5, .int .i64 m6, .int .i64 m7, .int .u32 m8, .int .u32 m9, .int .u32 m10, .int .u32 m11, .int .u32 m12, .bool m13] 32)) := (Below.refl _ _).alloc (Nat.le_refl _) _
        have HX := Lib.hid (show (wr.alloc (.cells #[.int .i64 m1, .int .i64 m2, .int .i64 m3, .int .i64 m4, .int .i64 m5, .int .i64 m6, .int .i64 m7, .int .u32 m8, .int .u32 m9, .int .u32 m10, .int .u32 m11, .int .u32 m12, .bool m13] 32)).heap[h16]? = some (.cells #[.int .i64 m1, .int .i64 m2, .int .i64 m3, .int .i64 m4, .int .i64 m5, .int .i64 m6, .int .i64 m7, .int .u32 m8, .int .u32 m9, .int .u32 m10, .int .u32 m11, .int .u32 m12, .bool m13] 32 (0, 0)) from by rw [hh]; exact heap_alloc_new _ _)
        have HH := Lib.hid (show b ≠ h16 ∧ w.heap.size ≤ h16 from by have := HF.out.lt; omega)
        have HF4 := Lib.hid ((HF.out.add h16 (by omega)).bel hb)
        rw [← hh]
        clear hb hh HF HBW a0 a1 a2 a3 a4 a5 a6 a7 a8 a9 a10 a11 a12
        generalize wr.alloc (.cells #[.int .i64 m1, .int .i64 m2, .int .i64 m3, .int .i64 m4, .int .i64 m5, .int .i64 m6, .int .i64 m7, .int .u32 m8, .int .u32 m9, .int .u32 m10, .int .u32 m11, .int .u32 m12, .bool m13] 32) = w4 at *
        have hxq := HX.out
        have q0 := cell_of hxq 0
        have q1 := cell_of hxq 1
        have q2 := cell_of hxq 2
        have q3 := cell_of hxq 3
        have q4 := cell_of hxq 4
        have q5 := cell_of hxq 5
        have q6 := cell_of hxq 6
        have q7 := cell_of hxq 7
        have q8 := cell_of hxq 8
        have q9 := cell_of hxq 9
        have q10 := cell_of hxq 10
        have q11 := cell_of hxq 11
        have q12 := cell_of hxq 12
        simp only [List.getElem?_toArray, List.getElem?_cons_zero, List.getElem?_cons_succ] at q0 q1 q2 q3 q4 q5 q6 q7 q8 q9 q10 q11 q12
        have hlq := (Array.getElem?_eq_some_iff.1 hxq).1
        have z1 := frozen_of hxq 1
        go_wp2_with fail
        refine (Within_b m2 0 ((n : Int) - 1) w4 (by omega) (by have := HN.out; omega) (by have := HN.out; omega) HFIT.out.core.1 HFIT.out.core.2).mono ?_
        rintro ev w' ⟨rfl, hww⟩
        obtain rfl := hww
        have hcb := wiF_b (n := m2) (lo := 0) (hi := (n : Int) - 1) (by have := HN.out; omega)
        generalize wiF m2 0 ((n : Int) - 1) = c at *
        have HC := Lib.hid hcb
        clear hcb
        go_upto_region 11 with fail
        have hM5 : Mods (fun q => q ∈ [h16]) w4 (w4.setCell ⟨h16, 1, none⟩ (.int .i64 c)) := (Mods.refl _ w4).setCell (p := ⟨h16, 1, none⟩) (List.mem_singleton.2 rfl) _
        have HF5 := Lib.hid (HF4.out.mods (fun h => HH.out.1 (List.mem_singleton.1 h)) (fun q hq => by have := HH.out.2; have := List.mem_singleton.1 hq; omega) hM5)
        have HX5 := Lib.hid (show (w4.setCell ⟨h16, 1, none⟩ (.int .i64 c)).heap[h16]? = some (.cells #[.int .i64 m1, .int .i64 c, .int .i64 m3, .int .i64 m4, .int .i64 m5, .int .i64 m6, .int .i64 m7, .int .u32 m8, .int .u32 m9, .int .u32 m10, .int .u32 m11, .int .u32 m12, .bool m13] 32 (0, 0)) from (heap_setCell_at (k := 1) hxq (.int .i64 c)).trans rfl)
        clear hM5 z1 hxq hlq q0 q1 q2 q3 q4 q5 q6 q7 q8 q9 q10 q11 q12 HF4 HX
        generalize w4.setCell ⟨h16, 1, none⟩ (.int .i64 c) = w5 at *
        have hxq := HX5.out
        have q0 := cell_of hxq 0
        have q1 := cell_of hxq 1
        have q2 := cell_of hxq 2
        have q3 := cell_of hxq 3
        have q4 := cell_of hxq 4
        have q5 := cell_of hxq 5
        have q6 := cell_of hxq 6
        have q7 := cell_of hxq 7
        have q8 := cell_of hxq 8
        have q9 := cell_of hxq 9
        have q10 := cell_of hxq 10
        have q11 := cell_of hxq 11
        have q12 := cell_of hxq 12
        simp only [List.getElem?_toArray, List.getElem?_cons_zero, List.getElem?_cons_succ] at q0 q1 q2 q3 q4 q5 q6 q7 q8 q9 q10 q11 q12
        have hlq := (Array.getElem?_eq_some_iff.1 hxq).1
        go_wp2_with fail
        refine (pool_c m1 w5).mono ?_
        rintro ev w' ⟨rfl, hww⟩
        obtain rfl := hww
        go_wp2_with fail
        refine (fbs_len w b cn n k (poolM m1) c F [h16] w5 HF5.out).mono ?_
        rintro ev w6 ⟨rfl, hb⟩
        clear hxq hlq q0 q1 q2 q3 q4 q5 q6 q7 q8 q9 q10 q11 q12
        obtain ⟨wl, hwl⟩ : ∃ wl, lenP n F (poolM m1) c = wl := ⟨_, rfl⟩
        have hwb := lenP_b (n := n) (p := poolM m1) (c := c) HLE.out
        rw [hwl] at hwb ⊢
        have hw0 : 0 ≤ wl := hwb.1
        have hw6 : wl ≤ 6 := by have := HK.out; omega
        have HWL := Lib.hid hwl
        clear hwl hwb
        have HF6 := Lib.hid (HF5.out.bel hb)
        have HX6 := Lib.hid ((hb.block _ (Array.getElem?_eq_some_iff.1 HX5.out).1).trans HX5.out)
        clear hb HF5 HX5
        go_wp2_with fail
        refine (fbs_all w b cn n k F [h16] w6 HF6.out (by omega)).mono ?_
        rintro ev w7 ⟨rfl, hb⟩
        have HF7 := Lib.hid (HF6.out.bel hb)
        have HX7 := Lib.hid ((hb.block _ (Array.getElem?_eq_some_iff.1 HX6.out).1).trans HX6.out)
        clear hb HF6 HX6
        go_upto_region 13 with fail
        have hxq := HX7.out
        have q0 := cell_of hxq 0
        have q1 := cell_of hxq 1
        have q2 := cell_of hxq 2
        have q3 := cell_of hxq 3
        have q4 := cell_of hxq 4
        have q5 := cell_of hxq 5
        have q6 := cell_of hxq 6
        have q7 := cell_of hxq 7
        have q8 := cell_of hxq 8
        have q9 := cell_of hxq 9
        have q10 := cell_of hxq 10
        have q11 := cell_of hxq 11
        have q12 := cell_of hxq 12
        simp only [List.getElem?_toArray, List.getElem?_cons_zero, List.getElem?_cons_succ] at q0 q1 q2 q3 q4 q5 q6 q7 q8 q9 q10 q11 q12
        have hlq := (Array.getElem?_eq_some_iff.1 hxq).1
        go_wp2_with fail
        refine (fbs_fitsB A w b cn n k k rfl F [h16] [⟨m1, c, m3, m4, m5, m6, m7, m8, m9, m10, m11, m12, m13⟩] w7 HF7.out HS.out (by simp) HLE.out (by have := HK.out; omega)).mono ?_
        rintro ev w8 ⟨rfl, hb⟩
        clear hxq hlq q0 q1 q2 q3 q4 q5 q6 q7 q8 q9 q10 q11 q12
        have HF8 := Lib.hid (HF7.out.bel hb)
        have HX8 := Lib.hid ((hb.block _ (Array.getElem?_eq_some_iff.1 HX7.out).1).trans HX7.out)
        clear hb HF7 HX7
        obtain ⟨fe, hfe⟩ : ∃ fe, fitsE n k F [⟨m1, c, m3, m4, m5, m6, m7, m8, m9, m10, m11, m12, m13⟩] = fe := ⟨_, rfl⟩
        rw [hfe]
        have HFE := Lib.hid hfe
        have heq := fun w => eqlNil A fe w
        have hnq := fun w => neqNil A fe w
        have hgd := fun op x c w => eqGuardNil A fe op x c w
        obtain ⟨ve, hve⟩ : ∃ ve, ErrT.val A fe = ve := ⟨_, rfl⟩
        have HVE := Lib.hid hve
        rw [hve] at heq hnq hgd ⊢
        obtain ⟨nb, hnb⟩ : ∃ nb, fe.isNil = nb := ⟨_, rfl⟩
        have HNB := Lib.hid hnb
        rw [hnb] at heq hnq
        clear hfe hve hnb
        go_upto_region 14 with fail
        have hxq := HX8.out
        have q0 := cell_of hxq 0
        have q1 := cell_of hxq 1
        have q2 := cell_of hxq 2
        have q3 := cell_of hxq 3
        have q4 := cell_of hxq 4
        have q5 := cell_of hxq 5
        have q6 := cell_of hxq 6
        have q7 := cell_of hxq 7
        have q8 := cell_of hxq 8
        have q9 := cell_of hxq 9
        have q10 := cell_of hxq 10
        have q11 := cell_of hxq 11
        have q12 := cell_of hxq 12
        simp only [List.getElem?_toArray, List.getElem?_cons_zero, List.getElem?_cons_succ] at q0 q1 q2 q3 q4 q5 q6 q7 q8 q9 q10 q11 q12
        have hlq := (Array.getElem?_eq_some_iff.1 hxq).1
        go_wp2_with fail
        refine (fbs_sendB A w b cn n k k rfl F [h16] [⟨m1, c, m3, m4, m5, m6, m7, m8, m9, m10, m11, m12, m13⟩] w8 HF8.out HS.out (fun q hq => by
          obtain rfl : q = h16 := by simpa using hq
          exact (Array.getElem?_eq_some_iff.1 HX8.out).1) (by simp) HLE.out (by have := HK.out; omega)).mono ?_
        rintro ev w9 ⟨rfl, hF, hk⟩
        clear hxq hlq q0 q1 q2 q3 q4 q5 q6 q7 q8 q9 q10 q11 q12
        have HX9 := Lib.hid (hk.at (List.mem_cons_self ..) HX8.out)
        rw [HFE.out, HVE.out]
        have HLE9 := Lib.hid (HLE.out.send n [⟨m1, c, m3, m4, m5, m6, m7, m8, m9, m10, m11, m12, m13⟩])
        obtain ⟨F9, hF9⟩ : ∃ F9, sendF n k F [⟨m1, c, m3, m4, m5, m6, m7, m8, m9, m10, m11, m12, m13⟩] = F9 := ⟨_, rfl⟩
        obtain ⟨c1, hc1⟩ : ∃ c1, cn + sentN n k F [⟨m1, c, m3, m4, m5, m6, m7, m8, m9, m10, m11, m12, m13⟩] = c1 := ⟨_, rfl⟩
        rw [hF9] at hF HLE9
        rw [hc1] at hF
        have HGO := Lib.hid (show nb = true → c1 = cn + 1 ∧ wl < k ∧ lenP n F9 (poolM m1) c = wl + 1 ∧ peekP n F9 (poolM m1) c wl = (⟨m1, c, m3, m4, m5, m6, m7, m8, m9, m10, m11, m12, m13⟩, true) from fun h => by
          have h0 : fitsE n k F [⟨m1, c, m3, m4, m5, m6, m7, m8, m9, m10, m11, m12, m13⟩] = .nil := by
            rw [HFE.out]
            have h1 := HNB.out
            rw [h] at h1
            cases fe <;> first | rfl | cases h1
          have h2 := one_in h0
          rw [← hF9, ← hc1, ← HWL.out]
          exact ⟨by rw [h2.cnt], h2.room, h2.len, h2.peek⟩)
        have HST := Lib.hid (show nb = false → c1 = cn from fun h => by
          rcases fitsE_form n k F [⟨m1, c, m3, m4, m5, m6, m7, m8, m9, m10, m11, m12, m13⟩] with h1 | ⟨fi, fk, h1⟩
          · have h2 := HNB.out
            rw [← HFE.out, h1, h] at h2
            cases h2
          · rw [← hc1, (send_off h1).2]
            rfl)
        have hc61 : c1 ≤ 61 := by
          have h1 := HGO.out
          have h2 := HST.out
          cases nb with
          | true => have := (h1 rfl).1; omega
          | false => have := h2 rfl; omega
        have HF9 := Lib.hid hF
        clear hF hk HF8 HX8 hF9 hc1
        go_upto_region 15 with fail
        go_cut [126] from 83 to 126 (fun s126 wx => s126 = .bool false ∧ FbS w b n k F9 c1 [h16] wx ∧ wx.heap[h16]? = some (.cells #[.int .i64 m1, .int .i64 c, .int .i64 m3, .int .i64 m4, .int .i64 m5, .int .i64 m6, .int .i64 m7, .int .u32 m8, .int .u32 m9, .int .u32 m10, .int .u32 m11, .int .u32 m12, .bool m13] 32 (0, 0)))
        case first =>
          have hxq := HX9.out
          have q0 := cell_of hxq 0
          have q1 := cell_of hxq 1
          have q2 := cell_of hxq 2
          have q3 := cell_of hxq 3
          have q4 := cell_of hxq 4
          have q5 := cell_of hxq 5
          have q6 := cell_of hxq 6
          have q7 := cell_of hxq 7
          have q8 := cell_of hxq 8
          have q9 := cell_of hxq 9
          have q10 := cell_of hxq 10
          have q11 := cell_of hxq 11
          have q12 := cell_of hxq 12
          simp only [List.getElem?_toArray, List.getElem?_cons_zero, List.getElem?_cons_succ] at q0 q1 q2 q3 q4 q5 q6 q7 q8 q9 q10 q11 q12
          have hlq := (Array.getElem?_eq_some_iff.1 hxq).1
          refine wp_region_lexA ⟨[], []⟩ (fun x => Below w9.heap.size w9 x) (by kernel_rfl) (by kernel_rfl) (Below.refl _ _).drew ?_
          intro S hto hof hne
          have yq1 : ∀ z : Wd S, z.w.cell? ⟨h16, 1, none⟩ = some (.int .i64 c) := fun z => ((hto z).cell (p := ⟨h16, 1, none⟩) hlq).trans q1
          have Hof := Lib.hid hof
          have HB := Lib.hid (show Below w9.heap.size w9 w9.drew from (Below.refl _ _).drew)
          clear hto hof hxq hlq q0 q1 q2 q3 q4 q5 q6 q7 q8 q9 q10 q11 q12
          cases nb with
          | true =>
            obtain ⟨e1, e2, e3, _⟩ := HGO.out rfl
            have HL3 := Lib.hid e3
            have g1 : ((c1 : Int) == (cn : Int) + 1) = true := by simp; omega
            have g2 : decide ((k : Int) ≤ wl) = false := by simp; omega
            clear e1 e2 e3
            refine lexW_light 9 (by kernel_rfl) ?_
            simp only [List.take_succ_cons, List.take_zero, List.drop_succ_cons, List.drop_zero]
            repeat (first | go_big_quiet_skip | (go_big_quiet_want; go_big_quiet_op; go_big_quiet_on))
            refine wpQuiet_nil ?_
            refine lexW_heavy (by kernel_rfl) ?_
            go_wp2_with fail
            refine (fbs_all w b c1 n k F9 [h16] w9.drew (HF9.out.bel HB.out) (by omega)).mono ?_
            rintro ev w10 ⟨rfl, hb⟩
            have HB := Lib.hid (HB.out.trans (hb.mono HB.out.size))
            clear hb
            go_wp2_with fail
            refine lexQ_more (Hof.out _ HB.out) ?_
            refine lexW_light 10 (by kernel_rfl) ?_
            simp only [List.take_succ_cons, List.take_zero, List.drop_succ_cons, List.drop_zero]
            repeat (first | go_big_quiet_skip | (go_big_quiet_want; go_big_quiet_op; go_big_quiet_on))
            refine wpQuiet_nil ?_
            refine lexW_heavy (by kernel_rfl) ?_
            go_wp2_with fail
            refine lexQ_more (Hof.out _ HB.out) ?_
            refine lexW_light 16 (by kernel_rfl) ?_
            simp only [List.take_succ_cons, List.take_zero, List.drop_succ_cons, List.drop_zero]
            repeat (first | go_big_quiet_skip | (go_big_quiet_want; go_big_quiet_op; go_big_quiet_on))
            refine wpQuiet_nil ?_
            refine lexW_heavy (by kernel_rfl) ?_
            go_wp2_with fail
            refine (fbs_len w b c1 n k (poolM m1) c F9 [h16] w10 (HF9.out.bel HB.out)).mono ?_
            rintro ev w11 ⟨rfl, hb⟩
            rw [HL3.out]
            have HB := Lib.hid (HB.out.trans (hb.mono HB.out.size))
            clear hb
            go_wp2_with fail
            refine lexQ_more (Hof.out _ HB.out) ?_
            refine lexW_light 6 (by kernel_rfl) ?_
            simp only [List.take_succ_cons, List.take_zero, List.drop_succ_cons, List.drop_zero]
            repeat (first | go_big_quiet_skip | (go_big_quiet_want; go_big_quiet_op; go_big_quiet_on))
            refine wpQuiet_nil ?_
            refine lexW_done ?_
            go_wp2_with fail
            go_meet
            case rel => exact ⟨rfl, HF9.out.bel HB.out, (HB.out.block _ (Array.getElem?_eq_some_iff.1 HX9.out).1).trans HX9.out⟩
          | false =>
            have e1 := HST.out rfl
            have g1 : ((c1 : Int) == (cn : Int) + 1) = false := by simp; omega
            have g2 : ((c1 : Int) != (cn : Int)) = false := by simp; omega
            clear e1
            refine lexW_light 9 (by kernel_rfl) ?_
            simp only [List.take_succ_cons, List.take_zero, List.drop_succ_cons, List.drop_zero]
            repeat (first | go_big_quiet_skip | (go_big_quiet_want; go_big_quiet_op; go_big_quiet_on))
            refine wpQuiet_nil ?_
            refine lexW_heavy (by kernel_rfl) ?_
            go_wp2_with fail
            refine (fbs_all w b c1 n k F9 [h16] w9.drew (HF9.out.bel HB.out) (by omega)).mono ?_
            rintro ev w10 ⟨rfl, hb⟩
            have HB := Lib.hid (HB.out.trans (hb.mono HB.out.size))
            clear hb
            go_wp2_with fail
            refine lexQ_more (Hof.out _ HB.out) ?_
            refine lexW_light 10 (by kernel_rfl) ?_
            simp only [List.take_succ_cons, List.take_zero, List.drop_succ_cons, List.drop_zero]
            repeat (first | go_big_quiet_skip | (go_big_quiet_want; go_big_quiet_op; go_big_quiet_on))
            refine wpQuiet_nil ?_
            refine lexW_heavy (by kernel_rfl) ?_
            go_wp2_with fail
            refine (fbs_all w b c1 n k F9 [h16] w10 (HF9.out.bel HB.out) (by omega)).mono ?_
            rintro ev w11 ⟨rfl, hb⟩
            have HB := Lib.hid (HB.out.trans (hb.mono HB.out.size))
            clear hb
            go_wp2_with fail
            refine lexQ_more (Hof.out _ HB.out) ?_
            refine lexW_light 16 (by kernel_rfl) ?_
            simp only [List.take_succ_cons, List.take_zero, List.drop_succ_cons, List.drop_zero]
            repeat (first | go_big_quiet_skip | (go_big_quiet_want; go_big_quiet_op; go_big_quiet_on))
            refine wpQuiet_nil ?_
            refine lexW_heavy (by kernel_rfl) ?_
            go_wp2_with fail
            refine lexQ_more (Hof.out _ HB.out) ?_
            refine lexW_light 6 (by kernel_rfl) ?_
            simp only [List.take_succ_cons, List.take_zero, List.drop_succ_cons, List.drop_zero]
            repeat (first | go_big_quiet_skip | (go_big_quiet_want; go_big_quiet_op; go_big_quiet_on))
            refine wpQuiet_nil ?_
            refine lexW_done ?_
            go_wp2_with fail
            go_meet
            case rel => exact ⟨rfl, HF9.out.bel HB.out, (HB.out.block _ (Array.getElem?_eq_some_iff.1 HX9.out).1).trans HX9.out⟩
        case rest =>
          obtain ⟨rfl, hf, hx⟩ := hcut
          have HF10 := Lib.hid hf
          have HX10 := Lib.hid hx
          clear hf hx HF9 HX9
          generalize wc = w10 at *
          go_upto_if 128 with fail
          go_cut [13, 22, 23] from 127 to 146 (fun s13 _ _ wx => ∃ a1 : Nat, s13 = .int .i64 a1 ∧ a1 ≤ i + 1 ∧ o + c1 = a1 ∧ FbS w b n k F9 c1 [h16] wx ∧ wx.heap[h16]? = some (.cells #[.int .i64 m1, .int .i64 c, .int .i64 m3, .int .i64 m4, .int .i64 m5, .int .i64 m6, .int .i64 m7, .int .u32 m8, .int .u32 m9, .int .u32 m10, .int .u32 m11, .int .u32 m12, .bool m13] 32 (0, 0)))
          case first =>
            cases nb with
            | true =>
              obtain ⟨e1, _, _, e4⟩ := HGO.out rfl
              have HC1 := Lib.hid e1
              have HIN3 := Lib.hid e4
              clear e1 e4
              have hxq := HX10.out
              have q0 := cell_of hxq 0
              have q1 := cell_of hxq 1
              have q2 := cell_of hxq 2
              have q3 := cell_of hxq 3
              have q4 := cell_of hxq 4
              have q5 := cell_of hxq 5
              have q6 := cell_of hxq 6
              have q7 := cell_of hxq 7
              have q8 := cell_of hxq 8
              have q9 := cell_of hxq 9
              have q10 := cell_of hxq 10
              have q11 := cell_of hxq 11
              have q12 := cell_of hxq 12
              simp only [List.getElem?_toArray, List.getElem?_cons_zero, List.getElem?_cons_succ] at q0 q1 q2 q3 q4 q5 q6 q7 q8 q9 q10 q11 q12
              have hlq := (Array.getElem?_eq_some_iff.1 hxq).1
              go_wp2_with fail
              refine (fbs_peek w b c1 n k (poolM m1) c wl F9 [h16] w10 HF10.out).mono ?_
              rintro ev w12 ⟨rfl, hb⟩
              clear hxq hlq q0 q1 q2 q3 q4 q5 q6 q7 q8 q9 q10 q11 q12
              rw [HIN3.out]
              have HF12 := Lib.hid (HF10.out.bel hb)
              have HX12 := Lib.hid ((hb.block _ (Array.getElem?_eq_some_iff.1 HX10.out).1).trans HX10.out)
              clear hb HF10 HX10
              simp only [MsgV.v]
              go_upto_region 20 with fail
              obtain ⟨h22, hh⟩ : ∃ h, h = w12.heap.size := ⟨_, rfl⟩
              have hb : Below w12.heap.size w12 (w12.alloc (.cells #[.int .i64 m1, .int .i64 c, .int .i64 m3, .int .i64 m4, .int .i64 m5, .int .i64 m6, .int .i64 m7, .int .u32 m8, .int .u32 m9, .int .u32 m10, .int .u32 m11, .int .u32 m12, .bool m13] 32)) := (Below.refl _ _).alloc (Nat.le_refl _) _
              have HY13 := Lib.hid (show (w12.alloc (.cells #[.int .i64 m1, .int .i64 c, .int .i64 m3, .int .i64 m4, .int .i64 m5, .int .i64 m6, .int .i64 m7, .int .u32 m8, .int .u32 m9, .int .u32 m10, .int .u32 m11, .int .u32 m12, .bool m13] 32)).heap[h22]? = some (.cells #[.int .i64 m1, .int .i64 c, .int .i64 m3, .int .i64 m4, .int .i64 m5, .int .i64 m6, .int .i64 m7, .int .u32 m8, .int .u32 m9, .int .u32 m10, .int .u32 m11, .int .u32 m12, .bool m13] 32 (0, 0)) from by rw [hh]; exact heap_alloc_new _ _)
              have HF13 := Lib.hid (HF12.out.bel hb)
              have HX13 := Lib.hid ((hb.block _ (Array.getElem?_eq_some_iff.1 HX12.out).1).trans HX12.out)
              rw [← hh]
              clear hb hh HF12 HX12
              generalize w12.alloc (.cells #[.int .i64 m1, .int .i64 c, .int .i64 m3, .int .i64 m4, .int .i64 m5, .int .i64 m6, .int .i64 m7, .int .u32 m8, .int .u32 m9, .int .u32 m10, .int .u32 m11, .int .u32 m12, .bool m13] 32) = w13 at *
              have hxq := HX13.out
              have q0 := cell_of hxq 0
              have q1 := cell_of hxq 1
              have q2 := cell_of hxq 2
              have q3 := cell_of hxq 3
              have q4 := cell_of hxq 4
              have q5 := cell_of hxq 5
              have q6 := cell_of hxq 6
              have q7 := cell_of hxq 7
              have q8 := cell_of hxq 8
              have q9 := cell_of hxq 9
              have q10 := cell_of hxq 10
              have q11 := cell_of hxq 11
              have q12 := cell_of hxq 12
              simp only [List.getElem?_toArray, List.getElem?_cons_zero, List.getElem?_cons_succ] at q0 q1 q2 q3 q4 q5 q6 q7 q8 q9 q10 q11 q12
              have hlq := (Array.getElem?_eq_some_iff.1 hxq).1
              have hxr := HY13.out
              have r0 := cell_of hxr 0
              have r1 := cell_of hxr 1
              have r2 := cell_of hxr 2
              have r3 := cell_of hxr 3
              have r4 := cell_of hxr 4
              have r5 := cell_of hxr 5
              have r6 := cell_of hxr 6
              have r7 := cell_of hxr 7
              have r8 := cell_of hxr 8
              have r9 := cell_of hxr 9
              have r10 := cell_of hxr 10
              have r11 := cell_of hxr 11
              have r12 := cell_of hxr 12
              simp only [List.getElem?_toArray, List.getElem?_cons_zero, List.getElem?_cons_succ] at r0 r1 r2 r3 r4 r5 r6 r7 r8 r9 r10 r11 r12
              have hlr := (Array.getElem?_eq_some_iff.1 hxr).1
              have heq2 := fun w => run_eqMs m1 c m3 m4 m5 m6 m7 m8 m9 m10 m11 m12 m1 c m3 m4 m5 m6 m7 m8 m9 m10 m11 m12 m13 m13 w
              rw [(eqM_iff _ _).2 rfl] at heq2
              go_wp2_with fail
              go_meet
              case rel => exact ⟨a + 1, by go_num, by omega, by have := HOC.out; have := HC1.out; omega, HF13.out, HX13.out⟩
            | false =>
              have HC1 := Lib.hid (HST.out rfl)
              go_wp2_with fail
              go_meet
              case rel => exact ⟨a, rfl, by omega, by have := HOC.out; have := HC1.out; omega, HF10.out, HX10.out⟩
          case rest =>
            obtain ⟨a1, rfl, hai1, hoc1, hf, hx⟩ := hcut
            have HF13 := Lib.hid hf
            have HX13 := Lib.hid hx
            have HOC1 := Lib.hid hoc1
            clear hf hx HF10 HX10 hoc1 heq hnq hgd HGO HST
            generalize wc = w13 at *
            obtain ⟨wn, hwn⟩ : ∃ wn, lenP n F9 (poolM m1) c = wn := ⟨_, rfl⟩
            have hwb := lenP_b (n := n) (p := poolM m1) (c := c) HLE9.out
            rw [hwn] at hwb
            have hwy : 0 ≤ wn := hwb.1
            have hwx : wn ≤ 7 := by have := HK.out; omega
            have HLN := Lib.hid hwn
            clear hwn hwb
            by_cases hip : i < np
            · have k5 : decide (i < np) = true := by simpa using hip
              have k6 : decide ((i : Int) < (np : Int)) = true := by simp; omega
              obtain ⟨gq, oq, rfl, hbq, hcq⟩ := HPC.out i hip
              have p0 := (HF13.out.below.cell (p := ⟨gq, oq + i, none⟩) hbq).trans hcq
              have HNUM := Lib.hid (Go.bounds_i64 (HP.out.num i hip))
              obtain ⟨pk, hpk⟩ : ∃ pk, gp i = pk := ⟨_, rfl⟩
              rw [hpk] at p0 hcq HNUM
              have HLQ := Lib.hid hbq
              have HPQ := Lib.hid hcq
              clear hcq hpk hbq
              by_cases hev : pk % 2 = 0
              · have k7 : (pk % 2 == 0) = true := by simpa using hev
                have k8 : (pk.tmod 2 == 0) = true := by rw [Int.tmod_eq_zero_of_dvd (Int.dvd_of_emod_eq_zero hev)]; rfl
                have hxq := HX13.out
                have q0 := cell_of hxq 0
                have q1 := cell_of hxq 1
                have q2 := cell_of hxq 2
                have q3 := cell_of hxq 3
                have q4 := cell_of hxq 4
                have q5 := cell_of hxq 5
                have q6 := cell_of hxq 6
                have q7 := cell_of hxq 7
                have q8 := cell_of hxq 8
                have q9 := cell_of hxq 9
                have q10 := cell_of hxq 10
                have q11 := cell_of hxq 11
                have q12 := cell_of hxq 12
                simp only [List.getElem?_toArray, List.getElem?_cons_zero, List.getElem?_cons_succ] at q0 q1 q2 q3 q4 q5 q6 q7 q8 q9 q10 q11 q12
                have hlq := (Array.getElem?_eq_some_iff.1 hxq).1
                go_wp2_with fail
                refine (fbs_len w b c1 n k (poolM m1) c F9 [h16] w13 HF13.out).mono ?_
                rintro ev w14 ⟨rfl, hb⟩
                rw [HLN.out]
                have HF14 := Lib.hid (HF13.out.bel hb)
                have HX14 := Lib.hid ((hb.block _ (Array.getElem?_eq_some_iff.1 HX13.out).1).trans HX13.out)
                clear hb HF13 HX13 hxq hlq q0 q1 q2 q3 q4 q5 q6 q7 q8 q9 q10 q11 q12 p0
                by_cases hwp : 0 < wn
                · have k9 : decide (0 < wn) = true := by simpa using hwp
                  have hxq := HX14.out
                  have q0 := cell_of hxq 0
                  have q1 := cell_of hxq 1
                  have q2 := cell_of hxq 2
                  have q3 := cell_of hxq 3
                  have q4 := cell_of hxq 4
                  have q5 := cell_of hxq 5
                  have q6 := cell_of hxq 6
                  have q7 := cell_of hxq 7
                  have q8 := cell_of hxq 8
                  have q9 := cell_of hxq 9
                  have q10 := cell_of hxq 10
                  have q11 := cell_of hxq 11
                  have q12 := cell_of hxq 12
                  simp only [List.getElem?_toArray, List.getElem?_cons_zero, List.getElem?_cons_succ] at q0 q1 q2 q3 q4 q5 q6 q7 q8 q9 q10 q11 q12
                  have hlq := (Array.getElem?_eq_some_iff.1 hxq).1
                  have p0 := (HF14.out.below.cell (p := ⟨gq, oq + i, none⟩) HLQ.out).trans HPQ.out
                  go_upto_region 23 with fail
                  have hlp := Nat.lt_of_lt_of_le HLQ.out HF14.out.below.size
                  refine wp_region_lexA ⟨[27], []⟩ (fun x => Below w14.heap.size w14 x) (by kernel_rfl) (by kernel_rfl) (Below.refl _ _).drew ?_
                  intro S hto hof hne
                  have yq1 : ∀ z : Wd S, z.w.cell? ⟨h16, 1, none⟩ = some (.int .i64 c) := fun z => ((hto z).cell (p := ⟨h16, 1, none⟩) hlq).trans q1
                  have yp0 : ∀ z : Wd S, z.w.cell? ⟨gq, oq + i, none⟩ = some (.int .i64 pk) := fun z => ((hto z).cell (p := ⟨gq, oq + i, none⟩) hlp).trans p0
                  have Hof := Lib.hid hof
                  clear hto hof hxq hlq q0 q1 q2 q3 q4 q5 q6 q7 q8 q9 q10 q11 q12 p0 hlp
                  refine lexW_light 8 (by kernel_rfl) ?_
                  simp only [List.take_succ_cons, List.take_zero, List.drop_succ_cons, List.drop_zero]
                  repeat (first | go_big_quiet_skip | (go_big_quiet_want; go_big_quiet_op; go_big_quiet_on))
                  refine wpQuiet_nil ?_
                  refine lexW_heavy (by kernel_rfl) ?_
                  go_wp2_with fail
                  refine (fbs_len w b c1 n k (poolM m1) c F9 [h16] w14.drew (HF14.out.bel (Below.refl _ _).drew)).mono ?_
                  rintro ev w15 ⟨rfl, hb⟩
                  rw [HLN.out]
                  have HB := Lib.hid ((Below.refl w14.heap.size w14).drew.trans hb)
                  clear hb
                  go_wp2_with fail
                  refine lexQ_more (Hof.out _ HB.out) ?_
                  refine lexW_light 1 (by kernel_rfl) ?_
                  simp only [List.take_succ_cons, List.take_zero, List.drop_succ_cons, List.drop_zero]
                  repeat (first | go_big_quiet_skip | (go_big_quiet_want; go_big_quiet_op; go_big_quiet_on))
                  refine wpQuiet_nil ?_
                  refine lexW_pure (by kernel_rfl) (by rfl) rfl Tryd.func27 rfl (by kernel_rfl) (fun x => Within_b pk 0 (wn - 1) x.w (by omega) (by omega) (by omega) HNUM.out.1 HNUM.out.2) (by go_simp) ?_
                  simp only [Act.put, List.setIfInBounds_toArray, List.set_cons_zero, List.set_cons_succ]
                  refine lexW_light 1 (by kernel_rfl) ?_
                  simp only [List.take_succ_cons, List.take_zero, List.drop_succ_cons, List.drop_zero]
                  repeat (first | go_big_quiet_skip | (go_big_quiet_want; go_big_quiet_op; go_big_quiet_on))
                  refine wpQuiet_nil ?_
                  refine lexW_done ?_
                  clear yq1 yp0 Hof hne
                  have hab := wiF_b (n := pk) (lo := 0) (hi := wn - 1) (by omega)
                  generalize wiF pk 0 (wn - 1) = at_ at *
                  obtain ⟨M, hpk, htn⟩ := one_out (n := n) (F := F9) (p := poolM m1) (c := c) (a := at_) hab.1 (by rw [HLN.out]; omega)
                  have HPK := Lib.hid hpk
                  have HTN := Lib.hid htn
                  have HF15 := Lib.hid (HF14.out.bel HB.out)
                  have HX15 := Lib.hid ((HB.out.block _ (Array.getElem?_eq_some_iff.1 HX14.out).1).trans HX14.out)
                  have HLO := Lib.hid (show 1 ≤ c1 from by
                    obtain ⟨r, E, e1, e2, e3⟩ := HF15.out
                    have h4 := e1.tot (placeP (poolM m1) c) nilS []
                    have ok := lenP_pos (n := n) (F := F9) (p := poolM m1) (c := c) (by rw [HLN.out]; omega)
                    have h5 := HLN.out
                    rw [lenP_at ok] at h5
                    simp only [List.length_nil] at h4
                    omega)
                  clear hpk htn HF14 HX14 HB
                  go_upto_region 24 with fail
                  have hxq := HX15.out
                  have q0 := cell_of hxq 0
                  have q1 := cell_of hxq 1
                  have q2 := cell_of hxq 2
                  have q3 := cell_of hxq 3
                  have q4 := cell_of hxq 4
                  have q5 := cell_of hxq 5
                  have q6 := cell_of hxq 6
                  have q7 := cell_of hxq 7
                  have q8 := cell_of hxq 8
                  have q9 := cell_of hxq 9
                  have q10 := cell_of hxq 10
                  have q11 := cell_of hxq 11
                  have q12 := cell_of hxq 12
                  simp only [List.getElem?_toArray, List.getElem?_cons_zero, List.getElem?_cons_succ] at q0 q1 q2 q3 q4 q5 q6 q7 q8 q9 q10 q11 q12
                  have hlq := (Array.getElem?_eq_some_iff.1 hxq).1
                  go_wp2_with fail
                  refine (fbs_peek w b c1 n k (poolM m1) c at_ F9 [h16] w15 HF15.out).mono ?_
                  rintro ev w16 ⟨rfl, hb⟩
                  clear hxq hlq q0 q1 q2 q3 q4 q5 q6 q7 q8 q9 q10 q11 q12
                  rw [HPK.out]
                  obtain ⟨x1, x2, x3, x4, x5, x6, x7, x8, x9, x10, x11, x12, x13⟩ := M
                  simp only [MsgV.v]
                  have HF16 := Lib.hid (HF15.out.bel hb)
                  have HX16 := Lib.hid ((hb.block _ (Array.getElem?_eq_some_iff.1 HX15.out).1).trans HX15.out)
                  clear hb HF15 HX15
                  go_upto_region 25 with fail
                  obtain ⟨h25, hh⟩ : ∃ h, h = w16.heap.size := ⟨_, rfl⟩
                  have hb : Below w16.heap.size w16 (w16.alloc (.cells #[.int .i64 x1, .int .i64 x2, .int .i64 x3, .int .i64 x4, .int .i64 x5, .int .i64 x6, .int .i64 x7, .int .u32 x8, .int .u32 x9, .int .u32 x10, .int .u32 x11, .int .u32 x12, .bool x13] 32)) := (Below.refl _ _).alloc (Nat.le_refl _) _
                  have HY17 := Lib.hid (show (w16.alloc (.cells #[.int .i64 x1, .int .i64 x2, .int .i64 x3, .int .i64 x4, .int .i64 x5, .int .i64 x6, .int .i64 x7, .int .u32 x8, .int .u32 x9, .int .u32 x10, .int .u32 x11, .int .u32 x12, .bool x13] 32)).heap[h25]? = some (.cells #[.int .i64 x1, .int .i64 x2, .int .i64 x3, .int .i64 x4, .int .i64 x5, .int .i64 x6, .int .i64 x7, .int .u32 x8, .int .u32 x9, .int .u32 x10, .int .u32 x11, .int .u32 x12, .bool x13] 32 (0, 0)) from by rw [hh]; exact heap_alloc_new _ _)
                  have HF17 := Lib.hid ((HF16.out.add h25 (by omega)).bel hb)
                  have HX17 := Lib.hid ((hb.block _ (Array.getElem?_eq_some_iff.1 HX16.out).1).trans HX16.out)
                  rw [← hh]
                  clear hb hh HF16 HX16
                  generalize w16.alloc (.cells #[.int .i64 x1, .int .i64 x2, .int .i64 x3, .int .i64 x4, .int .i64 x5, .int .i64 x6, .int .i64 x7, .int .u32 x8, .int .u32 x9, .int .u32 x10, .int .u32 x11, .int .u32 x12, .bool x13] 32) = w17 at *
                  have hxq := HX17.out
                  have q0 := cell_of hxq 0
                  have q1 := cell_of hxq 1
                  have q2 := cell_of hxq 2
                  have q3 := cell_of hxq 3
                  have q4 := cell_of hxq 4
                  have q5 := cell_of hxq 5
                  have q6 := cell_of hxq 6
                  have q7 := cell_of hxq 7
                  have q8 := cell_of hxq 8
                  have q9 := cell_of hxq 9
                  have q10 := cell_of hxq 10
                  have q11 := cell_of hxq 11
                  have q12 := cell_of hxq 12
                  simp only [List.getElem?_toArray, List.getElem?_cons_zero, List.getElem?_cons_succ] at q0 q1 q2 q3 q4 q5 q6 q7 q8 q9 q10 q11 q12
                  have hlq := (Array.getElem?_eq_some_iff.1 hxq).1
                  go_wp2_with fail
                  refine (fbs_take w b c1 n k (poolM m1) c at_ F9 [h25, h16] w17 HF17.out (fun q hq => by
                    rcases List.mem_cons.1 hq with rfl | hq
                    · exact (Array.getElem?_eq_some_iff.1 HY17.out).1
                    · obtain rfl := List.mem_singleton.1 hq
                      exact (Array.getElem?_eq_some_iff.1 HX17.out).1)).mono ?_
                  rintro ev w18 ⟨rfl, hF, hk⟩
                  clear hxq hlq q0 q1 q2 q3 q4 q5 q6 q7 q8 q9 q10 q11 q12
                  rw [HPK.out]
                  rw [HTN.out, Nat.add_zero] at hF
                  simp only [MsgV.v]
                  have HF18 := Lib.hid hF
                  have HY18 := Lib.hid (hk.at (List.mem_cons_self ..) HY17.out)
                  clear hF hk HF17 HX17 HY17
                  go_upto_region 26 with fail
                  obtain ⟨h27, hh⟩ : ∃ h, h = w18.heap.size := ⟨_, rfl⟩
                  have hb : Below w18.heap.size w18 (w18.alloc (.cells #[.int .i64 x1, .int .i64 x2, .int .i64 x3, .int .i64 x4, .int .i64 x5, .int .i64 x6, .int .i64 x7, .int .u32 x8, .int .u32 x9, .int .u32 x10, .int .u32 x11, .int .u32 x12, .bool x13] 32)) := (Below.refl _ _).alloc (Nat.le_refl _) _
                  have HX19 := Lib.hid (show (w18.alloc (.cells #[.int .i64 x1, .int .i64 x2, .int .i64 x3, .int .i64 x4, .int .i64 x5, .int .i64 x6, .int .i64 x7, .int .u32 x8, .int .u32 x9, .int .u32 x10, .int .u32 x11, .int .u32 x12, .bool x13] 32)).heap[h27]? = some (.cells #[.int .i64 x1, .int .i64 x2, .int .i64 x3, .int .i64 x4, .int .i64 x5, .int .i64 x6, .int .i64 x7, .int .u32 x8, .int .u32 x9, .int .u32 x10, .int .u32 x11, .int .u32 x12, .bool x13] 32 (0, 0)) from by rw [hh]; exact heap_alloc_new _ _)
                  have HF19 := Lib.hid (HF18.out.bel hb)
                  have HY19 := Lib.hid ((hb.block _ (Array.getElem?_eq_some_iff.1 HY18.out).1).trans HY18.out)
                  rw [← hh]
                  clear hb hh HF18 HY18
                  generalize w18.alloc (.cells #[.int .i64 x1, .int .i64 x2, .int .i64 x3, .int .i64 x4, .int .i64 x5, .int .i64 x6, .int .i64 x7, .int .u32 x8, .int .u32 x9, .int .u32 x10, .int .u32 x11, .int .u32 x12, .bool x13] 32) = w19 at *
                  have hxq := HX19.out
                  have q0 := cell_of hxq 0
                  have q1 := cell_of hxq 1
                  have q2 := cell_of hxq 2
                  have q3 := cell_of hxq 3
                  have q4 := cell_of hxq 4
                  have q5 := cell_of hxq 5
                  have q6 := cell_of hxq 6
                  have q7 := cell_of hxq 7
                  have q8 := cell_of hxq 8
                  have q9 := cell_of hxq 9
                  have q10 := cell_of hxq 10
                  have q11 := cell_of hxq 11
                  have q12 := cell_of hxq 12
                  simp only [List.getElem?_toArray, List.getElem?_cons_zero, List.getElem?_cons_succ] at q0 q1 q2 q3 q4 q5 q6 q7 q8 q9 q10 q11 q12
                  have hlq := (Array.getElem?_eq_some_iff.1 hxq).1
                  have hxr := HY19.out
                  have r0 := cell_of hxr 0
                  have r1 := cell_of hxr 1
                  have r2 := cell_of hxr 2
                  have r3 := cell_of hxr 3
                  have r4 := cell_of hxr 4
                  have r5 := cell_of hxr 5
                  have r6 := cell_of hxr 6
                  have r7 := cell_of hxr 7
                  have r8 := cell_of hxr 8
                  have r9 := cell_of hxr 9
                  have r10 := cell_of hxr 10
                  have r11 := cell_of hxr 11
                  have r12 := cell_of hxr 12
                  simp only [List.getElem?_toArray, List.getElem?_cons_zero, List.getElem?_cons_succ] at r0 r1 r2 r3 r4 r5 r6 r7 r8 r9 r10 r11 r12
                  have hlr := (Array.getElem?_eq_some_iff.1 hxr).1
                  have heq := fun w => run_eqMs x1 x2 x3 x4 x5 x6 x7 x8 x9 x10 x11 x12 x1 x2 x3 x4 x5 x6 x7 x8 x9 x10 x11 x12 x13 x13 w
                  rw [(eqM_iff _ _).2 rfl] at heq
                  have HLE2 := Lib.hid (HLE9.out.take n (poolM m1) c at_)
                  obtain ⟨F2, hF2⟩ : ∃ F2, takeF n F9 (poolM m1) c at_ = F2 := ⟨_, rfl⟩
                  rw [hF2] at HF19 HLE2
                  clear hF2
                  go_wp2_with fail
                  go_roundw
                  case rel => exact ⟨i + 1, a1, o + 1, c1 - 1, F2, by go_num, rfl, by go_num, by omega, by omega, by have := HOC1.out; have := HLO.out; omega, HLE2.out, HF19.out.sub (fun q hq => by cases hq)⟩
                  case measure => simp [intOf] <;> omega
                · have k9 : decide (0 < wn) = false := by simpa using hwp
                  go_wp2_with fail
                  go_roundw
                  case rel => exact ⟨i + 1, a1, o, c1, F9, by go_num, rfl, rfl, by omega, by omega, HOC1.out, HLE9.out, HF14.out.sub (fun q hq => by cases hq)⟩
                  case measure => simp [intOf] <;> omega
              · have k7 : (pk % 2 == 0) = false := by simpa using hev
                have k8 : (pk.tmod 2 == 0) = false := by simpa using fun h => hev (Int.emod_eq_zero_of_dvd (Int.dvd_of_tmod_eq_zero h))
                go_wp2_with fail
                go_roundw
                case rel => exact ⟨i + 1, a1, o, c1, F9, by go_num, rfl, rfl, by omega, by omega, HOC1.out, HLE9.out, HF13.out.sub (fun q hq => by cases hq)⟩
                case measure => simp [intOf] <;> omega
            · have k5 : decide (i < np) = false := by simpa using hip
              have k6 : decide ((i : Int) < (np : Int)) = false := by simp; omega
              go_wp2_with fail
              go_roundw
              case rel => exact ⟨i + 1, a1, o, c1, F9, by go_num, rfl, rfl, by omega, by omega, HOC1.out, HLE9.out, HF13.out.sub (fun q hq => by cases hq)⟩
              case measure => simp [intOf] <;> omega
      · have k3 : decide (i < 60) = false := by simpa using hi6
        have k4 : decide ((i : Int) < 60) = false := by simp; omega
        have geq : ((cn : Int) == (a : Int) - (o : Int)) = true := by have := HOC.out; simp; omega
        go_wp2_with fail
        refine (fbs_all w b cn n k F [] wr HF.out (by omega)).mono ?_
        rintro ev w3 ⟨rfl, hb⟩
        have HF := Lib.hid (HF.out.bel hb)
        clear hb
        go_wp2_with fail
        refine (fabricRuns A w3 (HS.out.below HF.out.below)).mono ?_
        rintro ev w4 ⟨rfl, hb⟩
        have HF := Lib.hid (HF.out.bel hb)
        clear hb
        go_wp2_with fail
        go_ret
        exact ⟨rfl, HF.out.below⟩
    · have k1 : decide (i < nl) = false := by simpa using hin
      have k2 : decide ((i : Int) < (nl : Int)) = false := by simp; omega
      have geq : ((cn : Int) == (a : Int) - (o : Int)) = true := by have := HOC.out; simp; omega
      go_wp2_with fail
      refine (fbs_all w b cn n k F [] wr HF.out (by omega)).mono ?_
      rintro ev w3 ⟨rfl, hb⟩
      have HF := Lib.hid (HF.out.bel hb)
      clear hb
      go_wp2_with fail
      refine (fabricRuns A w3 (HS.out.below HF.out.below)).mono ?_
      rintro ev w4 ⟨rfl, hb⟩
      have HF := Lib.hid (HF.out.bel hb)
      clear hb
      go_wp2_with fail
      go_ret
      exact ⟨rfl, HF.out.below⟩

end Go.Proofs.YtbefkkefglkleaaDoor
