/- ProgBack: true; no condition but what a start gives. -/
import Derived.Test.YtpljdbcifaeblaaDoorLPg1
import Derived.Test.YtpljdbcifaeblaaDoorPg6
import Derived.Test.YtpljdbcifaeblaaDoorOpArg
import Derived.Test.YtpljdbcifaeblaaDoorByt
import Derived.Test.YtpljdbcifaeblaaDoorBk
namespace Go.Proofs.YtpljdbcifaeblaaDoor
open Go.RowKit Go.Extern.Stop Go.Stop Go.Extern

theorem slc_take {w : World} {a : Option Addr} {n c k : Nat} {L : List Nat} (h : slc w 1 (.slice a n c) L.length (byteV L)) (hk : k ≤ L.length) : slc w 1 (.slice a k c) (L.take k).length (byteV (L.take k)) := by
  obtain ⟨_, a', c', he, hc⟩ := h
  simp only [Value.slice.injEq] at he
  obtain ⟨rfl, rfl, rfl⟩ := he
  have hl : (L.take k).length = k := by rw [List.length_take]; omega
  refine ⟨by rw [byteV_length, Nat.mul_one], a, c, by rw [hl], fun hpos => ?_⟩
  rw [hl] at hpos
  obtain ⟨g, off, ha, hg, hcc⟩ := hc (by omega)
  refine ⟨g, off, ha, hg, fun j u hj => hcc j u ?_⟩
  have hjk : j < k := by
    have := (List.getElem?_eq_some_iff.1 hj).1
    rw [byteV_length, hl] at this
    exact this
  simp only [byteV, List.getElem?_map, List.getElem?_take, if_pos hjk] at hj ⊢
  exact hj
theorem winRow.capn {w : World} {base size n : Nat} {e : TypeId} {a : Option Addr} {c : Nat} {xs : List Value} (h : winRow w base e size (.slice a n c) n xs) : n ≤ c := by
  rcases h.2 with ⟨h1, _⟩ | ⟨g, off, cap, cur, h1, _, _, hnc, _⟩
  · simp only [Value.slice.injEq] at h1
    omega
  · simp only [Value.slice.injEq] at h1
    omega
theorem parE_wf {W : Int} {L : List Nat} {A : Nat → Addr} (h : (parE W L).isNil = false) : ∃ t u, (parE W L).val A = .iface t u := by
  obtain ⟨t, u, h⟩ := (parE W L).val_iface A h
  exact ⟨t, u, h⟩

set_option maxRecDepth 100000 in
set_option maxHeartbeats 16000000 in
theorem progBack (A : Nat → Addr) (v : Value) (n : Nat) (l : List OpV) (words cut : Int) (vb : Value) (L : List Nat) (w : World) (hs : SentAt w A) (h1 : OpsAt w v n l) (hw : -9223372036854775808 ≤ words ∧ words ≤ 9223372036854775807) (hct : -9223372036854775808 ≤ cut ∧ cut ≤ 9223372036854775807) (hby : BytesIn w vb L) :
    Calls Tryd.prog 5 #[v, .int .i64 words, .int .i64 cut, vb] w (TruePost w) := by
  obtain ⟨i0, hi0, hi1⟩ := Option.map_eq_some_iff.1 nInfoP
  simp only [Prod.mk.injEq] at hi1
  obtain ⟨hz0, hz1, hz2⟩ := hi1
  have HI := Lib.hid hi0
  have HZ0 := Lib.hid hz0
  have HZ1 := Lib.hid hz1
  have HZ2 := Lib.hid hz2
  have HS := Lib.hid hs
  have hn := h1.big
  unfold maxLen at hn
  obtain ⟨_, ap, cp, rfl, hel⟩ := h1.sl
  have HELL := Lib.hid hel
  have HFT := Lib.hid h1.fit
  have HLL := Lib.hid h1.len
  have HBY := Lib.hid hby
  obtain ⟨_, ab, cb, hvb, _⟩ := hby.row
  have hwk := wiF_b (n := words) (lo := 1) (hi := 128) (by omega)
  have HW0 := Lib.hid hw
  have HCT := Lib.hid hct
  have HWB0 := Lib.hid hwk
  obtain ⟨W, hW⟩ : ∃ W, wiF words 1 128 = W := ⟨_, rfl⟩
  rw [hW] at HWB0
  have HWB := HWB0
  have HWW := Lib.hid hW
  subst hvb
  clear hs hel h1 hby hwk hw hct hi0 hz0 hz1 hz2 HWB0 hW
  go_enter Tryd.func5, Tryd.ntmps5
  go_wp2_with fail
  refine (Within_b words 1 128 w (by omega) (by omega) (by omega) HW0.out.1 HW0.out.2).mono ?_
  rintro ev w' ⟨rfl, hww⟩
  obtain rfl := hww
  rw [HWW.out]
  go_wp2_with fail
  go_loopw [10, 11] (fun sO sI wr => ∃ (i : Nat) (own : List OpV), i ≤ n ∧ i ≤ 40 ∧ sI = .int .i64 i ∧ own.length ≤ i ∧ (∀ o ∈ own, rightB o W = true ∧ o.fit) ∧ winRow wr w.heap.size 29 4 sO own.length (flatP own) ∧ Below w.heap.size w wr) (fun _ sI _ => 40 - (intOf sI).toNat)
  case atStart => exact ⟨0, [], by omega, by omega, rfl, by simp, fun o ho => (by cases ho), winRow_nil .., Below.refl _ _⟩
  case round =>
    obtain ⟨i, own, hin, hi40, rfl, hol, hall, hrow, hB⟩ := hrel
    have HROW := Lib.hid hrow
    have HB := Lib.hid hB
    have HALL := Lib.hid hall
    have HOL := Lib.hid (show own.length ≤ i ∧ i ≤ 40 from ⟨hol, hi40⟩)
    obtain ⟨ar, cr, rfl⟩ := hrow.len
    clear hrow hB hall hol
    by_cases hi : i < n ∧ i < 40
    · obtain ⟨hi1, hi2⟩ := hi
      have g1 : decide (i < n) = true := by simp; omega
      have g2 : decide ((i : Int) < 40) = true := by simp; omega
      obtain ⟨g, off, hpp, hg, hc⟩ := HELL.out (by omega)
      subst hpp
      obtain ⟨o, ho⟩ : ∃ o, l[i]? = some o := ⟨_, List.getElem?_eq_getElem (by rw [HLL.out]; exact hi1)⟩
      have hof := Lib.hid (HFT.out o (List.mem_of_getElem? ho))
      have e0 := (HB.out.cell (p := ⟨g, off + (i * 4 + 0), none⟩) hg).trans (hc _ _ (flatP_at ho (c := 0) rfl))
      have e1 := (HB.out.cell (p := ⟨g, off + (i * 4 + 1), none⟩) hg).trans (hc _ _ (flatP_at ho (c := 1) rfl))
      have e2 := (HB.out.cell (p := ⟨g, off + (i * 4 + 2), none⟩) hg).trans (hc _ _ (flatP_at ho (c := 2) rfl))
      have e3 := (HB.out.cell (p := ⟨g, off + (i * 4 + 3), none⟩) hg).trans (hc _ _ (flatP_at ho (c := 3) rfl))
      simp only [Nat.add_zero, ← Nat.add_assoc] at e0 e1 e2 e3
      have hgl := Nat.lt_of_lt_of_le hg HB.out.size
      obtain ⟨kd, ad, va, ol⟩ := o
      simp only at e0 e1 e2 e3
      have HE := Lib.hid (And.intro hgl (And.intro (And.intro e0 e1) (And.intro e2 e3)))
      clear hc ho hg hgl
      go_wp2_with fail
      refine (right_c ⟨kd, ad, va, ol⟩ W wr).mono ?_
      rintro ev w3 ⟨rfl, hb3⟩
      have HB3 := Lib.hid (HB.out.trans (hb3.mono HB.out.size))
      have HROW3 := Lib.hid (HROW.out.below hb3)
      have c0 := (hb3.cell (p := ⟨g, off + i * 4, none⟩) HE.out.1).trans e0
      have c1 := (hb3.cell (p := ⟨g, off + i * 4 + 1, none⟩) HE.out.1).trans e1
      have c2 := (hb3.cell (p := ⟨g, off + i * 4 + 2, none⟩) HE.out.1).trans e2
      have c3 := (hb3.cell (p := ⟨g, off + i * 4 + 3, none⟩) HE.out.1).trans e3
      clear e0 e1 e2 e3 hb3 HE HROW HB
      cases hr : rightB ⟨kd, ad, va, ol⟩ W with
      | false =>
        clear c0 c1 c2 c3
        go_wp2_with fail
        go_roundw
        case rel => exact ⟨i + 1, own, by omega, by omega, by go_num, by have := HOL.out; omega, HALL.out, HROW3.out, HB3.out⟩
        case measure => simp [intOf] <;> omega
      | true =>
        have HR := Lib.hid hr
        have g77 : own.length ≤ 40 := by have := HOL.out; omega
        clear hr
        go_wp2_with (at_builtin; refine wpList_append_win _ rfl _ _ 30 rfl w.heap.size 29 i0 _ 4 24 Tryd.underlying30 HI.out HZ0.out HZ1.out HZ2.out rfl (by decide) _ _ _ rfl (HROW3.out.below ((Below.refl _ _).alloc (Nat.le_refl _) _)) ⟨w3.heap.size, 0, none⟩ 1 1 (flatP [⟨kd, ad, va, ol⟩]) rfl rfl (by exact cells_new w3 [_, _, _, _] _) (flatP_one _) (by omega) (by unfold maxLen; omega) (by omega) (by have := HB3.out.size; simp; omega) ?_; intro g8 off8 cap8 w8 hrow8 hgrow8 hat8 hlt8)
        have hb8 : Below w.heap.size w w8 := (HB3.out.alloc HB3.out.size _).grown hgrow8 (by have := HB3.out.size; simp; omega) fun q hq => (HROW3.out.lt q hq).1
        have HB8 := Lib.hid hb8
        have HROW8 := Lib.hid hrow8
        clear hb8 hrow8 hgrow8 hat8 hlt8 c0 c1 c2 c3
        go_roundw
        case rel =>
          refine ⟨i + 1, own ++ [⟨kd, ad, va, ol⟩], by omega, by omega, by go_num, by have := HOL.out; simp; omega, ?_, by rw [List.length_append, flatP_append]; exact HROW8.out, HB8.out⟩
          intro o ho
          rcases List.mem_append.1 ho with h | h
          · exact HALL.out o h
          · simp only [List.mem_singleton] at h
            subst h
            exact ⟨HR.out, hof.out⟩
        case measure => simp [intOf] <;> omega
    · by_cases hi1 : i < n
      · have g1 : decide (i < n) = true := by simp; omega
        have g2 : decide ((i : Int) < 40) = false := by simp; omega
        have HOL40 := Lib.hid (show own.length ≤ 40 by have := HOL.out; omega)
        clear g1 hi
        have HEN := Lib.hid (par_enc HALL.out (W := W) (by have := HOL40.out; omega))
        have HPU := Lib.hid (putE_all (fun o ho => (HALL.out o ho).1) (by have := HOL40.out; omega) : putE W own = .nil)
        have HEL := Lib.hid (encP_len (fun o ho => (HALL.out o ho).2) (by have := HOL40.out; omega))
        have HEB := Lib.hid (encP_byt own)
        go_wp2_with fail
        refine (put_c A _ own W wr (HS.out.below HB.out) HROW.out.slc (fun o ho => (HALL.out o ho).2) (by have := HOL40.out; omega)).mono ?_
        rintro ev w1 ⟨u1, rfl, hu1, hb1⟩
        rw [HPU.out] at hu1 ⊢
        have hu1 : winRow w1 wr.heap.size 5 1 u1 (encP own).length (byteV (encP own)) := hu1
        obtain ⟨a1, c1, rfl⟩ := hu1.len
        have HU1 := Lib.hid hu1.slc
        have HC1 := Lib.hid hu1.capn
        have HB1 := Lib.hid (HB.out.trans (hb1.mono HB.out.size))
        have HROW1 := Lib.hid (HROW.out.below hb1)
        clear hu1 hb1 HB HROW
        rw [show ErrT.nil.val A = .nilIface from rfl]
        go_wp2_with fail
        refine (parse_c A _ (encP own) W w1 (HS.out.below HB1.out) HU1.out (by have := HEL.out; omega) HEB.out HWB.out).mono ?_
        rintro ev w2 ⟨u2, rfl, hu2, hb2⟩
        rw [HEN.out.1] at hu2 ⊢
        have hu2 : winRow w2 w1.heap.size 29 4 u2 (parL W (encP own)).length (flatP (parL W (encP own))) := hu2
        rw [HEN.out.2] at hu2
        obtain ⟨a2, c2, rfl⟩ := hu2.len
        have HU2 := Lib.hid hu2.slc
        have HB2 := Lib.hid (HB1.out.trans (hb2.mono HB1.out.size))
        have HROW2 := Lib.hid (HROW1.out.below hb2)
        have HU12 := Lib.hid (HU1.out.below hb2)
        clear hu2 hb2 HB1 HROW1 HU1
        rw [show ErrT.nil.val A = .nilIface from rfl]
        have hkk := wiF_b (n := cut) (lo := 0) (hi := ((encP own).length : Int)) (by omega)
        obtain ⟨k, hk⟩ := Int.eq_ofNat_of_zero_le hkk.1
        have HK := Lib.hid hk
        have hkl : k ≤ (encP own).length := by omega
        have hkc : k ≤ c1 := Nat.le_trans hkl HC1.out
        clear hk hkk
        go_wp2_with fail
        refine (Within_b cut 0 ((encP own).length : Int) w2 (by omega) (by omega) (by have := HEL.out; omega) HCT.out.1 HCT.out.2).mono ?_
        rintro ev w' ⟨rfl, hww⟩
        obtain rfl := hww
        rw [HK.out]
        have gs : decide ((k : Int) ≥ 0) = true := by simp
        go_wp2_with fail
        refine (parse_c A _ ((encP own).take k) W w2 (HS.out.below HB2.out) (slc_take HU12.out hkl) (by have := HEL.out; rw [List.length_take]; omega) (fun c hc => HEB.out c (List.mem_of_mem_take hc)) HWB.out).mono ?_
        rintro ev w3 ⟨u3, rfl, hu3, hb3⟩
        have HB3 := Lib.hid (HB2.out.trans (hb3.mono HB2.out.size))
        have HROW3 := Lib.hid (HROW2.out.below hb3)
        have HU3 := Lib.hid (HU2.out.below hb3)
        clear hb3 HB2 HROW2 HU2 HU12
        by_cases hke : k = (encP own).length
        · have hnil : parE W ((encP own).take k) = .nil := by rw [hke, List.take_length]; exact HEN.out.1
          have gk : ((k : Int) == ((encP own).length : Int)) = true := by simp [hke]
          have gk2 : (k == (encP own).length) = true := by simp [hke]
          rw [hnil] at hu3 ⊢
          rw [show ErrT.nil.val A = .nilIface from rfl]
          have HKE := Lib.hid hke
          have hu3 : winRow w3 w2.heap.size 29 4 u3 (parL W ((encP own).take k)).length (flatP (parL W ((encP own).take k))) := hu3
          obtain ⟨a3, c3, rfl⟩ := hu3.len
          clear hnil hke hu3
          clear gs
          go_wp2_with fail
          refine (sameO_c own _ _ w3 HU3.out HROW3.out.slc (by have := HOL40.out; omega)).mono ?_
          rintro ev w4 ⟨rfl, hb4⟩
          have HB4 := Lib.hid (HB3.out.trans (hb4.mono HB3.out.size))
          clear hb4 HROW3 HU3 HB3
          go_wp2_with fail
          refine (parse_c A _ L W w4 (HS.out.below HB4.out) (HBY.out.row.below HB4.out) (by have := HBY.out.len; omega) HBY.out.byt HWB.out).mono ?_
          rintro ev w5 ⟨u5, rfl, hu5, hb5⟩
          have HB5 := Lib.hid (HB4.out.trans (hb5.mono HB4.out.size))
          clear hb5 HB4
          cases hn : (parE W L).isNil with
          | false =>
            obtain ⟨t5, v5, hev⟩ := parE_wf (A := A) hn
            rw [hn] at hu5
            have hu5 : u5 = .slice none 0 0 := hu5
            subst hu5
            rw [hev]
            clear hn hev
            go_wp2_with fail
            refine (progRuns A _ (HS.out.below HB5.out)).mono ?_
            rintro ev wz ⟨rfl, hbz⟩
            go_wp2_with fail
            go_ret
            exact ⟨rfl, HB5.out.trans (hbz.mono HB5.out.size)⟩
          | true =>
            have HD := Lib.hid (par_dec HBY.out.byt HWB.out hn)
            rw [hn] at hu5
            have hu5 : winRow w5 w4.heap.size 29 4 u5 (parL W L).length (flatP (parL W L)) := hu5
            have hnil : parE W L = .nil := by
              generalize parE W L = e at hn
              cases e <;> first | rfl | cases hn
            rw [hnil, show ErrT.nil.val A = .nilIface from rfl]
            obtain ⟨a5, c5, rfl⟩ := hu5.len
            have HU5 := Lib.hid hu5.slc
            generalize parL W L = x at *
            have HPX := Lib.hid (putE_all (fun o ho => (HD.out.1 o ho).1) HD.out.2.1 : putE W x = .nil)
            clear hn hu5 hnil
            go_wp2_with fail
            refine (put_c A _ x W w5 (HS.out.below HB5.out) HU5.out (fun o ho => (HD.out.1 o ho).2) (by have := HD.out.2.1; omega)).mono ?_
            rintro ev w6 ⟨u6, rfl, hu6, hb6⟩
            rw [HPX.out] at hu6 ⊢
            have hu6 : winRow w6 w5.heap.size 5 1 u6 (encP x).length (byteV (encP x)) := hu6
            rw [← HD.out.2.2] at hu6
            obtain ⟨a6, c6, rfl⟩ := hu6.len
            have HU6 := Lib.hid hu6.slc
            have HB6 := Lib.hid (HB5.out.trans (hb6.mono HB5.out.size))
            rw [show ErrT.nil.val A = .nilIface from rfl]
            clear hu6 hb6 HB5 HU5
            go_wp2_with fail
            refine (sameG_c L L _ _ w6 HU6.out (HBY.out.row.below HB6.out) (by have := HBY.out.len; omega) (by have := HBY.out.len; omega)).mono ?_
            rintro ev w7 ⟨rfl, hb7⟩
            rw [decide_eq_true (rfl : L = L)]
            have HB7 := Lib.hid (HB6.out.trans (hb7.mono HB6.out.size))
            clear hb7 HB6 HU6
            go_wp2_with fail
            refine (progRuns A _ (HS.out.below HB7.out)).mono ?_
            rintro ev wz ⟨rfl, hbz⟩
            go_wp2_with fail
            go_ret
            exact ⟨rfl, HB7.out.trans (hbz.mono HB7.out.size)⟩
        · have hnn := par_cut HWB.out HALL.out (by have := HOL40.out; omega) HEB.out (show k < (encP own).length by omega)
          obtain ⟨t3, v3, hev⟩ := parE_wf (A := A) hnn
          have gk : ((k : Int) == ((encP own).length : Int)) = false := by simp; omega
          have gk2 : (k == (encP own).length) = false := by simp; omega
          rw [hnn] at hu3
          have hu3 : u3 = .slice none 0 0 := hu3
          subst hu3
          rw [hev]
          clear hnn hev hke
          clear gs
          go_wp2_with fail
          refine (sameO_c own _ _ w3 HU3.out HROW3.out.slc (by have := HOL40.out; omega)).mono ?_
          rintro ev w4 ⟨rfl, hb4⟩
          have HB4 := Lib.hid (HB3.out.trans (hb4.mono HB3.out.size))
          clear hb4 HROW3 HU3 HB3
          go_wp2_with fail
          refine (parse_c A _ L W w4 (HS.out.below HB4.out) (HBY.out.row.below HB4.out) (by have := HBY.out.len; omega) HBY.out.byt HWB.out).mono ?_
          rintro ev w5 ⟨u5, rfl, hu5, hb5⟩
          have HB5 := Lib.hid (HB4.out.trans (hb5.mono HB4.out.size))
          clear hb5 HB4
          cases hn : (parE W L).isNil with
          | false =>
            obtain ⟨t5, v5, hev⟩ := parE_wf (A := A) hn
            rw [hn] at hu5
            have hu5 : u5 = .slice none 0 0 := hu5
            subst hu5
            rw [hev]
            clear hn hev
            go_wp2_with fail
            refine (progRuns A _ (HS.out.below HB5.out)).mono ?_
            rintro ev wz ⟨rfl, hbz⟩
            go_wp2_with fail
            go_ret
            exact ⟨rfl, HB5.out.trans (hbz.mono HB5.out.size)⟩
          | true =>
            have HD := Lib.hid (par_dec HBY.out.byt HWB.out hn)
            rw [hn] at hu5
            have hu5 : winRow w5 w4.heap.size 29 4 u5 (parL W L).length (flatP (parL W L)) := hu5
            have hnil : parE W L = .nil := by
              generalize parE W L = e at hn
              cases e <;> first | rfl | cases hn
            rw [hnil, show ErrT.nil.val A = .nilIface from rfl]
            obtain ⟨a5, c5, rfl⟩ := hu5.len
            have HU5 := Lib.hid hu5.slc
            generalize parL W L = x at *
            have HPX := Lib.hid (putE_all (fun o ho => (HD.out.1 o ho).1) HD.out.2.1 : putE W x = .nil)
            clear hn hu5 hnil
            go_wp2_with fail
            refine (put_c A _ x W w5 (HS.out.below HB5.out) HU5.out (fun o ho => (HD.out.1 o ho).2) (by have := HD.out.2.1; omega)).mono ?_
            rintro ev w6 ⟨u6, rfl, hu6, hb6⟩
            rw [HPX.out] at hu6 ⊢
            have hu6 : winRow w6 w5.heap.size 5 1 u6 (encP x).length (byteV (encP x)) := hu6
            rw [← HD.out.2.2] at hu6
            obtain ⟨a6, c6, rfl⟩ := hu6.len
            have HU6 := Lib.hid hu6.slc
            have HB6 := Lib.hid (HB5.out.trans (hb6.mono HB5.out.size))
            rw [show ErrT.nil.val A = .nilIface from rfl]
            clear hu6 hb6 HB5 HU5
            go_wp2_with fail
            refine (sameG_c L L _ _ w6 HU6.out (HBY.out.row.below HB6.out) (by have := HBY.out.len; omega) (by have := HBY.out.len; omega)).mono ?_
            rintro ev w7 ⟨rfl, hb7⟩
            rw [decide_eq_true (rfl : L = L)]
            have HB7 := Lib.hid (HB6.out.trans (hb7.mono HB6.out.size))
            clear hb7 HB6 HU6
            go_wp2_with fail
            refine (progRuns A _ (HS.out.below HB7.out)).mono ?_
            rintro ev wz ⟨rfl, hbz⟩
            go_wp2_with fail
            go_ret
            exact ⟨rfl, HB7.out.trans (hbz.mono HB7.out.size)⟩
      · have g1 : decide (i < n) = false := by simp; omega
        have HOL40 := Lib.hid (show own.length ≤ 40 by have := HOL.out; omega)
        clear g1 hi
        have HEN := Lib.hid (par_enc HALL.out (W := W) (by have := HOL40.out; omega))
        have HPU := Lib.hid (putE_all (fun o ho => (HALL.out o ho).1) (by have := HOL40.out; omega) : putE W own = .nil)
        have HEL := Lib.hid (encP_len (fun o ho => (HALL.out o ho).2) (by have := HOL40.out; omega))
        have HEB := Lib.hid (encP_byt own)
        go_wp2_with fail
        refine (put_c A _ own W wr (HS.out.below HB.out) HROW.out.slc (fun o ho => (HALL.out o ho).2) (by have := HOL40.out; omega)).mono ?_
        rintro ev w1 ⟨u1, rfl, hu1, hb1⟩
        rw [HPU.out] at hu1 ⊢
        have hu1 : winRow w1 wr.heap.size 5 1 u1 (encP own).length (byteV (encP own)) := hu1
        obtain ⟨a1, c1, rfl⟩ := hu1.len
        have HU1 := Lib.hid hu1.slc
        have HC1 := Lib.hid hu1.capn
        have HB1 := Lib.hid (HB.out.trans (hb1.mono HB.out.size))
        have HROW1 := Lib.hid (HROW.out.below hb1)
        clear hu1 hb1 HB HROW
        rw [show ErrT.nil.val A = .nilIface from rfl]
        go_wp2_with fail
        refine (parse_c A _ (encP own) W w1 (HS.out.below HB1.out) HU1.out (by have := HEL.out; omega) HEB.out HWB.out).mono ?_
        rintro ev w2 ⟨u2, rfl, hu2, hb2⟩
        rw [HEN.out.1] at hu2 ⊢
        have hu2 : winRow w2 w1.heap.size 29 4 u2 (parL W (encP own)).length (flatP (parL W (encP own))) := hu2
        rw [HEN.out.2] at hu2
        obtain ⟨a2, c2, rfl⟩ := hu2.len
        have HU2 := Lib.hid hu2.slc
        have HB2 := Lib.hid (HB1.out.trans (hb2.mono HB1.out.size))
        have HROW2 := Lib.hid (HROW1.out.below hb2)
        have HU12 := Lib.hid (HU1.out.below hb2)
        clear hu2 hb2 HB1 HROW1 HU1
        rw [show ErrT.nil.val A = .nilIface from rfl]
        have hkk := wiF_b (n := cut) (lo := 0) (hi := ((encP own).length : Int)) (by omega)
        obtain ⟨k, hk⟩ := Int.eq_ofNat_of_zero_le hkk.1
        have HK := Lib.hid hk
        have hkl : k ≤ (encP own).length := by omega
        have hkc : k ≤ c1 := Nat.le_trans hkl HC1.out
        clear hk hkk
        go_wp2_with fail
        refine (Within_b cut 0 ((encP own).length : Int) w2 (by omega) (by omega) (by have := HEL.out; omega) HCT.out.1 HCT.out.2).mono ?_
        rintro ev w' ⟨rfl, hww⟩
        obtain rfl := hww
        rw [HK.out]
        have gs : decide ((k : Int) ≥ 0) = true := by simp
        go_wp2_with fail
        refine (parse_c A _ ((encP own).take k) W w2 (HS.out.below HB2.out) (slc_take HU12.out hkl) (by have := HEL.out; rw [List.length_take]; omega) (fun c hc => HEB.out c (List.mem_of_mem_take hc)) HWB.out).mono ?_
        rintro ev w3 ⟨u3, rfl, hu3, hb3⟩
        have HB3 := Lib.hid (HB2.out.trans (hb3.mono HB2.out.size))
        have HROW3 := Lib.hid (HROW2.out.below hb3)
        have HU3 := Lib.hid (HU2.out.below hb3)
        clear hb3 HB2 HROW2 HU2 HU12
        by_cases hke : k = (encP own).length
        · have hnil : parE W ((encP own).take k) = .nil := by rw [hke, List.take_length]; exact HEN.out.1
          have gk : ((k : Int) == ((encP own).length : Int)) = true := by simp [hke]
          have gk2 : (k == (encP own).length) = true := by simp [hke]
          rw [hnil] at hu3 ⊢
          rw [show ErrT.nil.val A = .nilIface from rfl]
          have HKE := Lib.hid hke
          have hu3 : winRow w3 w2.heap.size 29 4 u3 (parL W ((encP own).take k)).length (flatP (parL W ((encP own).take k))) := hu3
          obtain ⟨a3, c3, rfl⟩ := hu3.len
          clear hnil hke hu3
          clear gs
          go_wp2_with fail
          refine (sameO_c own _ _ w3 HU3.out HROW3.out.slc (by have := HOL40.out; omega)).mono ?_
          rintro ev w4 ⟨rfl, hb4⟩
          have HB4 := Lib.hid (HB3.out.trans (hb4.mono HB3.out.size))
          clear hb4 HROW3 HU3 HB3
          go_wp2_with fail
          refine (parse_c A _ L W w4 (HS.out.below HB4.out) (HBY.out.row.below HB4.out) (by have := HBY.out.len; omega) HBY.out.byt HWB.out).mono ?_
          rintro ev w5 ⟨u5, rfl, hu5, hb5⟩
          have HB5 := Lib.hid (HB4.out.trans (hb5.mono HB4.out.size))
          clear hb5 HB4
          cases hn : (parE W L).isNil with
          | false =>
            obtain ⟨t5, v5, hev⟩ := parE_wf (A := A) hn
            rw [hn] at hu5
            have hu5 : u5 = .slice none 0 0 := hu5
            subst hu5
            rw [hev]
            clear hn hev
            go_wp2_with fail
            refine (progRuns A _ (HS.out.below HB5.out)).mono ?_
            rintro ev wz ⟨rfl, hbz⟩
            go_wp2_with fail
            go_ret
            exact ⟨rfl, HB5.out.trans (hbz.mono HB5.out.size)⟩
          | true =>
            have HD := Lib.hid (par_dec HBY.out.byt HWB.out hn)
            rw [hn] at hu5
            have hu5 : winRow w5 w4.heap.size 29 4 u5 (parL W L).length (flatP (parL W L)) := hu5
            have hnil : parE W L = .nil := by
              generalize parE W L = e at hn
              cases e <;> first | rfl | cases hn
            rw [hnil, show ErrT.nil.val A = .nilIface from rfl]
            obtain ⟨a5, c5, rfl⟩ := hu5.len
            have HU5 := Lib.hid hu5.slc
            generalize parL W L = x at *
            have HPX := Lib.hid (putE_all (fun o ho => (HD.out.1 o ho).1) HD.out.2.1 : putE W x = .nil)
            clear hn hu5 hnil
            go_wp2_with fail
            refine (put_c A _ x W w5 (HS.out.below HB5.out) HU5.out (fun o ho => (HD.out.1 o ho).2) (by have := HD.out.2.1; omega)).mono ?_
            rintro ev w6 ⟨u6, rfl, hu6, hb6⟩
            rw [HPX.out] at hu6 ⊢
            have hu6 : winRow w6 w5.heap.size 5 1 u6 (encP x).length (byteV (encP x)) := hu6
            rw [← HD.out.2.2] at hu6
            obtain ⟨a6, c6, rfl⟩ := hu6.len
            have HU6 := Lib.hid hu6.slc
            have HB6 := Lib.hid (HB5.out.trans (hb6.mono HB5.out.size))
            rw [show ErrT.nil.val A = .nilIface from rfl]
            clear hu6 hb6 HB5 HU5
            go_wp2_with fail
            refine (sameG_c L L _ _ w6 HU6.out (HBY.out.row.below HB6.out) (by have := HBY.out.len; omega) (by have := HBY.out.len; omega)).mono ?_
            rintro ev w7 ⟨rfl, hb7⟩
            rw [decide_eq_true (rfl : L = L)]
            have HB7 := Lib.hid (HB6.out.trans (hb7.mono HB6.out.size))
            clear hb7 HB6 HU6
            go_wp2_with fail
            refine (progRuns A _ (HS.out.below HB7.out)).mono ?_
            rintro ev wz ⟨rfl, hbz⟩
            go_wp2_with fail
            go_ret
            exact ⟨rfl, HB7.out.trans (hbz.mono HB7.out.size)⟩
        · have hnn := par_cut HWB.out HALL.out (by have := HOL40.out; omega) HEB.out (show k < (encP own).length by omega)
          obtain ⟨t3, v3, hev⟩ := parE_wf (A := A) hnn
          have gk : ((k : Int) == ((encP own).length : Int)) = false := by simp; omega
          have gk2 : (k == (encP own).length) = false := by simp; omega
          rw [hnn] at hu3
          have hu3 : u3 = .slice none 0 0 := hu3
          subst hu3
          rw [hev]
          clear hnn hev hke
          clear gs
          go_wp2_with fail
          refine (sameO_c own _ _ w3 HU3.out HROW3.out.slc (by have := HOL40.out; omega)).mono ?_
          rintro ev w4 ⟨rfl, hb4⟩
          have HB4 := Lib.hid (HB3.out.trans (hb4.mono HB3.out.size))
          clear hb4 HROW3 HU3 HB3
          go_wp2_with fail
          refine (parse_c A _ L W w4 (HS.out.below HB4.out) (HBY.out.row.below HB4.out) (by have := HBY.out.len; omega) HBY.out.byt HWB.out).mono ?_
          rintro ev w5 ⟨u5, rfl, hu5, hb5⟩
          have HB5 := Lib.hid (HB4.out.trans (hb5.mono HB4.out.size))
          clear hb5 HB4
          cases hn : (parE W L).isNil with
          | false =>
            obtain ⟨t5, v5, hev⟩ := parE_wf (A := A) hn
            rw [hn] at hu5
            have hu5 : u5 = .slice none 0 0 := hu5
            subst hu5
            rw [hev]
            clear hn hev
            go_wp2_with fail
            refine (progRuns A _ (HS.out.below HB5.out)).mono ?_
            rintro ev wz ⟨rfl, hbz⟩
            go_wp2_with fail
            go_ret
            exact ⟨rfl, HB5.out.trans (hbz.mono HB5.out.size)⟩
          | true =>
            have HD := Lib.hid (par_dec HBY.out.byt HWB.out hn)
            rw [hn] at hu5
            have hu5 : winRow w5 w4.heap.size 29 4 u5 (parL W L).length (flatP (parL W L)) := hu5
            have hnil : parE W L = .nil := by
              generalize parE W L = e at hn
              cases e <;> first | rfl | cases hn
            rw [hnil, show ErrT.nil.val A = .nilIface from rfl]
            obtain ⟨a5, c5, rfl⟩ := hu5.len
            have HU5 := Lib.hid hu5.slc
            generalize parL W L = x at *
            have HPX := Lib.hid (putE_all (fun o ho => (HD.out.1 o ho).1) HD.out.2.1 : putE W x = .nil)
            clear hn hu5 hnil
            go_wp2_with fail
            refine (put_c A _ x W w5 (HS.out.below HB5.out) HU5.out (fun o ho => (HD.out.1 o ho).2) (by have := HD.out.2.1; omega)).mono ?_
            rintro ev w6 ⟨u6, rfl, hu6, hb6⟩
            rw [HPX.out] at hu6 ⊢
            have hu6 : winRow w6 w5.heap.size 5 1 u6 (encP x).length (byteV (encP x)) := hu6
            rw [← HD.out.2.2] at hu6
            obtain ⟨a6, c6, rfl⟩ := hu6.len
            have HU6 := Lib.hid hu6.slc
            have HB6 := Lib.hid (HB5.out.trans (hb6.mono HB5.out.size))
            rw [show ErrT.nil.val A = .nilIface from rfl]
            clear hu6 hb6 HB5 HU5
            go_wp2_with fail
            refine (sameG_c L L _ _ w6 HU6.out (HBY.out.row.below HB6.out) (by have := HBY.out.len; omega) (by have := HBY.out.len; omega)).mono ?_
            rintro ev w7 ⟨rfl, hb7⟩
            rw [decide_eq_true (rfl : L = L)]
            have HB7 := Lib.hid (HB6.out.trans (hb7.mono HB6.out.size))
            clear hb7 HB6 HU6
            go_wp2_with fail
            refine (progRuns A _ (HS.out.below HB7.out)).mono ?_
            rintro ev wz ⟨rfl, hbz⟩
            go_wp2_with fail
            go_ret
            exact ⟨rfl, HB7.out.trans (hbz.mono HB7.out.size)⟩

end Go.Proofs.YtpljdbcifaeblaaDoor
