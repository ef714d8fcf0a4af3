/- PackBack: true; no condition but what a start gives. -/
import Derived.Test.YthmgccakhhggjaaDoorPk6
import Derived.Test.YthmgccakhhggjaaDoorByt
import Derived.Test.YthmgccakhhggjaaDoorBk
import Derived.Test.YthmgccakhhggjaaDoorErr7
namespace Go.Proofs.YthmgccakhhggjaaDoor
open Go.RowKit Go.Extern.Stop Go.Stop Go.Extern

theorem slc_take {w : World} {a : Option Addr} {n c k : Nat} {L : List Nat} (h : slc w 1 (.slice a n c) L.length (byteV L)) (hk : k ≤ L.length) : slc w 1 (.slice a k c) (L.take k).length (byteV (L.take k)) := by
  obtain ⟨_, a', c', he, hc⟩ := h
  simp only [Value.slice.injEq] at he
  obtain ⟨rfl, rfl, rfl⟩ := he
  have hl : (L.take k).length = k := by rw [List.length_take]; omega
  refine ⟨by rw [byteV_length, Nat.mul_one], a, c, by rw [hl], fun hpos => ?_⟩
  rw [hl] at hpos
  obtain ⟨g, off, ha, hg, hcc⟩ := hc (by omega)
  refine ⟨g, off, ha, hg, fun j u hj => hcc j u ?_⟩
  have hjk : j < k := by
    have := (List.getElem?_eq_some_iff.1 hj).1
    rw [byteV_length, hl] at this
    exact this
  simp only [byteV, List.getElem?_map, List.getElem?_take, if_pos hjk] at hj ⊢
  exact hj
theorem winRow.capn {w : World} {base size n : Nat} {e : TypeId} {a : Option Addr} {c : Nat} {xs : List Value} (h : winRow w base e size (.slice a n c) n xs) : n ≤ c := by
  rcases h.2 with ⟨h1, _⟩ | ⟨g, off, cap, cur, h1, _, _, hnc, _⟩
  · simp only [Value.slice.injEq] at h1
    omega
  · simp only [Value.slice.injEq] at h1
    omega
theorem cat_le (g : Nat → Int) {i m : Nat} (h : i ≤ m) : (cat g i).length ≤ (cat g m).length := by
  obtain ⟨r, hr⟩ := cat_split g i (m - i)
  rw [show i + (m - i) = m by omega] at hr
  rw [hr, List.length_append]
  omega

set_option maxRecDepth 100000 in
set_option maxHeartbeats 16000000 in
/-- The closure: reads as many numbers as l has; nil just if the bytes are whole. -/
theorem readC (A : Nat → Addr) (g : Nat → Int) (m kk : Nat) (v : Value) (bx : Nat) (pa : Option Addr) (capa : Nat) (w : World) (hs : SentAt w A) (hm : m ≤ 20) (hk : kk ≤ (cat g m).length)
    (hbd : ∀ i, i < m → -9223372036854775808 ≤ g i ∧ g i ≤ 9223372036854775807) (hv : slc w 1 v ((cat g m).take kk).length (byteV ((cat g m).take kk)))
    (hbx : w.heap[bx]? = some (.cells #[.slice pa m capa] 34 (0, 0))) (hel : ∀ i, i < m → ∃ b off, pa = some ⟨b, off, none⟩ ∧ b < w.heap.size ∧ w.cell? ⟨b, off + i, none⟩ = some (.int .i64 (g i))) :
    Calls Tryd.prog 27 #[v, .pointer (some ⟨bx, 0, none⟩)] w fun ev w' => ∃ E : ErrT, ev = .returned (E.val A) ∧ E.isNil = decide (kk = (cat g m).length) ∧ Below w.heap.size w w' := by
  have HS := Lib.hid hs
  have HM := Lib.hid hm
  have HK := Lib.hid hk
  have HBD := Lib.hid hbd
  have HV := Lib.hid hv
  have HBX := Lib.hid hbx
  have HEL := Lib.hid hel
  have hlt := (Array.getElem?_eq_some_iff.1 hbx).1
  have HLB := Lib.hid hlt
  have HCL := Lib.hid (cat_len g m hbd)
  have hPL : ((cat g m).take kk).length = kk := by rw [List.length_take]; omega
  have HPL := Lib.hid hPL
  clear hs hm hk hbd hv hbx hel hlt hPL
  go_enter Tryd.func27, Tryd.ntmps27
  go_wp2_with fail
  refine (read_c A v ((cat g m).take kk) w HV.out (by have := HPL.out; have := HK.out; have := HCL.out; have := HM.out; omega) (fun c hc => cat_byt g m c (List.mem_of_mem_take hc))).mono ?_
  rintro ev w1 ⟨b, vr, rfl, hR1, hb1, ho1, hB1⟩
  have HR1 := Lib.hid hR1
  have HB1 := Lib.hid hB1
  have HLT := Lib.hid hb1
  clear hR1 hb1 ho1 hB1
  go_wp2_with fail
  go_loopw [5] (fun s5 wr => ∃ (i at_ : Nat) (e : ErrT), s5 = .int .i64 i ∧ i ≤ m ∧ RdAt wr A b vr ((cat g m).take kk) at_ e ∧ ((e = .nil ∧ at_ = (cat g i).length ∧ at_ ≤ kk) ∨ (e.isNil = false ∧ kk < (cat g m).length)) ∧ Below w.heap.size w wr) (fun s5 _ => m - (intOf s5).toNat)
  case atStart => exact ⟨0, 0, .nil, rfl, by omega, HR1.out, .inl ⟨rfl, rfl, by omega⟩, HB1.out⟩
  case round =>
    clear HR1 HB1
    obtain ⟨i, at_, e, rfl, hi, hrd, hor, hB⟩ := hrel
    have HRD := Lib.hid hrd
    have HB := Lib.hid hB
    have c0 := cell_of ((hB.block bx HLB.out).trans HBX.out) 0
    simp only [List.getElem?_toArray, List.getElem?_cons_zero] at c0
    clear hrd hB
    by_cases him : i < m
    · have g3 : decide (i < m) = true := by simp; omega
      have hi20 : i < 20 := by have := HM.out; omega
      obtain ⟨bq, oq, rfl, hbq, hcq⟩ := HEL.out i him
      have HBI := Lib.hid (HBD.out i him)
      have HBQ := Lib.hid hbq
      have HCQ := Lib.hid hcq
      clear hbq hcq
      rcases hor with ⟨rfl, rfl, hak⟩ | ⟨hnil, hkm⟩
      · have hnx := cut_nxt g him HBI.out hak
        have HAK := Lib.hid hak
        clear hak
        by_cases hfit : (cat g (i + 1)).length ≤ kk
        · rw [if_pos hfit] at hnx
          have hst : stepR ((cat g m).take kk) (cat g i).length .nil (fun _ => true) = (g i, (cat g (i + 1)).length, .nil) := by simp [stepR, ErrT.isNil, hnx]
          have g6 : (g i != g i) = false := by simp
          have HST := Lib.hid hst
          have HFIT := Lib.hid hfit
          clear hst hfit hnx
          go_wp2_with fail
          refine (rnum_c A b vr _ _ .nil wr (HS.out.below HB.out) HRD.out).mono ?_
          rintro ev w4 ⟨rfl, hR4, hM4⟩
          rw [HST.out] at hR4 ⊢
          simp only at hR4 ⊢
          have HR4 := Lib.hid hR4
          have HB4 := Lib.hid (HB.out.trans (hM4.onlyB HLT.out HRD.out.lt))
          have e1 := (HB4.out.cell (p := ⟨bq, oq + i, none⟩) HBQ.out).trans HCQ.out
          have d0 := cell_of ((HB4.out.block bx HLB.out).trans HBX.out) 0
          simp only [List.getElem?_toArray, List.getElem?_cons_zero] at d0
          clear hR4 hM4
          go_wp2_with fail
          refine (wrong_c A b vr _ _ .nil w4 HR4.out).mono ?_
          rintro ev w' ⟨rfl, hww⟩
          obtain rfl := hww
          rw [show ErrT.nil.val A = .nilIface from rfl]
          go_wp2_with fail
          go_roundw
          case rel => exact ⟨i + 1, _, .nil, by go_num, by omega, HR4.out, .inl ⟨rfl, rfl, HFIT.out⟩, HB4.out⟩
          case measure => simp [intOf]; omega
        · rw [if_neg hfit] at hnx
          have hst : stepR ((cat g m).take kk) (cat g i).length .nil (fun _ => true) = (0, (cat g i).length, .wrap prT (cat g i).length (.sent 2)) := by simp [stepR, ErrT.isNil, hnx]
          have hkk : kk < (cat g m).length := by have := cat_le g (show i + 1 ≤ m by omega); omega
          have HST := Lib.hid hst
          have HKK := Lib.hid hkk
          clear hst hkk hfit hnx
          go_wp2_with fail
          refine (rnum_c A b vr _ _ .nil wr (HS.out.below HB.out) HRD.out).mono ?_
          rintro ev w4 ⟨rfl, hR4, hM4⟩
          rw [HST.out] at hR4 ⊢
          simp only at hR4 ⊢
          have HR4 := Lib.hid hR4
          have HB4 := Lib.hid (HB.out.trans (hM4.onlyB HLT.out HRD.out.lt))
          clear hR4 hM4
          go_wp2_with fail
          refine (wrong_c A b vr _ _ _ w4 HR4.out).mono ?_
          rintro ev w' ⟨rfl, hww⟩
          obtain rfl := hww
          rw [show (ErrT.wrap prT ((cat g i).length : Int) (.sent 2)).val A = .iface 61 (.agg #[.string prT, .int .i64 (cat g i).length, .iface 97 (.pointer (some (A 2)))]) from rfl]
          go_wp2_with fail
          go_roundw
          case rel => exact ⟨i + 1, _, _, by go_num, by omega, HR4.out, .inr ⟨rfl, HKK.out⟩, HB4.out⟩
          case measure => simp [intOf]; omega
      · have hst : stepR ((cat g m).take kk) at_ e (fun _ => true) = (0, at_, e) := by simp [stepR, hnil]
        have hn := fun w => eqlNil A e w
        have hgn := fun op x c w => eqGuardNil A e op x c w
        simp only [hnil] at hn
        have HST := Lib.hid hst
        have HNIL := Lib.hid hnil
        have HKK := Lib.hid hkm
        have hE : ∃ ve, e.val A = ve := ⟨_, rfl⟩
        obtain ⟨ve, hve⟩ := hE
        rw [hve] at hn hgn
        have HVE := Lib.hid hve
        clear hst hnil hkm hve
        go_wp2_with fail
        refine (rnum_c A b vr _ _ e wr (HS.out.below HB.out) HRD.out).mono ?_
        rintro ev w4 ⟨rfl, hR4, hM4⟩
        rw [HST.out] at hR4 ⊢
        simp only at hR4 ⊢
        have HR4 := Lib.hid hR4
        have HB4 := Lib.hid (HB.out.trans (hM4.onlyB HLT.out HRD.out.lt))
        clear hR4 hM4
        go_wp2_with fail
        refine (wrong_c A b vr _ _ e w4 HR4.out).mono ?_
        rintro ev w' ⟨rfl, hww⟩
        obtain rfl := hww
        rw [HVE.out]
        go_wp2_with fail
        go_roundw
        case rel => exact ⟨i + 1, at_, e, by go_num, by omega, HR4.out, .inr ⟨HNIL.out, HKK.out⟩, HB4.out⟩
        case measure => simp [intOf]; omega
    · have g3 : decide (i < m) = false := by simp; omega
      have him2 : i = m := by omega
      have HIM := Lib.hid him2
      clear him him2 hi
      have HOR := Lib.hid hor
      clear hor
      go_wp2_with fail
      refine (rend_c A b vr _ at_ e wr (HS.out.below HB.out) HRD.out).mono ?_
      rintro ev w5 ⟨rfl, hR5, hM5⟩
      have HB5 := Lib.hid (HB.out.trans (hM5.onlyB HLT.out HRD.out.lt))
      clear hR5 hM5
      have hend : (endE ((cat g m).take kk) at_ e).isNil = decide (kk = (cat g m).length) := by
        have hK := HK.out
        rcases HOR.out with ⟨rfl, hat, hak⟩ | ⟨hnil, hkm⟩
        · rw [HIM.out] at hat
          have : endE ((cat g m).take kk) at_ .nil = .nil := by
            unfold endE
            simp only [ErrT.isNil, if_true]
            rw [if_neg (by have := HPL.out; omega)]
          rw [this, decide_eq_true (by omega)]
          rfl
        · rw [show endE ((cat g m).take kk) at_ e = e by simp [endE, hnil], hnil, decide_eq_false (by omega)]
      have HEND := Lib.hid hend
      clear hend
      generalize endE ((cat g m).take kk) at_ e = E at *
      have hE : ∃ ve, E.val A = ve := ⟨_, rfl⟩
      obtain ⟨ve, hve⟩ := hE
      have HVE := Lib.hid hve
      rw [hve]
      clear hve
      go_wp2_with fail
      go_ret
      exact ⟨E, by rw [HVE.out]; rfl, HEND.out, HB5.out⟩

set_option maxRecDepth 100000 in
set_option maxHeartbeats 16000000 in
theorem packBack (A : Nat → Addr) (v : Value) (n : Nat) (g : Nat → Int) (cut : Int) (vb : Value) (l : List Nat) (w : World) (hs : SentAt w A) (ha : IntsC w v n g) (hcut : -9223372036854775808 ≤ cut ∧ cut ≤ 9223372036854775807) (hb : BytesIn w vb l) :
    Calls Tryd.prog 7 #[v, .int .i64 cut, vb] w (TruePost w) := by
  have HS := Lib.hid hs
  have HBD := Lib.hid fun i (h : i < n) => Go.bounds_i64 (ha.row.num i h)
  obtain ⟨pa, capa, rfl, hel⟩ := ha.row.form
  have hcap := ha.cap _ _ _ rfl
  have HEL := Lib.hid hel
  have HMAX := Lib.hid ha.row.len
  have HBY := Lib.hid hb.byt
  have HLEN := Lib.hid hb.len
  have HV := Lib.hid hb.row
  have HCAP := Lib.hid hb.cap
  obtain ⟨_, adv, capv, rfl, _⟩ := hb.row
  have HCT := Lib.hid hcut
  clear hs ha hel hb hcut
  by_cases hn20 : 20 < n
  · have g1 : decide ((n : Int) > 20) = true := by simp; omega
    have g2 : (20 : Nat) ≤ capa := by omega
    have HNM := Lib.hid (show 20 ≤ n by omega)
    have HM := Lib.hid (show 20 ≤ 20 by omega)
    clear hn20 hcap
    go_enter Tryd.func7, Tryd.ntmps7
    go_wp2_with fail
    have hX0 : (w.alloc (.cells #[.slice pa 20 capa] 34)).heap[w.heap.size]? = some (.cells #[.slice pa 20 capa] 34 (0, 0)) := heap_alloc_new w _
    have hb0 : Below w.heap.size w (w.alloc (.cells #[.slice pa 20 capa] 34)) := (Below.refl _ _).alloc (Nat.le_refl _) _
    generalize w.alloc (.cells #[.slice pa 20 capa] 34) = w0 at hX0 hb0 ⊢
    have HL0 := Lib.hid (Array.getElem?_eq_some_iff.1 hX0).1
    have HX0 := Lib.hid hX0
    have HB0 := Lib.hid hb0
    clear hX0 hb0 g1 g2
    go_loopw [7, 8] (fun s7 s8 wr => ∃ k : Nat, k ≤ 20 ∧ s8 = .int .i64 k ∧ winRow wr w0.heap.size 5 1 s7 (cat g k).length (byteV (cat g k)) ∧ Below w0.heap.size w0 wr) (fun _ s8 _ => 20 - (intOf s8).toNat)
    case atStart => exact ⟨0, by omega, rfl, winRow_nil .., Below.refl _ _⟩
    case round =>
      obtain ⟨k, hk, rfl, h7, hB⟩ := hrel
      have H7 := Lib.hid h7
      have HB := Lib.hid hB
      have HW := Lib.hid (HB0.out.trans (hB.mono HB0.out.size))
      obtain ⟨ad7, cap7, rfl⟩ := h7.len
      have c0 := cell_of ((hB.block w.heap.size HL0.out).trans HX0.out) 0
      simp only [List.getElem?_toArray, List.getElem?_cons_zero] at c0
      clear h7 hB
      by_cases hkm : k < 20
      · have g3 : decide ((k : Int) < 20) = true := by simp; omega
        have hk20 : k < 20 := by have := HM.out; omega
        obtain ⟨bq, oq, rfl, hbq, hcq⟩ := HEL.out k (by have := HNM.out; omega)
        have e1 := (HW.out.cell (p := ⟨bq, oq + k, none⟩) hbq).trans hcq
        have HBK := Lib.hid (HBD.out k (by have := HNM.out; omega))
        have HCL := Lib.hid (cat_len g k fun i hi => HBD.out i (by have := HNM.out; omega))
        clear hcq hbq
        go_wp2_with fail
        refine (num_c _ (cat g k) (g k) wr H7.out.slc HBK.out (by have := HCL.out; omega)).mono ?_
        rintro ev w2 ⟨u2, rfl, hu2, hb2⟩
        have HB2 := Lib.hid (HB.out.trans (hb2.mono HB.out.size))
        have H72 := Lib.hid (hu2.base_le fun q hq => Nat.le_trans HB.out.size (hu2.lt q hq).1)
        obtain ⟨ad2, cap2, rfl⟩ := hu2.len
        clear hu2 hb2
        go_wp2_with fail
        go_roundw
        case rel =>
          refine ⟨k + 1, by omega, by go_num, ?_, HB2.out⟩
          simp only [cat, List.length_append]
          exact H72.out
        case measure => simp [intOf]; omega
      · have g3 : decide ((k : Int) < 20) = false := by simp; omega
        have hkM : k = 20 := by omega
        clear hkm hk
        subst hkM
        rename World => wm
        have HCL := Lib.hid (cat_len g 20 fun i hi => HBD.out i (by have := HNM.out; omega))
        have HC7 := Lib.hid H7.out.capn
        have hwi := wiF_b (n := cut) (lo := 0) (hi := ((cat g 20).length : Int)) (by omega)
        obtain ⟨kk, hkk⟩ : ∃ kk : Nat, wiF cut 0 ((cat g 20).length : Int) = (kk : Int) := ⟨(wiF cut 0 ((cat g 20).length : Int)).toNat, by omega⟩
        have HKL := Lib.hid (show kk ≤ (cat g 20).length by omega)
        have HKK := Lib.hid hkk
        clear hwi hkk
        go_wp2_with fail
        refine (Within_b cut 0 ((cat g 20).length : Int) wm (by omega) (by omega) (by have := HCL.out; have := HM.out; omega) HCT.out.1 HCT.out.2).mono ?_
        rintro ev w' ⟨rfl, hww⟩
        obtain rfl := hww
        rw [HKK.out]
        go_wp2_with fail
        refine (read_c A _ l wm (HV.out.below HW.out) (by have := HLEN.out; omega) HBY.out).mono ?_
        rintro ev w3 ⟨b, vr, rfl, hR3, hb3, ho3, hB3⟩
        have HR3 := Lib.hid hR3
        have HB3 := Lib.hid (HB.out.trans (hB3.mono HB.out.size))
        have HW3 := Lib.hid (HW.out.trans (hB3.mono HW.out.size))
        have HS7 := Lib.hid (slc_take (H7.out.slc.below hB3) HKL.out)
        have HLT := Lib.hid (Nat.le_trans HW.out.size hb3)
        clear hR3 hb3 ho3 hB3 c0 g3
        obtain ⟨q, hq⟩ : ∃ q : Bool, decide (kk = (cat g 20).length) = q := ⟨_, rfl⟩
        have HQ := Lib.hid hq
        have gq1 : (kk == (cat g 20).length) = q := by rw [← hq]; rfl
        have gq2 : ((kk : Int) == ((cat g 20).length : Int)) = q := by
          rw [← hq]
          by_cases h : kk = (cat g 20).length
          · simp [h]
          · rw [decide_eq_false h]
            simp
            omega
        have gqq : (q == q) = true := by cases q <;> rfl
        have gqn : (q != q) = false := by cases q <;> rfl
        have hkl := HKL.out
        have hc7 := HC7.out
        have hkc : kk ≤ cap7 := by omega
        clear hq
        go_wp2_with fail
        refine (readC A g 20 kk _ w.heap.size pa capa w3 (HS.out.below HW3.out) (by have := HM.out; omega) HKL.out (fun i hi => HBD.out i (by have := HNM.out; omega)) HS7.out ((HB3.out.block w.heap.size HL0.out).trans HX0.out) (fun i hi => by
          obtain ⟨bq, oq, h1, h2, h3⟩ := HEL.out i (by have := HNM.out; omega)
          exact ⟨bq, oq, h1, Nat.lt_of_lt_of_le h2 HW3.out.size, (HW3.out.cell (p := ⟨bq, oq + i, none⟩) h2).trans h3⟩)).mono ?_
        rintro ev w4 ⟨E, rfl, hE, hb4⟩
        rw [HQ.out] at hE
        have hn := fun w => eqlNil A E w
        have hgn := fun op x c w => eqGuardNil A E op x c w
        simp only [hE] at hn
        have HW4 := Lib.hid (HW3.out.trans (hb4.mono HW3.out.size))
        have HR4 := Lib.hid (HR3.out.below hb4)
        obtain ⟨ve, hve⟩ : ∃ ve, E.val A = ve := ⟨_, rfl⟩
        rw [hve] at hn hgn ⊢
        clear hE hve hb4
        go_wp2_with fail
        refine (rnum_c A b vr l 0 .nil w4 (HS.out.below HW4.out) HR4.out).mono ?_
        rintro ev w5 ⟨rfl, hR5, hM5⟩
        have HW5 := Lib.hid (HW4.out.trans (hM5.onlyB HLT.out HR4.out.lt))
        clear hM5 hn hgn gq1 gq2 gqq gqn hkl hc7 hkc
        rcases nxt_or l 0 (Nat.zero_le _) with ⟨nn, a, hx, ha⟩ | ⟨s, hx, hs23⟩
        · have hst : stepR l 0 .nil (fun _ => true) = (nn, a, .nil) := by simp [stepR, ErrT.isNil, hx]
          obtain ⟨hown, hnb⟩ := nxt_own HBY.out hx
          rw [hst] at hR5 ⊢
          simp only at hR5 ⊢
          have HR5 := Lib.hid hR5
          have HOWN := Lib.hid hown
          have HNB := Lib.hid hnb
          have HA := Lib.hid ha
          have hacap : a ≤ capv := Nat.le_trans ha (HCAP.out _ _ _ rfl)
          have ga : decide (a ≤ l.length) = true := by simp; omega
          have ga2 : decide ((a : Int) ≥ 0) = true := by simp
          clear hR5 hown hnb hx hst
          go_wp2_with fail
          refine (at_c A b vr _ _ .nil w5 HR5.out).mono ?_
          rintro ev w' ⟨rfl, hww⟩
          obtain rfl := hww
          go_wp2_with fail
          refine wp_region_lexA ⟨[], []⟩ (fun x => Below w5.heap.size w5 x) (by kernel_rfl) (by kernel_rfl) (Below.refl _ _).drew ?_
          intro S hto hof hne
          have Hof := Lib.hid hof
          clear hto hof
          refine lexW_light 1 (by kernel_rfl) ?_
          simp only [List.take_succ_cons, List.take_zero, List.drop_succ_cons, List.drop_zero]
          repeat (first | go_big_quiet_skip | (go_big_quiet_want; go_big_quiet_op; go_big_quiet_on))
          refine wpQuiet_nil ?_
          refine lexW_heavy (by kernel_rfl) ?_
          go_wp2_with fail
          refine (wrong_c A b vr _ _ .nil _ (HR5.out.below (Below.refl _ _).drew)).mono ?_
          rintro ev w' ⟨rfl, hww⟩
          obtain rfl := hww
          rw [show ErrT.nil.val A = .nilIface from rfl]
          go_wp2_with fail
          refine lexQ_more (Hof.out _ (Below.refl _ _).drew) ?_
          refine lexW_light 12 (by kernel_rfl) ?_
          simp only [List.take_succ_cons, List.take_zero, List.drop_succ_cons, List.drop_zero]
          repeat (first | go_big_quiet_skip | (go_big_quiet_want; go_big_quiet_op; go_big_quiet_on))
          refine wpQuiet_nil ?_
          refine lexW_heavy (by kernel_rfl) ?_
          go_wp2_with fail
          refine (num_c _ [] nn _ (slc_nilB _) HNB.out (by simp)).mono ?_
          rintro ev w6 ⟨u6, rfl, hu6, hb6⟩
          simp only [List.nil_append, List.length_nil, Nat.zero_add] at hu6
          have HU6 := Lib.hid hu6.slc
          have HB6 := Lib.hid ((Below.refl w5.heap.size w5).drew.trans hb6)
          obtain ⟨ad6, cap6, rfl⟩ := hu6.len
          clear hu6 hb6
          go_wp2_with fail
          refine lexQ_more (Hof.out _ HB6.out) ?_
          refine lexW_light 3 (by kernel_rfl) ?_
          simp only [List.take_succ_cons, List.take_zero, List.drop_succ_cons, List.drop_zero]
          repeat (first | go_big_quiet_skip | (go_big_quiet_want; go_big_quiet_op; go_big_quiet_on))
          refine wpQuiet_nil ?_
          refine lexW_heavy (by kernel_rfl) ?_
          go_wp2_with fail
          refine (sameG_c (enc (zig nn)) (l.take a) _ _ _ HU6.out (slc_take (HV.out.below (HW5.out.trans (HB6.out.mono HW5.out.size))) HA.out) (by have := enc_len10 (zig_lt HNB.out); omega) (by have := HLEN.out; rw [List.length_take]; omega)).mono ?_
          rintro ev w7 ⟨rfl, hb7⟩
          rw [decide_eq_true HOWN.out]
          have HB7 := Lib.hid (HB6.out.trans (hb7.mono HB6.out.size))
          clear hb7
          go_wp2_with fail
          refine lexQ_more (Hof.out _ HB7.out) ?_
          refine lexW_light 3 (by kernel_rfl) ?_
          simp only [List.take_succ_cons, List.take_zero, List.drop_succ_cons, List.drop_zero]
          repeat (first | go_big_quiet_skip | (go_big_quiet_want; go_big_quiet_op; go_big_quiet_on))
          refine wpQuiet_nil ?_
          refine lexW_heavy (by kernel_rfl) ?_
          go_wp2_with fail
          refine (packRuns A _ (HS.out.below (HW5.out.trans (HB7.out.mono HW5.out.size)))).mono ?_
          rintro ev w14 ⟨rfl, hb14⟩
          have HB14 := Lib.hid (HB7.out.trans (hb14.mono HB7.out.size))
          clear hb14
          go_wp2_with fail
          refine lexQ_more (Hof.out _ HB14.out) ?_
          refine lexW_light 2 (by kernel_rfl) ?_
          simp only [List.take_succ_cons, List.take_zero, List.drop_succ_cons, List.drop_zero]
          repeat (first | go_big_quiet_skip | (go_big_quiet_want; go_big_quiet_op; go_big_quiet_on))
          refine wpQuiet_nil ?_
          refine lexW_done ?_
          go_wp2_with fail
          go_ret
          exact ⟨rfl, HW5.out.trans (HB14.out.mono HW5.out.size)⟩
        · have hst : stepR l 0 .nil (fun _ => true) = (0, 0, .wrap prT 0 (.sent s)) := by simp [stepR, ErrT.isNil, hx]
          rw [hst] at hR5 ⊢
          simp only at hR5 ⊢
          have HR5 := Lib.hid hR5
          clear hR5 hx hst hs23
          go_wp2_with fail
          refine (at_c A b vr _ _ _ w5 HR5.out).mono ?_
          rintro ev w' ⟨rfl, hww⟩
          obtain rfl := hww
          go_wp2_with fail
          refine wp_region_lexA ⟨[], []⟩ (fun x => Below w5.heap.size w5 x) (by kernel_rfl) (by kernel_rfl) (Below.refl _ _).drew ?_
          intro S hto hof hne
          have Hof := Lib.hid hof
          clear hto hof
          refine lexW_light 1 (by kernel_rfl) ?_
          simp only [List.take_succ_cons, List.take_zero, List.drop_succ_cons, List.drop_zero]
          repeat (first | go_big_quiet_skip | (go_big_quiet_want; go_big_quiet_op; go_big_quiet_on))
          refine wpQuiet_nil ?_
          refine lexW_heavy (by kernel_rfl) ?_
          go_wp2_with fail
          refine (wrong_c A b vr _ _ _ _ (HR5.out.below (Below.refl _ _).drew)).mono ?_
          rintro ev w' ⟨rfl, hww⟩
          obtain rfl := hww
          rw [show (ErrT.wrap prT 0 (.sent s)).val A = .iface 61 (.agg #[.string prT, .int .i64 0, .iface 97 (.pointer (some (A s)))]) from rfl]
          go_wp2_with fail
          refine lexQ_more (Hof.out _ (Below.refl _ _).drew) ?_
          refine lexW_light 12 (by kernel_rfl) ?_
          simp only [List.take_succ_cons, List.take_zero, List.drop_succ_cons, List.drop_zero]
          repeat (first | go_big_quiet_skip | (go_big_quiet_want; go_big_quiet_op; go_big_quiet_on))
          refine wpQuiet_nil ?_
          refine lexW_heavy (by kernel_rfl) ?_
          go_wp2_with fail
          refine lexQ_more (Hof.out _ (Below.refl _ _).drew) ?_
          refine lexW_light 3 (by kernel_rfl) ?_
          simp only [List.take_succ_cons, List.take_zero, List.drop_succ_cons, List.drop_zero]
          repeat (first | go_big_quiet_skip | (go_big_quiet_want; go_big_quiet_op; go_big_quiet_on))
          refine wpQuiet_nil ?_
          refine lexW_heavy (by kernel_rfl) ?_
          go_wp2_with fail
          refine lexQ_more (Hof.out _ (Below.refl _ _).drew) ?_
          refine lexW_light 3 (by kernel_rfl) ?_
          simp only [List.take_succ_cons, List.take_zero, List.drop_succ_cons, List.drop_zero]
          repeat (first | go_big_quiet_skip | (go_big_quiet_want; go_big_quiet_op; go_big_quiet_on))
          refine wpQuiet_nil ?_
          refine lexW_heavy (by kernel_rfl) ?_
          go_wp2_with fail
          refine (packRuns A _ (HS.out.below HW5.out.drew)).mono ?_
          rintro ev w14 ⟨rfl, hb14⟩
          have HB14 := Lib.hid ((Below.refl w5.heap.size w5).drew.trans hb14)
          clear hb14
          go_wp2_with fail
          refine lexQ_more (Hof.out _ HB14.out) ?_
          refine lexW_light 2 (by kernel_rfl) ?_
          simp only [List.take_succ_cons, List.take_zero, List.drop_succ_cons, List.drop_zero]
          repeat (first | go_big_quiet_skip | (go_big_quiet_want; go_big_quiet_op; go_big_quiet_on))
          refine wpQuiet_nil ?_
          refine lexW_done ?_
          go_wp2_with fail
          go_ret
          exact ⟨rfl, HW5.out.trans (HB14.out.mono HW5.out.size)⟩
  · have g1 : decide ((n : Int) > 20) = false := by simp; omega
    have HNM := Lib.hid (show n ≤ n by omega)
    have HM := Lib.hid (show n ≤ 20 by omega)
    clear hn20 hcap
    go_enter Tryd.func7, Tryd.ntmps7
    go_wp2_with fail
    have hX0 : (w.alloc (.cells #[.slice pa n capa] 34)).heap[w.heap.size]? = some (.cells #[.slice pa n capa] 34 (0, 0)) := heap_alloc_new w _
    have hb0 : Below w.heap.size w (w.alloc (.cells #[.slice pa n capa] 34)) := (Below.refl _ _).alloc (Nat.le_refl _) _
    generalize w.alloc (.cells #[.slice pa n capa] 34) = w0 at hX0 hb0 ⊢
    have HL0 := Lib.hid (Array.getElem?_eq_some_iff.1 hX0).1
    have HX0 := Lib.hid hX0
    have HB0 := Lib.hid hb0
    clear hX0 hb0 g1
    go_loopw [7, 8] (fun s7 s8 wr => ∃ k : Nat, k ≤ n ∧ s8 = .int .i64 k ∧ winRow wr w0.heap.size 5 1 s7 (cat g k).length (byteV (cat g k)) ∧ Below w0.heap.size w0 wr) (fun _ s8 _ => n - (intOf s8).toNat)
    case atStart => exact ⟨0, by omega, rfl, winRow_nil .., Below.refl _ _⟩
    case round =>
      obtain ⟨k, hk, rfl, h7, hB⟩ := hrel
      have H7 := Lib.hid h7
      have HB := Lib.hid hB
      have HW := Lib.hid (HB0.out.trans (hB.mono HB0.out.size))
      obtain ⟨ad7, cap7, rfl⟩ := h7.len
      have c0 := cell_of ((hB.block w.heap.size HL0.out).trans HX0.out) 0
      simp only [List.getElem?_toArray, List.getElem?_cons_zero] at c0
      clear h7 hB
      by_cases hkm : k < n
      · have g3 : decide (k < n) = true := by simp; omega
        have hk20 : k < 20 := by have := HM.out; omega
        obtain ⟨bq, oq, rfl, hbq, hcq⟩ := HEL.out k (by have := HNM.out; omega)
        have e1 := (HW.out.cell (p := ⟨bq, oq + k, none⟩) hbq).trans hcq
        have HBK := Lib.hid (HBD.out k (by have := HNM.out; omega))
        have HCL := Lib.hid (cat_len g k fun i hi => HBD.out i (by have := HNM.out; omega))
        clear hcq hbq
        go_wp2_with fail
        refine (num_c _ (cat g k) (g k) wr H7.out.slc HBK.out (by have := HCL.out; omega)).mono ?_
        rintro ev w2 ⟨u2, rfl, hu2, hb2⟩
        have HB2 := Lib.hid (HB.out.trans (hb2.mono HB.out.size))
        have H72 := Lib.hid (hu2.base_le fun q hq => Nat.le_trans HB.out.size (hu2.lt q hq).1)
        obtain ⟨ad2, cap2, rfl⟩ := hu2.len
        clear hu2 hb2
        go_wp2_with fail
        go_roundw
        case rel =>
          refine ⟨k + 1, by omega, by go_num, ?_, HB2.out⟩
          simp only [cat, List.length_append]
          exact H72.out
        case measure => simp [intOf]; omega
      · have g3 : decide (k < n) = false := by simp; omega
        have hkM : k = n := by omega
        clear hkm hk
        subst hkM
        rename World => wm
        have HCL := Lib.hid (cat_len g k fun i hi => HBD.out i (by have := HNM.out; omega))
        have HC7 := Lib.hid H7.out.capn
        have hwi := wiF_b (n := cut) (lo := 0) (hi := ((cat g k).length : Int)) (by omega)
        obtain ⟨kk, hkk⟩ : ∃ kk : Nat, wiF cut 0 ((cat g k).length : Int) = (kk : Int) := ⟨(wiF cut 0 ((cat g k).length : Int)).toNat, by omega⟩
        have HKL := Lib.hid (show kk ≤ (cat g k).length by omega)
        have HKK := Lib.hid hkk
        clear hwi hkk
        go_wp2_with fail
        refine (Within_b cut 0 ((cat g k).length : Int) wm (by omega) (by omega) (by have := HCL.out; have := HM.out; omega) HCT.out.1 HCT.out.2).mono ?_
        rintro ev w' ⟨rfl, hww⟩
        obtain rfl := hww
        rw [HKK.out]
        go_wp2_with fail
        refine (read_c A _ l wm (HV.out.below HW.out) (by have := HLEN.out; omega) HBY.out).mono ?_
        rintro ev w3 ⟨b, vr, rfl, hR3, hb3, ho3, hB3⟩
        have HR3 := Lib.hid hR3
        have HB3 := Lib.hid (HB.out.trans (hB3.mono HB.out.size))
        have HW3 := Lib.hid (HW.out.trans (hB3.mono HW.out.size))
        have HS7 := Lib.hid (slc_take (H7.out.slc.below hB3) HKL.out)
        have HLT := Lib.hid (Nat.le_trans HW.out.size hb3)
        clear hR3 hb3 ho3 hB3 c0 g3
        obtain ⟨q, hq⟩ : ∃ q : Bool, decide (kk = (cat g k).length) = q := ⟨_, rfl⟩
        have HQ := Lib.hid hq
        have gq1 : (kk == (cat g k).length) = q := by rw [← hq]; rfl
        have gq2 : ((kk : Int) == ((cat g k).length : Int)) = q := by
          rw [← hq]
          by_cases h : kk = (cat g k).length
          · simp [h]
          · rw [decide_eq_false h]
            simp
            omega
        have gqq : (q == q) = true := by cases q <;> rfl
        have gqn : (q != q) = false := by cases q <;> rfl
        have hkl := HKL.out
        have hc7 := HC7.out
        have hkc : kk ≤ cap7 := by omega
        clear hq
        go_wp2_with fail
        refine (readC A g k kk _ w.heap.size pa capa w3 (HS.out.below HW3.out) (by have := HM.out; omega) HKL.out (fun i hi => HBD.out i (by have := HNM.out; omega)) HS7.out ((HB3.out.block w.heap.size HL0.out).trans HX0.out) (fun i hi => by
          obtain ⟨bq, oq, h1, h2, h3⟩ := HEL.out i (by have := HNM.out; omega)
          exact ⟨bq, oq, h1, Nat.lt_of_lt_of_le h2 HW3.out.size, (HW3.out.cell (p := ⟨bq, oq + i, none⟩) h2).trans h3⟩)).mono ?_
        rintro ev w4 ⟨E, rfl, hE, hb4⟩
        rw [HQ.out] at hE
        have hn := fun w => eqlNil A E w
        have hgn := fun op x c w => eqGuardNil A E op x c w
        simp only [hE] at hn
        have HW4 := Lib.hid (HW3.out.trans (hb4.mono HW3.out.size))
        have HR4 := Lib.hid (HR3.out.below hb4)
        obtain ⟨ve, hve⟩ : ∃ ve, E.val A = ve := ⟨_, rfl⟩
        rw [hve] at hn hgn ⊢
        clear hE hve hb4
        go_wp2_with fail
        refine (rnum_c A b vr l 0 .nil w4 (HS.out.below HW4.out) HR4.out).mono ?_
        rintro ev w5 ⟨rfl, hR5, hM5⟩
        have HW5 := Lib.hid (HW4.out.trans (hM5.onlyB HLT.out HR4.out.lt))
        clear hM5 hn hgn gq1 gq2 gqq gqn hkl hc7 hkc
        rcases nxt_or l 0 (Nat.zero_le _) with ⟨nn, a, hx, ha⟩ | ⟨s, hx, hs23⟩
        · have hst : stepR l 0 .nil (fun _ => true) = (nn, a, .nil) := by simp [stepR, ErrT.isNil, hx]
          obtain ⟨hown, hnb⟩ := nxt_own HBY.out hx
          rw [hst] at hR5 ⊢
          simp only at hR5 ⊢
          have HR5 := Lib.hid hR5
          have HOWN := Lib.hid hown
          have HNB := Lib.hid hnb
          have HA := Lib.hid ha
          have hacap : a ≤ capv := Nat.le_trans ha (HCAP.out _ _ _ rfl)
          have ga : decide (a ≤ l.length) = true := by simp; omega
          have ga2 : decide ((a : Int) ≥ 0) = true := by simp
          clear hR5 hown hnb hx hst
          go_wp2_with fail
          refine (at_c A b vr _ _ .nil w5 HR5.out).mono ?_
          rintro ev w' ⟨rfl, hww⟩
          obtain rfl := hww
          go_wp2_with fail
          refine wp_region_lexA ⟨[], []⟩ (fun x => Below w5.heap.size w5 x) (by kernel_rfl) (by kernel_rfl) (Below.refl _ _).drew ?_
          intro S hto hof hne
          have Hof := Lib.hid hof
          clear hto hof
          refine lexW_light 1 (by kernel_rfl) ?_
          simp only [List.take_succ_cons, List.take_zero, List.drop_succ_cons, List.drop_zero]
          repeat (first | go_big_quiet_skip | (go_big_quiet_want; go_big_quiet_op; go_big_quiet_on))
          refine wpQuiet_nil ?_
          refine lexW_heavy (by kernel_rfl) ?_
          go_wp2_with fail
          refine (wrong_c A b vr _ _ .nil _ (HR5.out.below (Below.refl _ _).drew)).mono ?_
          rintro ev w' ⟨rfl, hww⟩
          obtain rfl := hww
          rw [show ErrT.nil.val A = .nilIface from rfl]
          go_wp2_with fail
          refine lexQ_more (Hof.out _ (Below.refl _ _).drew) ?_
          refine lexW_light 12 (by kernel_rfl) ?_
          simp only [List.take_succ_cons, List.take_zero, List.drop_succ_cons, List.drop_zero]
          repeat (first | go_big_quiet_skip | (go_big_quiet_want; go_big_quiet_op; go_big_quiet_on))
          refine wpQuiet_nil ?_
          refine lexW_heavy (by kernel_rfl) ?_
          go_wp2_with fail
          refine (num_c _ [] nn _ (slc_nilB _) HNB.out (by simp)).mono ?_
          rintro ev w6 ⟨u6, rfl, hu6, hb6⟩
          simp only [List.nil_append, List.length_nil, Nat.zero_add] at hu6
          have HU6 := Lib.hid hu6.slc
          have HB6 := Lib.hid ((Below.refl w5.heap.size w5).drew.trans hb6)
          obtain ⟨ad6, cap6, rfl⟩ := hu6.len
          clear hu6 hb6
          go_wp2_with fail
          refine lexQ_more (Hof.out _ HB6.out) ?_
          refine lexW_light 3 (by kernel_rfl) ?_
          simp only [List.take_succ_cons, List.take_zero, List.drop_succ_cons, List.drop_zero]
          repeat (first | go_big_quiet_skip | (go_big_quiet_want; go_big_quiet_op; go_big_quiet_on))
          refine wpQuiet_nil ?_
          refine lexW_heavy (by kernel_rfl) ?_
          go_wp2_with fail
          refine (sameG_c (enc (zig nn)) (l.take a) _ _ _ HU6.out (slc_take (HV.out.below (HW5.out.trans (HB6.out.mono HW5.out.size))) HA.out) (by have := enc_len10 (zig_lt HNB.out); omega) (by have := HLEN.out; rw [List.length_take]; omega)).mono ?_
          rintro ev w7 ⟨rfl, hb7⟩
          rw [decide_eq_true HOWN.out]
          have HB7 := Lib.hid (HB6.out.trans (hb7.mono HB6.out.size))
          clear hb7
          go_wp2_with fail
          refine lexQ_more (Hof.out _ HB7.out) ?_
          refine lexW_light 3 (by kernel_rfl) ?_
          simp only [List.take_succ_cons, List.take_zero, List.drop_succ_cons, List.drop_zero]
          repeat (first | go_big_quiet_skip | (go_big_quiet_want; go_big_quiet_op; go_big_quiet_on))
          refine wpQuiet_nil ?_
          refine lexW_heavy (by kernel_rfl) ?_
          go_wp2_with fail
          refine (packRuns A _ (HS.out.below (HW5.out.trans (HB7.out.mono HW5.out.size)))).mono ?_
          rintro ev w14 ⟨rfl, hb14⟩
          have HB14 := Lib.hid (HB7.out.trans (hb14.mono HB7.out.size))
          clear hb14
          go_wp2_with fail
          refine lexQ_more (Hof.out _ HB14.out) ?_
          refine lexW_light 2 (by kernel_rfl) ?_
          simp only [List.take_succ_cons, List.take_zero, List.drop_succ_cons, List.drop_zero]
          repeat (first | go_big_quiet_skip | (go_big_quiet_want; go_big_quiet_op; go_big_quiet_on))
          refine wpQuiet_nil ?_
          refine lexW_done ?_
          go_wp2_with fail
          go_ret
          exact ⟨rfl, HW5.out.trans (HB14.out.mono HW5.out.size)⟩
        · have hst : stepR l 0 .nil (fun _ => true) = (0, 0, .wrap prT 0 (.sent s)) := by simp [stepR, ErrT.isNil, hx]
          rw [hst] at hR5 ⊢
          simp only at hR5 ⊢
          have HR5 := Lib.hid hR5
          clear hR5 hx hst hs23
          go_wp2_with fail
          refine (at_c A b vr _ _ _ w5 HR5.out).mono ?_
          rintro ev w' ⟨rfl, hww⟩
          obtain rfl := hww
          go_wp2_with fail
          refine wp_region_lexA ⟨[], []⟩ (fun x => Below w5.heap.size w5 x) (by kernel_rfl) (by kernel_rfl) (Below.refl _ _).drew ?_
          intro S hto hof hne
          have Hof := Lib.hid hof
          clear hto hof
          refine lexW_light 1 (by kernel_rfl) ?_
          simp only [List.take_succ_cons, List.take_zero, List.drop_succ_cons, List.drop_zero]
          repeat (first | go_big_quiet_skip | (go_big_quiet_want; go_big_quiet_op; go_big_quiet_on))
          refine wpQuiet_nil ?_
          refine lexW_heavy (by kernel_rfl) ?_
          go_wp2_with fail
          refine (wrong_c A b vr _ _ _ _ (HR5.out.below (Below.refl _ _).drew)).mono ?_
          rintro ev w' ⟨rfl, hww⟩
          obtain rfl := hww
          rw [show (ErrT.wrap prT 0 (.sent s)).val A = .iface 61 (.agg #[.string prT, .int .i64 0, .iface 97 (.pointer (some (A s)))]) from rfl]
          go_wp2_with fail
          refine lexQ_more (Hof.out _ (Below.refl _ _).drew) ?_
          refine lexW_light 12 (by kernel_rfl) ?_
          simp only [List.take_succ_cons, List.take_zero, List.drop_succ_cons, List.drop_zero]
          repeat (first | go_big_quiet_skip | (go_big_quiet_want; go_big_quiet_op; go_big_quiet_on))
          refine wpQuiet_nil ?_
          refine lexW_heavy (by kernel_rfl) ?_
          go_wp2_with fail
          refine lexQ_more (Hof.out _ (Below.refl _ _).drew) ?_
          refine lexW_light 3 (by kernel_rfl) ?_
          simp only [List.take_succ_cons, List.take_zero, List.drop_succ_cons, List.drop_zero]
          repeat (first | go_big_quiet_skip | (go_big_quiet_want; go_big_quiet_op; go_big_quiet_on))
          refine wpQuiet_nil ?_
          refine lexW_heavy (by kernel_rfl) ?_
          go_wp2_with fail
          refine lexQ_more (Hof.out _ (Below.refl _ _).drew) ?_
          refine lexW_light 3 (by kernel_rfl) ?_
          simp only [List.take_succ_cons, List.take_zero, List.drop_succ_cons, List.drop_zero]
          repeat (first | go_big_quiet_skip | (go_big_quiet_want; go_big_quiet_op; go_big_quiet_on))
          refine wpQuiet_nil ?_
          refine lexW_heavy (by kernel_rfl) ?_
          go_wp2_with fail
          refine (packRuns A _ (HS.out.below HW5.out.drew)).mono ?_
          rintro ev w14 ⟨rfl, hb14⟩
          have HB14 := Lib.hid ((Below.refl w5.heap.size w5).drew.trans hb14)
          clear hb14
          go_wp2_with fail
          refine lexQ_more (Hof.out _ HB14.out) ?_
          refine lexW_light 2 (by kernel_rfl) ?_
          simp only [List.take_succ_cons, List.take_zero, List.drop_succ_cons, List.drop_zero]
          repeat (first | go_big_quiet_skip | (go_big_quiet_want; go_big_quiet_op; go_big_quiet_on))
          refine wpQuiet_nil ?_
          refine lexW_done ?_
          go_wp2_with fail
          go_ret
          exact ⟨rfl, HW5.out.trans (HB14.out.mono HW5.out.size)⟩

end Go.Proofs.YthmgccakhhggjaaDoor
