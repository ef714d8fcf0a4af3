/- FabricShared: true; no condition but what a start gives. -/
import Derived.Test.YtbefkkefglkleaaDoorLFb1
namespace Go.Proofs.YtbefkkefglkleaaDoor
open Go.RowKit Go.Extern.Stop Go.Stop Go.Extern

def shL (c : Int) : List MsgV := [ofM 2 c, ofM 12 c, ofM 6 c, ofM 15 c]
theorem shFits : (List.range 7).all (fun n => (List.range n).all fun c => (fitsE n 4 rF0 (shL c)).isNil) = true := by kernel_rfl
theorem isNil_nil {e : ErrT} (h : e.isNil = true) : e = .nil := by cases e <;> first | rfl | cases h
theorem shFit {n c : Int} (h1 : 2 ≤ n ∧ n ≤ 6) (h2 : 0 ≤ c ∧ c ≤ n - 1) : fitsE n 4 rF0 (shL c) = .nil := by
  have h := shFits
  simp only [List.all_eq_true, List.mem_range] at h
  obtain ⟨a, rfl⟩ := Int.eq_ofNat_of_zero_le (show 0 ≤ n by omega)
  obtain ⟨d, rfl⟩ := Int.eq_ofNat_of_zero_le h2.1
  exact isNil_nil (h a (by omega) d (by omega))
theorem shSend {n c : Int} (h1 : 2 ≤ n ∧ n ≤ 6) (h2 : 0 ≤ c ∧ c ≤ n - 1) : sendF n 4 rF0 (shL c) = addM rF0 (shL c) ∧ 0 + sentN n 4 rF0 (shL c) = 4 := by
  unfold sendF sentN
  rw [shFit h1 h2]
  exact ⟨rfl, rfl⟩
theorem shPl (c : Int) : plM (ofM 2 c) = (0, 0) ∧ plM (ofM 12 c) = (2, 0) ∧ plM (ofM 6 c) = (1, c) ∧ plM (ofM 15 c) = (3, c) := by
  refine ⟨rfl, rfl, rfl, rfl⟩
theorem shF (c : Int) (q : Plc) : addM rF0 (shL c) q = if q = (3, c) then [ofM 15 c] else if q = (1, c) then [ofM 6 c] else if q = (2, 0) then [ofM 12 c] else if q = (0, 0) then [ofM 2 c] else [] := by
  obtain ⟨e1, e2, e3, e4⟩ := shPl c
  simp only [shL, addM, e1, e2, e3, e4, updF, rF0]
  simp
theorem shP0 {n c a : Int} : peekP n (addM rF0 (shL c)) 0 a 0 = (ofM 2 c, true) := by
  have e : addM rF0 (shL c) (placeP 0 a) = [ofM 2 c] := by rw [show placeP 0 a = (0, 0) from rfl, shF]; simp
  unfold peekP
  rw [e, if_pos ⟨rfl, by omega, by simp⟩]
  rfl
theorem shP2 {n c a : Int} : peekP n (addM rF0 (shL c)) 2 a 0 = (ofM 12 c, true) := by
  have e : addM rF0 (shL c) (placeP 2 a) = [ofM 12 c] := by rw [show placeP 2 a = (2, 0) from rfl, shF]; simp
  unfold peekP
  rw [e, if_pos ⟨rfl, by omega, by simp⟩]
  rfl
theorem shP1 {n c k : Int} (hk : 0 ≤ k ∧ k ≤ n - 1) : (peekP n (addM rF0 (shL c)) 1 k 0).2 = decide (k = c) := by
  have e : addM rF0 (shL c) (placeP 1 k) = if k = c then [ofM 6 c] else [] := by rw [show placeP 1 k = (1, k) from rfl, shF]; simp
  have ho : placeOk n 1 k = true := by simp [placeOk]; omega
  unfold peekP
  rw [e, ho]
  by_cases h : k = c <;> simp [h]
theorem shP3 {n c k : Int} (hk : 0 ≤ k ∧ k ≤ n - 1) : (peekP n (addM rF0 (shL c)) 3 k 0).2 = decide (k = c) := by
  have e : addM rF0 (shL c) (placeP 3 k) = if k = c then [ofM 15 c] else [] := by rw [show placeP 3 k = (3, k) from rfl, shF]; simp
  have ho : placeOk n 3 k = true := by simp [placeOk]; omega
  unfold peekP
  rw [e, ho]
  by_cases h : k = c <;> simp [h]
theorem eqM_self (m : MsgV) : eqM m m = true := (eqM_iff m m).2 rfl

set_option maxRecDepth 100000 in
set_option maxHeartbeats 8000000 in
theorem fabricShared (A : Nat → Addr) (cores from_ ask : Int) (w : World) (hs : SentAt w A) (h1 : in64 cores) (h2 : in64 from_) (h3 : in64 ask) : Calls Tryd.prog 8 #[.int .i64 cores, .int .i64 from_, .int .i64 ask] w (TruePost w) := by
  have HS := Lib.hid hs
  have H2 := Lib.hid h2
  have H3 := Lib.hid h3
  unfold in64 at h1
  clear hs h2 h3
  go_enter Tryd.func8, Tryd.ntmps8
  go_wp2_with fail
  refine (Within_b cores 2 6 w (by omega) (by omega) (by omega) h1.1 h1.2).mono ?_
  rintro ev w' ⟨rfl, hww⟩
  obtain rfl := hww
  have hn := wiF_b (n := cores) (lo := 2) (hi := 6) (by omega)
  generalize wiF cores 2 6 = n at *
  clear h1
  obtain ⟨hn1, hn2⟩ := hn
  go_wp2_with fail
  refine (fbs_new n 4 [] w (by omega) (by omega) (by omega) (by omega) (fun q hq => by cases hq)).mono ?_
  rintro ev w1 ⟨b, rfl, hF⟩
  have HF := Lib.hid (show FbS w b n 4 rF0 0 [] w1 from hF)
  clear hF
  go_wp2_with fail
  refine (Within_b from_ 0 (n - 1) w1 (by omega) (by omega) (by omega) H2.out.1 H2.out.2).mono ?_
  rintro ev w' ⟨rfl, hww⟩
  obtain rfl := hww
  have hc := wiF_b (n := from_) (lo := 0) (hi := n - 1) (by omega)
  generalize wiF from_ 0 (n - 1) = c at *
  have HC := Lib.hid hc
  clear hc
  go_wp2_with fail
  refine (Within_b ask 0 (n - 1) w1 (by omega) (by omega) (by omega) H3.out.1 H3.out.2).mono ?_
  rintro ev w' ⟨rfl, hww⟩
  obtain rfl := hww
  have hc := wiF_b (n := ask) (lo := 0) (hi := n - 1) (by omega)
  generalize wiF ask 0 (n - 1) = k at *
  have HK := Lib.hid hc
  have HN := Lib.hid (show 2 ≤ n ∧ n ≤ 6 from ⟨hn1, hn2⟩)
  clear hc hn1 hn2
  go_wp2_with fail
  refine (of_c 2 c w1).mono ?_
  rintro ev w2 ⟨rfl, hb⟩
  simp only [ofM, MsgV.v]
  have HF := Lib.hid (HF.out.bel hb)
  clear hb
  go_wp2_with fail
  refine (of_c 12 c w2).mono ?_
  rintro ev w3 ⟨rfl, hb⟩
  simp only [ofM, MsgV.v]
  have HF := Lib.hid (HF.out.bel hb)
  clear hb
  go_wp2_with fail
  refine (of_c 6 c w3).mono ?_
  rintro ev w4 ⟨rfl, hb⟩
  simp only [ofM, MsgV.v]
  have HF := Lib.hid (HF.out.bel hb)
  clear hb
  go_wp2_with fail
  refine (of_c 15 c w4).mono ?_
  rintro ev w5 ⟨rfl, hb⟩
  simp only [ofM, MsgV.v]
  have HF := Lib.hid (HF.out.bel hb)
  clear hb
  go_wp2_with fail
  refine (fbs_sendB A w b 0 n 4 4 rfl rF0 [] (shL c) w5 HF.out HS.out (fun q hq => by cases hq) (by simp [shL]) (LeF.nil 4) (by omega)).mono ?_
  rintro ev w6 ⟨rfl, hF, _⟩
  rw [(shSend HN.out HC.out).2, (shSend HN.out HC.out).1] at hF
  rw [shFit HN.out HC.out, show ErrT.nil.val A = .nilIface from rfl]
  have HF := Lib.hid hF
  clear hF
  go_wp2_with fail
  refine (fbs_peek w b 4 n 4 0 ask 0 _ [] w6 HF.out).mono ?_
  rintro ev w7 ⟨rfl, hb⟩
  rw [shP0]
  have HF := Lib.hid (HF.out.bel hb)
  clear hb
  simp only [ofM, MsgV.v]
  go_upto_region 9 with fail
  obtain ⟨h12, hh⟩ : ∃ h, h = w7.heap.size := ⟨_, rfl⟩
  have hb : Below w7.heap.size w7 (w7.alloc (.cells #[.int .i64 2, .int .i64 c, .int .i64 0, .int .i64 0, .int .i64 0, .int .i64 0, .int .i64 0, .int .u32 0, .int .u32 0, .int .u32 0, .int .u32 0, .int .u32 0, .bool false] 32)) := (Below.refl _ _).alloc (Nat.le_refl _) _
  have HF := Lib.hid (HF.out.bel hb)
  have HX := Lib.hid (show (w7.alloc (.cells #[.int .i64 2, .int .i64 c, .int .i64 0, .int .i64 0, .int .i64 0, .int .i64 0, .int .i64 0, .int .u32 0, .int .u32 0, .int .u32 0, .int .u32 0, .int .u32 0, .bool false] 32)).heap[h12]? = some (.cells #[.int .i64 2, .int .i64 c, .int .i64 0, .int .i64 0, .int .i64 0, .int .i64 0, .int .i64 0, .int .u32 0, .int .u32 0, .int .u32 0, .int .u32 0, .int .u32 0, .bool false] 32 (0, 0)) from by rw [hh]; exact heap_alloc_new _ _)
  rw [← hh]
  clear hb hh
  generalize w7.alloc (.cells #[.int .i64 2, .int .i64 c, .int .i64 0, .int .i64 0, .int .i64 0, .int .i64 0, .int .i64 0, .int .u32 0, .int .u32 0, .int .u32 0, .int .u32 0, .int .u32 0, .bool false] 32) = w8 at *
  go_wp2_with fail
  refine (fbs_peek w b 4 n 4 2 ask 0 _ [] w8 HF.out).mono ?_
  rintro ev w9 ⟨rfl, hb⟩
  rw [shP2]
  have HF := Lib.hid (HF.out.bel hb)
  have HX := Lib.hid ((hb.block _ (Array.getElem?_eq_some_iff.1 HX.out).1).trans HX.out)
  clear hb
  simp only [ofM, MsgV.v]
  go_upto_region 10 with fail
  obtain ⟨h14, hh⟩ : ∃ h, h = w9.heap.size := ⟨_, rfl⟩
  have hb : Below w9.heap.size w9 (w9.alloc (.cells #[.int .i64 12, .int .i64 c, .int .i64 0, .int .i64 0, .int .i64 0, .int .i64 0, .int .i64 0, .int .u32 0, .int .u32 0, .int .u32 0, .int .u32 0, .int .u32 0, .bool false] 32)) := (Below.refl _ _).alloc (Nat.le_refl _) _
  have HF := Lib.hid (HF.out.bel hb)
  have HX := Lib.hid ((hb.block _ (Array.getElem?_eq_some_iff.1 HX.out).1).trans HX.out)
  have HY := Lib.hid (show (w9.alloc (.cells #[.int .i64 12, .int .i64 c, .int .i64 0, .int .i64 0, .int .i64 0, .int .i64 0, .int .i64 0, .int .u32 0, .int .u32 0, .int .u32 0, .int .u32 0, .int .u32 0, .bool false] 32)).heap[h14]? = some (.cells #[.int .i64 12, .int .i64 c, .int .i64 0, .int .i64 0, .int .i64 0, .int .i64 0, .int .i64 0, .int .u32 0, .int .u32 0, .int .u32 0, .int .u32 0, .int .u32 0, .bool false] 32 (0, 0)) from by rw [hh]; exact heap_alloc_new _ _)
  rw [← hh]
  clear hb hh
  generalize w9.alloc (.cells #[.int .i64 12, .int .i64 c, .int .i64 0, .int .i64 0, .int .i64 0, .int .i64 0, .int .i64 0, .int .u32 0, .int .u32 0, .int .u32 0, .int .u32 0, .int .u32 0, .bool false] 32) = w10 at *
  go_wp2_with fail
  refine (fbs_peek w b 4 n 4 1 k 0 _ [] w10 HF.out).mono ?_
  rintro ev w11 ⟨rfl, hb⟩
  rw [shP1 HK.out]
  have HF := Lib.hid (HF.out.bel hb)
  have HX := Lib.hid ((hb.block _ (Array.getElem?_eq_some_iff.1 HX.out).1).trans HX.out)
  have HY := Lib.hid ((hb.block _ (Array.getElem?_eq_some_iff.1 HY.out).1).trans HY.out)
  clear hb
  obtain ⟨R, hR⟩ : ∃ R, decide (k = c) = R := ⟨_, rfl⟩
  rw [hR]
  have HR := Lib.hid hR
  clear hR
  obtain ⟨m1, hm⟩ : ∃ m, (peekP n (addM rF0 (shL c)) 1 k 0).1 = m := ⟨_, rfl⟩
  rw [hm]
  clear hm
  obtain ⟨a1, a2, a3, a4, a5, a6, a7, a8, a9, a10, a11, a12, a13⟩ := m1
  simp only [MsgV.v]
  go_upto_region 11 with fail
  obtain ⟨hq1, hh⟩ : ∃ h, h = w11.heap.size := ⟨_, rfl⟩
  have hb : Below w11.heap.size w11 (w11.alloc (.cells #[.int .i64 a1, .int .i64 a2, .int .i64 a3, .int .i64 a4, .int .i64 a5, .int .i64 a6, .int .i64 a7, .int .u32 a8, .int .u32 a9, .int .u32 a10, .int .u32 a11, .int .u32 a12, .bool a13] 32)) := (Below.refl _ _).alloc (Nat.le_refl _) _
  have HF := Lib.hid (HF.out.bel hb)
  have HX := Lib.hid ((hb.block _ (Array.getElem?_eq_some_iff.1 HX.out).1).trans HX.out)
  have HY := Lib.hid ((hb.block _ (Array.getElem?_eq_some_iff.1 HY.out).1).trans HY.out)
  rw [← hh]
  clear hb hh
  generalize w11.alloc (.cells #[.int .i64 a1, .int .i64 a2, .int .i64 a3, .int .i64 a4, .int .i64 a5, .int .i64 a6, .int .i64 a7, .int .u32 a8, .int .u32 a9, .int .u32 a10, .int .u32 a11, .int .u32 a12, .bool a13] 32) = w12 at *
  go_wp2_with fail
  refine (fbs_peek w b 4 n 4 3 k 0 _ [] w12 HF.out).mono ?_
  rintro ev w13 ⟨rfl, hb⟩
  rw [shP3 HK.out, HR.out]
  have HF := Lib.hid (HF.out.bel hb)
  have HX := Lib.hid ((hb.block _ (Array.getElem?_eq_some_iff.1 HX.out).1).trans HX.out)
  have HY := Lib.hid ((hb.block _ (Array.getElem?_eq_some_iff.1 HY.out).1).trans HY.out)
  clear hb
  obtain ⟨m3, hm⟩ : ∃ m, (peekP n (addM rF0 (shL c)) 3 k 0).1 = m := ⟨_, rfl⟩
  rw [hm]
  clear hm
  obtain ⟨d1, d2, d3, d4, d5, d6, d7, d8, d9, d10, d11, d12, d13⟩ := m3
  simp only [MsgV.v]
  go_upto_region 12 with fail
  obtain ⟨hq3, hh⟩ : ∃ h, h = w13.heap.size := ⟨_, rfl⟩
  have hb : Below w13.heap.size w13 (w13.alloc (.cells #[.int .i64 d1, .int .i64 d2, .int .i64 d3, .int .i64 d4, .int .i64 d5, .int .i64 d6, .int .i64 d7, .int .u32 d8, .int .u32 d9, .int .u32 d10, .int .u32 d11, .int .u32 d12, .bool d13] 32)) := (Below.refl _ _).alloc (Nat.le_refl _) _
  have HF := Lib.hid (HF.out.bel hb)
  have HX := Lib.hid ((hb.block _ (Array.getElem?_eq_some_iff.1 HX.out).1).trans HX.out)
  have HY := Lib.hid ((hb.block _ (Array.getElem?_eq_some_iff.1 HY.out).1).trans HY.out)
  rw [← hh]
  clear hb hh
  generalize w13.alloc (.cells #[.int .i64 d1, .int .i64 d2, .int .i64 d3, .int .i64 d4, .int .i64 d5, .int .i64 d6, .int .i64 d7, .int .u32 d8, .int .u32 d9, .int .u32 d10, .int .u32 d11, .int .u32 d12, .bool d13] 32) = w14 at *
  cases R with
  | true =>
    have g9 : (k == c) = true := by have h := HR.out; simpa using h
    have hxq := HX.out
    have q0 := cell_of hxq 0
    have q1 := cell_of hxq 1
    have q2 := cell_of hxq 2
    have q3 := cell_of hxq 3
    have q4 := cell_of hxq 4
    have q5 := cell_of hxq 5
    have q6 := cell_of hxq 6
    have q7 := cell_of hxq 7
    have q8 := cell_of hxq 8
    have q9 := cell_of hxq 9
    have q10 := cell_of hxq 10
    have q11 := cell_of hxq 11
    have q12 := cell_of hxq 12
    simp only [List.getElem?_toArray, List.getElem?_cons_zero, List.getElem?_cons_succ] at q0 q1 q2 q3 q4 q5 q6 q7 q8 q9 q10 q11 q12
    have hlq := (Array.getElem?_eq_some_iff.1 hxq).1
    have hxr := HY.out
    have r0 := cell_of hxr 0
    have r1 := cell_of hxr 1
    have r2 := cell_of hxr 2
    have r3 := cell_of hxr 3
    have r4 := cell_of hxr 4
    have r5 := cell_of hxr 5
    have r6 := cell_of hxr 6
    have r7 := cell_of hxr 7
    have r8 := cell_of hxr 8
    have r9 := cell_of hxr 9
    have r10 := cell_of hxr 10
    have r11 := cell_of hxr 11
    have r12 := cell_of hxr 12
    simp only [List.getElem?_toArray, List.getElem?_cons_zero, List.getElem?_cons_succ] at r0 r1 r2 r3 r4 r5 r6 r7 r8 r9 r10 r11 r12
    have hlr := (Array.getElem?_eq_some_iff.1 hxr).1
    have heq := fun w => run_eqMs 2 c 0 0 0 0 0 0 0 0 0 0 2 c 0 0 0 0 0 0 0 0 0 0 false false w
    have heq2 := fun w => run_eqMs 12 c 0 0 0 0 0 0 0 0 0 0 12 c 0 0 0 0 0 0 0 0 0 0 false false w
    rw [eqM_self] at heq heq2
    refine wp_region_lexA ⟨[], []⟩ (fun x => Below w14.heap.size w14 x) (by kernel_rfl) (by kernel_rfl) (Below.refl _ _).drew ?_
    intro S hto hof hne
    have yq0 : ∀ z : Wd S, z.w.cell? ⟨h12, 0, none⟩ = some (.int .i64 2) := fun z => ((hto z).cell (p := ⟨h12, 0, none⟩) hlq).trans q0
    have yq1 : ∀ z : Wd S, z.w.cell? ⟨h12, 1, none⟩ = some (.int .i64 c) := fun z => ((hto z).cell (p := ⟨h12, 1, none⟩) hlq).trans q1
    have yq2 : ∀ z : Wd S, z.w.cell? ⟨h12, 2, none⟩ = some (.int .i64 0) := fun z => ((hto z).cell (p := ⟨h12, 2, none⟩) hlq).trans q2
    have yq3 : ∀ z : Wd S, z.w.cell? ⟨h12, 3, none⟩ = some (.int .i64 0) := fun z => ((hto z).cell (p := ⟨h12, 3, none⟩) hlq).trans q3
    have yq4 : ∀ z : Wd S, z.w.cell? ⟨h12, 4, none⟩ = some (.int .i64 0) := fun z => ((hto z).cell (p := ⟨h12, 4, none⟩) hlq).trans q4
    have yq5 : ∀ z : Wd S, z.w.cell? ⟨h12, 5, none⟩ = some (.int .i64 0) := fun z => ((hto z).cell (p := ⟨h12, 5, none⟩) hlq).trans q5
    have yq6 : ∀ z : Wd S, z.w.cell? ⟨h12, 6, none⟩ = some (.int .i64 0) := fun z => ((hto z).cell (p := ⟨h12, 6, none⟩) hlq).trans q6
    have yq7 : ∀ z : Wd S, z.w.cell? ⟨h12, 7, none⟩ = some (.int .u32 0) := fun z => ((hto z).cell (p := ⟨h12, 7, none⟩) hlq).trans q7
    have yq8 : ∀ z : Wd S, z.w.cell? ⟨h12, 8, none⟩ = some (.int .u32 0) := fun z => ((hto z).cell (p := ⟨h12, 8, none⟩) hlq).trans q8
    have yq9 : ∀ z : Wd S, z.w.cell? ⟨h12, 9, none⟩ = some (.int .u32 0) := fun z => ((hto z).cell (p := ⟨h12, 9, none⟩) hlq).trans q9
    have yq10 : ∀ z : Wd S, z.w.cell? ⟨h12, 10, none⟩ = some (.int .u32 0) := fun z => ((hto z).cell (p := ⟨h12, 10, none⟩) hlq).trans q10
    have yq11 : ∀ z : Wd S, z.w.cell? ⟨h12, 11, none⟩ = some (.int .u32 0) := fun z => ((hto z).cell (p := ⟨h12, 11, none⟩) hlq).trans q11
    have yq12 : ∀ z : Wd S, z.w.cell? ⟨h12, 12, none⟩ = some (.bool false) := fun z => ((hto z).cell (p := ⟨h12, 12, none⟩) hlq).trans q12
    have yr0 : ∀ z : Wd S, z.w.cell? ⟨h14, 0, none⟩ = some (.int .i64 12) := fun z => ((hto z).cell (p := ⟨h14, 0, none⟩) hlr).trans r0
    have yr1 : ∀ z : Wd S, z.w.cell? ⟨h14, 1, none⟩ = some (.int .i64 c) := fun z => ((hto z).cell (p := ⟨h14, 1, none⟩) hlr).trans r1
    have yr2 : ∀ z : Wd S, z.w.cell? ⟨h14, 2, none⟩ = some (.int .i64 0) := fun z => ((hto z).cell (p := ⟨h14, 2, none⟩) hlr).trans r2
    have yr3 : ∀ z : Wd S, z.w.cell? ⟨h14, 3, none⟩ = some (.int .i64 0) := fun z => ((hto z).cell (p := ⟨h14, 3, none⟩) hlr).trans r3
    have yr4 : ∀ z : Wd S, z.w.cell? ⟨h14, 4, none⟩ = some (.int .i64 0) := fun z => ((hto z).cell (p := ⟨h14, 4, none⟩) hlr).trans r4
    have yr5 : ∀ z : Wd S, z.w.cell? ⟨h14, 5, none⟩ = some (.int .i64 0) := fun z => ((hto z).cell (p := ⟨h14, 5, none⟩) hlr).trans r5
    have yr6 : ∀ z : Wd S, z.w.cell? ⟨h14, 6, none⟩ = some (.int .i64 0) := fun z => ((hto z).cell (p := ⟨h14, 6, none⟩) hlr).trans r6
    have yr7 : ∀ z : Wd S, z.w.cell? ⟨h14, 7, none⟩ = some (.int .u32 0) := fun z => ((hto z).cell (p := ⟨h14, 7, none⟩) hlr).trans r7
    have yr8 : ∀ z : Wd S, z.w.cell? ⟨h14, 8, none⟩ = some (.int .u32 0) := fun z => ((hto z).cell (p := ⟨h14, 8, none⟩) hlr).trans r8
    have yr9 : ∀ z : Wd S, z.w.cell? ⟨h14, 9, none⟩ = some (.int .u32 0) := fun z => ((hto z).cell (p := ⟨h14, 9, none⟩) hlr).trans r9
    have yr10 : ∀ z : Wd S, z.w.cell? ⟨h14, 10, none⟩ = some (.int .u32 0) := fun z => ((hto z).cell (p := ⟨h14, 10, none⟩) hlr).trans r10
    have yr11 : ∀ z : Wd S, z.w.cell? ⟨h14, 11, none⟩ = some (.int .u32 0) := fun z => ((hto z).cell (p := ⟨h14, 11, none⟩) hlr).trans r11
    have yr12 : ∀ z : Wd S, z.w.cell? ⟨h14, 12, none⟩ = some (.bool false) := fun z => ((hto z).cell (p := ⟨h14, 12, none⟩) hlr).trans r12
    have Hof := Lib.hid hof
    have HB := Lib.hid (show Below w14.heap.size w14 w14.drew from (Below.refl _ _).drew)
    clear hto hof hxq hlq q0 q1 q2 q3 q4 q5 q6 q7 q8 q9 q10 q11 q12
    clear hxr hlr r0 r1 r2 r3 r4 r5 r6 r7 r8 r9 r10 r11 r12
    refine lexW_light 7 (by kernel_rfl) ?_
    simp only [List.take_succ_cons, List.take_zero, List.drop_succ_cons, List.drop_zero]
    repeat (first | go_big_quiet_skip | (go_big_quiet_want; go_big_quiet_op; go_big_quiet_on))
    refine wpQuiet_nil ?_
    refine lexW_heavy (by kernel_rfl) ?_
    go_wp2_with fail
    refine (of_c 2 c w14.drew).mono ?_
    rintro ev w15 ⟨rfl, hb⟩
    simp only [ofM, MsgV.v]
    have HB := Lib.hid (HB.out.trans (hb.mono HB.out.size))
    clear hb
    go_wp2_with fail
    refine lexQ_more (Hof.out _ HB.out) ?_
    refine lexW_light 5 (by kernel_rfl) ?_
    simp only [List.take_succ_cons, List.take_zero, List.drop_succ_cons, List.drop_zero]
    repeat (first | go_big_quiet_skip | (go_big_quiet_want; go_big_quiet_op; go_big_quiet_on))
    refine wpQuiet_nil ?_
    refine lexW_heavy (by kernel_rfl) ?_
    go_wp2_with fail
    refine (of_c 12 c w15).mono ?_
    rintro ev w16 ⟨rfl, hb⟩
    simp only [ofM, MsgV.v]
    have HB := Lib.hid (HB.out.trans (hb.mono HB.out.size))
    clear hb
    go_wp2_with fail
    refine lexQ_more (Hof.out _ HB.out) ?_
    refine lexW_light 18 (by kernel_rfl) ?_
    simp only [List.take_succ_cons, List.take_zero, List.drop_succ_cons, List.drop_zero]
    repeat (first | go_big_quiet_skip | (go_big_quiet_want; go_big_quiet_op; go_big_quiet_on))
    refine wpQuiet_nil ?_
    refine lexW_heavy (by kernel_rfl) ?_
    go_wp2_with fail
    refine (fbs_all w b 4 n 4 _ [] w16 (HF.out.bel HB.out) (by omega)).mono ?_
    rintro ev w17 ⟨rfl, hb⟩
    have HB := Lib.hid (HB.out.trans (hb.mono HB.out.size))
    clear hb
    go_wp2_with fail
    refine lexQ_more (Hof.out _ HB.out) ?_
    refine lexW_light 3 (by kernel_rfl) ?_
    simp only [List.take_succ_cons, List.take_zero, List.drop_succ_cons, List.drop_zero]
    repeat (first | go_big_quiet_skip | (go_big_quiet_want; go_big_quiet_op; go_big_quiet_on))
    refine wpQuiet_nil ?_
    refine lexW_heavy (by kernel_rfl) ?_
    go_wp2_with fail
    refine (fabricRuns A w17 (HS.out.below (HF.out.below.trans (HB.out.mono HF.out.below.size)))).mono ?_
    rintro ev w18 ⟨rfl, hb⟩
    have HB := Lib.hid (HB.out.trans (hb.mono HB.out.size))
    clear hb
    go_wp2_with fail
    refine lexQ_more (Hof.out _ HB.out) ?_
    refine lexW_light 2 (by kernel_rfl) ?_
    simp only [List.take_succ_cons, List.take_zero, List.drop_succ_cons, List.drop_zero]
    repeat (first | go_big_quiet_skip | (go_big_quiet_want; go_big_quiet_op; go_big_quiet_on))
    refine wpQuiet_nil ?_
    refine lexW_done ?_
    clear yq0 yq1 yq2 yq3 yq4 yq5 yq6 yq7 yq8 yq9 yq10 yq11 yq12 yr0 yr1 yr2 yr3 yr4 yr5 yr6 yr7 yr8 yr9 yr10 yr11 yr12 heq heq2 Hof hne
    go_wp2_with fail
    go_ret
    exact ⟨rfl, HF.out.below.trans (HB.out.mono HF.out.below.size)⟩
  | false =>
    have g9 : (k == c) = false := by have h := HR.out; simpa using h
    have hxq := HX.out
    have q0 := cell_of hxq 0
    have q1 := cell_of hxq 1
    have q2 := cell_of hxq 2
    have q3 := cell_of hxq 3
    have q4 := cell_of hxq 4
    have q5 := cell_of hxq 5
    have q6 := cell_of hxq 6
    have q7 := cell_of hxq 7
    have q8 := cell_of hxq 8
    have q9 := cell_of hxq 9
    have q10 := cell_of hxq 10
    have q11 := cell_of hxq 11
    have q12 := cell_of hxq 12
    simp only [List.getElem?_toArray, List.getElem?_cons_zero, List.getElem?_cons_succ] at q0 q1 q2 q3 q4 q5 q6 q7 q8 q9 q10 q11 q12
    have hlq := (Array.getElem?_eq_some_iff.1 hxq).1
    have hxr := HY.out
    have r0 := cell_of hxr 0
    have r1 := cell_of hxr 1
    have r2 := cell_of hxr 2
    have r3 := cell_of hxr 3
    have r4 := cell_of hxr 4
    have r5 := cell_of hxr 5
    have r6 := cell_of hxr 6
    have r7 := cell_of hxr 7
    have r8 := cell_of hxr 8
    have r9 := cell_of hxr 9
    have r10 := cell_of hxr 10
    have r11 := cell_of hxr 11
    have r12 := cell_of hxr 12
    simp only [List.getElem?_toArray, List.getElem?_cons_zero, List.getElem?_cons_succ] at r0 r1 r2 r3 r4 r5 r6 r7 r8 r9 r10 r11 r12
    have hlr := (Array.getElem?_eq_some_iff.1 hxr).1
    have heq := fun w => run_eqMs 2 c 0 0 0 0 0 0 0 0 0 0 2 c 0 0 0 0 0 0 0 0 0 0 false false w
    have heq2 := fun w => run_eqMs 12 c 0 0 0 0 0 0 0 0 0 0 12 c 0 0 0 0 0 0 0 0 0 0 false false w
    rw [eqM_self] at heq heq2
    refine wp_region_lexA ⟨[], []⟩ (fun x => Below w14.heap.size w14 x) (by kernel_rfl) (by kernel_rfl) (Below.refl _ _).drew ?_
    intro S hto hof hne
    have yq0 : ∀ z : Wd S, z.w.cell? ⟨h12, 0, none⟩ = some (.int .i64 2) := fun z => ((hto z).cell (p := ⟨h12, 0, none⟩) hlq).trans q0
    have yq1 : ∀ z : Wd S, z.w.cell? ⟨h12, 1, none⟩ = some (.int .i64 c) := fun z => ((hto z).cell (p := ⟨h12, 1, none⟩) hlq).trans q1
    have yq2 : ∀ z : Wd S, z.w.cell? ⟨h12, 2, none⟩ = some (.int .i64 0) := fun z => ((hto z).cell (p := ⟨h12, 2, none⟩) hlq).trans q2
    have yq3 : ∀ z : Wd S, z.w.cell? ⟨h12, 3, none⟩ = some (.int .i64 0) := fun z => ((hto z).cell (p := ⟨h12, 3, none⟩) hlq).trans q3
    have yq4 : ∀ z : Wd S, z.w.cell? ⟨h12, 4, none⟩ = some (.int .i64 0) := fun z => ((hto z).cell (p := ⟨h12, 4, none⟩) hlq).trans q4
    have yq5 : ∀ z : Wd S, z.w.cell? ⟨h12, 5, none⟩ = some (.int .i64 0) := fun z => ((hto z).cell (p := ⟨h12, 5, none⟩) hlq).trans q5
    have yq6 : ∀ z : Wd S, z.w.cell? ⟨h12, 6, none⟩ = some (.int .i64 0) := fun z => ((hto z).cell (p := ⟨h12, 6, none⟩) hlq).trans q6
    have yq7 : ∀ z : Wd S, z.w.cell? ⟨h12, 7, none⟩ = some (.int .u32 0) := fun z => ((hto z).cell (p := ⟨h12, 7, none⟩) hlq).trans q7
    have yq8 : ∀ z : Wd S, z.w.cell? ⟨h12, 8, none⟩ = some (.int .u32 0) := fun z => ((hto z).cell (p := ⟨h12, 8, none⟩) hlq).trans q8
    have yq9 : ∀ z : Wd S, z.w.cell? ⟨h12, 9, none⟩ = some (.int .u32 0) := fun z => ((hto z).cell (p := ⟨h12, 9, none⟩) hlq).trans q9
    have yq10 : ∀ z : Wd S, z.w.cell? ⟨h12, 10, none⟩ = some (.int .u32 0) := fun z => ((hto z).cell (p := ⟨h12, 10, none⟩) hlq).trans q10
    have yq11 : ∀ z : Wd S, z.w.cell? ⟨h12, 11, none⟩ = some (.int .u32 0) := fun z => ((hto z).cell (p := ⟨h12, 11, none⟩) hlq).trans q11
    have yq12 : ∀ z : Wd S, z.w.cell? ⟨h12, 12, none⟩ = some (.bool false) := fun z => ((hto z).cell (p := ⟨h12, 12, none⟩) hlq).trans q12
    have yr0 : ∀ z : Wd S, z.w.cell? ⟨h14, 0, none⟩ = some (.int .i64 12) := fun z => ((hto z).cell (p := ⟨h14, 0, none⟩) hlr).trans r0
    have yr1 : ∀ z : Wd S, z.w.cell? ⟨h14, 1, none⟩ = some (.int .i64 c) := fun z => ((hto z).cell (p := ⟨h14, 1, none⟩) hlr).trans r1
    have yr2 : ∀ z : Wd S, z.w.cell? ⟨h14, 2, none⟩ = some (.int .i64 0) := fun z => ((hto z).cell (p := ⟨h14, 2, none⟩) hlr).trans r2
    have yr3 : ∀ z : Wd S, z.w.cell? ⟨h14, 3, none⟩ = some (.int .i64 0) := fun z => ((hto z).cell (p := ⟨h14, 3, none⟩) hlr).trans r3
    have yr4 : ∀ z : Wd S, z.w.cell? ⟨h14, 4, none⟩ = some (.int .i64 0) := fun z => ((hto z).cell (p := ⟨h14, 4, none⟩) hlr).trans r4
    have yr5 : ∀ z : Wd S, z.w.cell? ⟨h14, 5, none⟩ = some (.int .i64 0) := fun z => ((hto z).cell (p := ⟨h14, 5, none⟩) hlr).trans r5
    have yr6 : ∀ z : Wd S, z.w.cell? ⟨h14, 6, none⟩ = some (.int .i64 0) := fun z => ((hto z).cell (p := ⟨h14, 6, none⟩) hlr).trans r6
    have yr7 : ∀ z : Wd S, z.w.cell? ⟨h14, 7, none⟩ = some (.int .u32 0) := fun z => ((hto z).cell (p := ⟨h14, 7, none⟩) hlr).trans r7
    have yr8 : ∀ z : Wd S, z.w.cell? ⟨h14, 8, none⟩ = some (.int .u32 0) := fun z => ((hto z).cell (p := ⟨h14, 8, none⟩) hlr).trans r8
    have yr9 : ∀ z : Wd S, z.w.cell? ⟨h14, 9, none⟩ = some (.int .u32 0) := fun z => ((hto z).cell (p := ⟨h14, 9, none⟩) hlr).trans r9
    have yr10 : ∀ z : Wd S, z.w.cell? ⟨h14, 10, none⟩ = some (.int .u32 0) := fun z => ((hto z).cell (p := ⟨h14, 10, none⟩) hlr).trans r10
    have yr11 : ∀ z : Wd S, z.w.cell? ⟨h14, 11, none⟩ = some (.int .u32 0) := fun z => ((hto z).cell (p := ⟨h14, 11, none⟩) hlr).trans r11
    have yr12 : ∀ z : Wd S, z.w.cell? ⟨h14, 12, none⟩ = some (.bool false) := fun z => ((hto z).cell (p := ⟨h14, 12, none⟩) hlr).trans r12
    have Hof := Lib.hid hof
    have HB := Lib.hid (show Below w14.heap.size w14 w14.drew from (Below.refl _ _).drew)
    clear hto hof hxq hlq q0 q1 q2 q3 q4 q5 q6 q7 q8 q9 q10 q11 q12
    clear hxr hlr r0 r1 r2 r3 r4 r5 r6 r7 r8 r9 r10 r11 r12
    refine lexW_light 7 (by kernel_rfl) ?_
    simp only [List.take_succ_cons, List.take_zero, List.drop_succ_cons, List.drop_zero]
    repeat (first | go_big_quiet_skip | (go_big_quiet_want; go_big_quiet_op; go_big_quiet_on))
    refine wpQuiet_nil ?_
    refine lexW_heavy (by kernel_rfl) ?_
    go_wp2_with fail
    refine (of_c 2 c w14.drew).mono ?_
    rintro ev w15 ⟨rfl, hb⟩
    simp only [ofM, MsgV.v]
    have HB := Lib.hid (HB.out.trans (hb.mono HB.out.size))
    clear hb
    go_wp2_with fail
    refine lexQ_more (Hof.out _ HB.out) ?_
    refine lexW_light 5 (by kernel_rfl) ?_
    simp only [List.take_succ_cons, List.take_zero, List.drop_succ_cons, List.drop_zero]
    repeat (first | go_big_quiet_skip | (go_big_quiet_want; go_big_quiet_op; go_big_quiet_on))
    refine wpQuiet_nil ?_
    refine lexW_heavy (by kernel_rfl) ?_
    go_wp2_with fail
    refine (of_c 12 c w15).mono ?_
    rintro ev w16 ⟨rfl, hb⟩
    simp only [ofM, MsgV.v]
    have HB := Lib.hid (HB.out.trans (hb.mono HB.out.size))
    clear hb
    go_wp2_with fail
    refine lexQ_more (Hof.out _ HB.out) ?_
    refine lexW_light 18 (by kernel_rfl) ?_
    simp only [List.take_succ_cons, List.take_zero, List.drop_succ_cons, List.drop_zero]
    repeat (first | go_big_quiet_skip | (go_big_quiet_want; go_big_quiet_op; go_big_quiet_on))
    refine wpQuiet_nil ?_
    refine lexW_heavy (by kernel_rfl) ?_
    go_wp2_with fail
    refine (fbs_all w b 4 n 4 _ [] w16 (HF.out.bel HB.out) (by omega)).mono ?_
    rintro ev w17 ⟨rfl, hb⟩
    have HB := Lib.hid (HB.out.trans (hb.mono HB.out.size))
    clear hb
    go_wp2_with fail
    refine lexQ_more (Hof.out _ HB.out) ?_
    refine lexW_light 3 (by kernel_rfl) ?_
    simp only [List.take_succ_cons, List.take_zero, List.drop_succ_cons, List.drop_zero]
    repeat (first | go_big_quiet_skip | (go_big_quiet_want; go_big_quiet_op; go_big_quiet_on))
    refine wpQuiet_nil ?_
    refine lexW_heavy (by kernel_rfl) ?_
    go_wp2_with fail
    refine (fabricRuns A w17 (HS.out.below (HF.out.below.trans (HB.out.mono HF.out.below.size)))).mono ?_
    rintro ev w18 ⟨rfl, hb⟩
    have HB := Lib.hid (HB.out.trans (hb.mono HB.out.size))
    clear hb
    go_wp2_with fail
    refine lexQ_more (Hof.out _ HB.out) ?_
    refine lexW_light 2 (by kernel_rfl) ?_
    simp only [List.take_succ_cons, List.take_zero, List.drop_succ_cons, List.drop_zero]
    repeat (first | go_big_quiet_skip | (go_big_quiet_want; go_big_quiet_op; go_big_quiet_on))
    refine wpQuiet_nil ?_
    refine lexW_done ?_
    clear yq0 yq1 yq2 yq3 yq4 yq5 yq6 yq7 yq8 yq9 yq10 yq11 yq12 yr0 yr1 yr2 yr3 yr4 yr5 yr6 yr7 yr8 yr9 yr10 yr11 yr12 heq heq2 Hof hne
    go_wp2_with fail
    go_ret
    exact ⟨rfl, HF.out.below.trans (HB.out.mono HF.out.below.size)⟩

end Go.Proofs.YtbefkkefglkleaaDoor
