/- FabricRoom: true; no condition but what a start gives. -/
import Derived.Test.YtbefkkefglkleaaDoorLFb1
namespace Go.Proofs.YtbefkkefglkleaaDoor
open Go.RowKit Go.Extern.Stop Go.Stop Go.Extern

/-- Of one message. -/
theorem fits_one {cores room : Int} {F : Plc → List MsgV} {m : MsgV} (hb : badM cores m = false) : fitsE cores room F [m] = if room < ((F (plM m)).length : Int) + 1 then .wrap fsT 0 (.sent 5) else .nil := by
  have h0 : ∀ j, j < [m].length → badB cores [m] j = false := fun j hj => by
    obtain rfl : j = 0 := by simpa using hj
    exact hb
  have hf : fullB room F [m] 0 = decide (room < ((F (plM m)).length : Int) + 1) := by
    unfold fullB
    simp [cntP]
  by_cases h : room < ((F (plM m)).length : Int) + 1
  · rw [if_pos h]
    exact fits_full (k := 0) (by simp) h0 (fun j hj => absurd hj (by omega)) (by rw [hf]; simpa using h)
  · rw [if_neg h]
    refine fits_nil h0 fun j hj => ?_
    obtain rfl : j = 0 := by simpa using hj
    rw [hf]
    simpa using h
theorem send_one {cores room : Int} {F : Plc → List MsgV} {m : MsgV} (h : fitsE cores room F [m] = .nil) : sendF cores room F [m] = updF F (plM m) (F (plM m) ++ [m]) ∧ sentN cores room F [m] = 1 := by
  unfold sendF sentN
  rw [h]
  exact ⟨rfl, rfl⟩
theorem send_off {cores room : Int} {F : Plc → List MsgV} {l : List MsgV} {i : Int} {k : Nat} (h : fitsE cores room F l = .wrap fsT i (.sent k)) : sendF cores room F l = F ∧ sentN cores room F l = 0 := by
  unfold sendF sentN
  rw [h]
  exact ⟨rfl, rfl⟩
def kdO (j : Nat) : Int := if j = 0 then 1 else if j = 1 then 6 else if j = 2 then 12 else 15
theorem kdBad : (List.range 4).all (fun j => (List.range 5).all fun n => (List.range n).all fun c => !badM n (ofM (kdO j) c)) = true := by kernel_rfl
theorem kd_bad {j n c : Nat} (hj : j < 4) (hn : n ≤ 4) (hc : c < n) : badM n (ofM (kdO j) c) = false := by
  have h := kdBad
  simp only [List.all_eq_true, List.mem_range] at h
  simpa using h j hj n (by omega) c hc
def shO (j : Nat) : Bool := decide (j = 0 ∨ j = 2)
theorem kd_pl {j c : Nat} (hj : j < 4) : plM (ofM (kdO j) c) = if shO j then ((j : Int), 0) else ((j : Int), (c : Int)) := by
  have : j = 0 ∨ j = 1 ∨ j = 2 ∨ j = 3 := by omega
  rcases this with rfl | rfl | rfl | rfl <;> rfl
/-- Ahead of a core's turn. -/
structure RmQ (k j c : Nat) (F : Plc → List MsgV) : Prop where
  later : ∀ p x : Int, (j : Int) < p → F (p, x) = []
  odd : shO j = false → ∀ x : Int, (c : Int) ≤ x → F (j, x) = []
  even : shO j = true → (F (j, 0)).length = if 0 < c then k else 0
  le : LeF F k
/-- Within it. -/
structure RmI (k j c i : Nat) (F : Plc → List MsgV) : Prop where
  later : ∀ p x : Int, (j : Int) < p → F (p, x) = []
  odd : shO j = false → ∀ x : Int, (c : Int) < x → F (j, x) = []
  here : (F (plM (ofM (kdO j) c))).length = if shO j && decide (0 < c) then k else i
  le : LeF F k
theorem RmQ.start {k j c : Nat} {F : Plc → List MsgV} (h : RmQ k j c F) (hj : j < 4) : RmI k j c 0 F := by
  refine ⟨h.later, fun ho x hx => h.odd ho x (by omega), ?_, h.le⟩
  rw [kd_pl hj]
  cases hs : shO j with
  | true => simp [h.even hs]
  | false => simp [h.odd hs c (Int.le_refl _)]
theorem RmI.fin {k j c : Nat} {F : Plc → List MsgV} (h : RmI k j c k F) (hj : j < 4) : RmQ k j (c + 1) F := by
  refine ⟨h.later, fun ho x hx => h.odd ho x (by omega), fun ho => ?_, h.le⟩
  have h1 := h.here
  rw [kd_pl hj, ho] at h1
  simpa using h1
theorem RmQ.next {k j c : Nat} {F : Plc → List MsgV} (h : RmQ k j c F) : RmQ k (j + 1) 0 F :=
  ⟨fun p x hp => h.later p x (by omega), fun _ x _ => h.later _ x (by omega), fun _ => by rw [h.later _ 0 (by omega)]; rfl, h.le⟩
theorem RmI.full {n k j c i : Nat} {F : Plc → List MsgV} (h : RmI k j c i F) (hj : j < 4) (hn : n ≤ 4) (hc : c < n) (hs : (shO j && decide (0 < c)) = true ∨ i = k) : fitsE n k F [ofM (kdO j) c] = .wrap fsT 0 (.sent 5) := by
  rw [fits_one (kd_bad hj hn hc), if_pos]
  rw [h.here]
  rcases hs with hs | hs
  · rw [if_pos hs]; omega
  · rw [hs]; split <;> omega
theorem RmI.goes {n k j c i : Nat} {F : Plc → List MsgV} (h : RmI k j c i F) (hj : j < 4) (hn : n ≤ 4) (hc : c < n) (hs : (shO j && decide (0 < c)) = false) (hi : i < k) : fitsE n k F [ofM (kdO j) c] = .nil ∧ RmI k j c (i + 1) (sendF n k F [ofM (kdO j) c]) := by
  have hf : fitsE n k F [ofM (kdO j) c] = .nil := by
    rw [fits_one (kd_bad hj hn hc), if_neg]
    rw [h.here, hs]
    simp
    omega
  refine ⟨hf, ?_⟩
  have hl := h.le.send n [ofM (kdO j) c]
  rw [(send_one hf).1] at hl ⊢
  refine ⟨fun p x hp => ?_, fun ho x hx => ?_, ?_, hl⟩
  · unfold updF
    rw [if_neg, h.later p x hp]
    rw [kd_pl hj]
    intro e
    split at e
    · have := (Prod.mk.inj e).1; omega
    · have := (Prod.mk.inj e).1; omega
  · unfold updF
    rw [if_neg, h.odd ho x hx]
    rw [kd_pl hj, ho]
    intro e
    have := (Prod.mk.inj e).2
    omega
  · unfold updF
    rw [if_pos rfl, List.length_append, h.here, hs]
    rfl
theorem RmI.stay {k j c i : Nat} {F : Plc → List MsgV} (h : RmI k j c i F) (hs : (shO j && decide (0 < c)) = true) : RmI k j c (i + 1) F := ⟨h.later, h.odd, by rw [h.here, hs]; rfl, h.le⟩
/-- How many went. -/
def cnA (n k j c : Nat) : Nat := (if j = 0 then 0 else if j = 1 then k else if j = 2 then k + k * n else if j = 3 then k + k * n + k else k + k * n + k + k * n) + if shO j then (if 0 < c then k else 0) else k * c
def cnI (n k j c i : Nat) : Nat := cnA n k j c + if shO j && decide (0 < c) then 0 else i
theorem cn_fin {n k j c : Nat} : cnI n k j c k = cnA n k j (c + 1) := by
  unfold cnI cnA
  cases shO j <;> by_cases h : 0 < c <;> simp [h, Nat.mul_add, Nat.add_assoc]
theorem cn_next {n k j : Nat} (hj : j < 4) (hn : 0 < n) : cnA n k j n = cnA n k (j + 1) 0 := by
  have : j = 0 ∨ j = 1 ∨ j = 2 ∨ j = 3 := by omega
  rcases this with rfl | rfl | rfl | rfl <;> simp [cnA, shO, hn]
theorem cn_le {n k j c i : Nat} (hn : n ≤ 4) (hk : k ≤ 9) (hc : c ≤ 4) (hi : i ≤ 9) : cnI n k j c i ≤ 1000 := by
  have h1 : k * n ≤ 9 * 4 := Nat.mul_le_mul hk hn
  have h2 : k * c ≤ 9 * 4 := Nat.mul_le_mul hk hc
  unfold cnI cnA
  repeat' split
  all_goals omega
theorem cn_end {n k : Nat} : cnA n k 4 0 = 2 * k + 2 * k * n := by
  simp [cnA, shO, Nat.mul_assoc]
  omega

set_option maxRecDepth 100000 in
set_option maxHeartbeats 8000000 in
theorem fabricRoom (A : Nat → Addr) (cores room : Int) (w : World) (hs : SentAt w A) (h1 : in64 cores) (h2 : in64 room) : Calls Tryd.prog 9 #[.int .i64 cores, .int .i64 room] w (TruePost w) := by
  have HS := Lib.hid hs
  have H1 := Lib.hid h1
  have H2 := Lib.hid h2
  clear hs h1 h2
  go_enter Tryd.func9, Tryd.ntmps9
  go_wp2_with fail
  refine (Within_b cores 1 4 w (by omega) (by omega) (by omega) H1.out.1 H1.out.2).mono ?_
  rintro ev w' ⟨rfl, hww⟩
  obtain rfl := hww
  have hn := wiF_b (n := cores) (lo := 1) (hi := 4) (by omega)
  generalize wiF cores 1 4 = n at *
  obtain ⟨n, rfl⟩ := Int.eq_ofNat_of_zero_le (show 0 ≤ n by omega)
  have HN := Lib.hid (show 1 ≤ n ∧ n ≤ 4 by omega)
  clear hn
  go_wp2_with fail
  refine (Within_b room 1 9 w (by omega) (by omega) (by omega) H2.out.1 H2.out.2).mono ?_
  rintro ev w' ⟨rfl, hww⟩
  obtain rfl := hww
  have hn := wiF_b (n := room) (lo := 1) (hi := 9) (by omega)
  generalize wiF room 1 9 = k at *
  obtain ⟨k, rfl⟩ := Int.eq_ofNat_of_zero_le (show 0 ≤ k by omega)
  have HK := Lib.hid (show 1 ≤ k ∧ k ≤ 9 by omega)
  clear hn
  go_wp2_with fail
  refine (fbs_new n k [] w (by have := HN.out; omega) (by have := HN.out; omega) (by have := HK.out; omega) (by have := HK.out; omega) (fun q hq => by cases hq)).mono ?_
  rintro ev w1 ⟨b, rfl, hF⟩
  have HF := Lib.hid hF
  clear hF
  go_upto_block 7 with fail
  obtain ⟨h32, hh⟩ : ∃ h, h = w1.heap.size := ⟨_, rfl⟩
  have hb : Below w1.heap.size w1 (w1.alloc (.cells #[.int .i64 1, .int .i64 6, .int .i64 12, .int .i64 15] 3)) := (Below.refl _ _).alloc (Nat.le_refl _) _
  have HF := Lib.hid ((HF.out.add h32 (by omega)).bel hb)
  have HX := Lib.hid (show (w1.alloc (.cells #[.int .i64 1, .int .i64 6, .int .i64 12, .int .i64 15] 3)).heap[h32]? = some (.cells #[.int .i64 1, .int .i64 6, .int .i64 12, .int .i64 15] 3 (0, 0)) from by rw [hh]; exact heap_alloc_new _ _)
  rw [← hh]
  clear hb hh
  generalize w1.alloc (.cells #[.int .i64 1, .int .i64 6, .int .i64 12, .int .i64 15] 3) = w2 at *
  have HQ := Lib.hid (show RmQ k 0 0 (fun _ => []) from ⟨fun _ _ _ => rfl, fun _ _ _ => rfl, fun _ => rfl, LeF.nil k⟩)
  go_wp2_with fail
  go_loopw [9, 34] (fun s9 s34 wr => ∃ (j : Nat) (F : Plc → List MsgV), j ≤ 4 ∧ s34 = .int .i64 j ∧ s9 = .int .i64 (cnA n k j 0 : Nat) ∧ RmQ k j 0 F ∧ FbS w b n k F (cnA n k j 0) [h32] wr ∧ wr.heap[h32]? = some (.cells #[.int .i64 1, .int .i64 6, .int .i64 12, .int .i64 15] 3 (0, 0))) (fun _ s34 _ => 4 - (intOf s34).toNat)
  case atStart => exact ⟨0, _, by omega, rfl, rfl, HQ.out, HF.out, HX.out⟩
  case round =>
    clear HQ HF HX
    obtain ⟨j, F, hj, rfl, rfl, hq, hf, hx⟩ := hrel
    have HQ := Lib.hid hq
    have HF := Lib.hid hf
    have HX := Lib.hid hx
    clear hq hf
    by_cases hj4 : j < 4
    · have k1 : decide (j < 4) = true := by simpa using hj4
      have k2 : decide ((j : Int) < 4) = true := by simp; omega
      have hc := cell_of hx j
      have hj' : (#[Value.int .i64 1, .int .i64 6, .int .i64 12, .int .i64 15] : Array Value)[j]? = some (.int .i64 (kdO j)) := by
        have : j = 0 ∨ j = 1 ∨ j = 2 ∨ j = 3 := by omega
        rcases this with rfl | rfl | rfl | rfl <;> rfl
      rw [hj'] at hc
      clear hj' hx
      obtain ⟨a0, ha0⟩ : ∃ a, a = cnA n k j 0 := ⟨_, rfl⟩
      have HA0 := Lib.hid ha0
      rw [← ha0] at HF ⊢
      clear ha0
      have HJ := Lib.hid hj4
      go_wp2_with fail
      go_loopw [9, 12] (fun s9 s12 wr => ∃ (c : Nat) (F : Plc → List MsgV), c ≤ n ∧ s12 = .int .i64 c ∧ s9 = .int .i64 (cnA n k j c : Nat) ∧ RmQ k j c F ∧ FbS w b n k F (cnA n k j c) [h32] wr ∧ wr.heap[h32]? = some (.cells #[.int .i64 1, .int .i64 6, .int .i64 12, .int .i64 15] 3 (0, 0))) (fun _ s12 _ => n - (intOf s12).toNat)
      case atStart => exact ⟨0, F, by omega, rfl, by rw [HA0.out], HQ.out, by rw [← HA0.out]; exact HF.out, HX.out⟩
      case round =>
        clear HQ HF HX HA0 hc
        obtain ⟨c, F, hc, rfl, rfl, hq, hf, hx⟩ := hrel
        have HQ := Lib.hid hq
        have HF := Lib.hid hf
        have HX := Lib.hid hx
        clear hq hf hx
        by_cases hcn : c < n
        · have k3 : decide (c < n) = true := by simpa using hcn
          have k4 : decide ((c : Int) < (n : Int)) = true := by simp; omega
          have hc4 : c ≤ 4 := by have := HN.out; omega
          obtain ⟨a0, ha0⟩ : ∃ a, a = cnA n k j c := ⟨_, rfl⟩
          have HA0 := Lib.hid ha0
          rw [← ha0] at HF ⊢
          clear ha0
          have HC := Lib.hid hcn
          go_upto_region 12 with fail
          go_cut [13] from 43 to 48 (fun s13 wx => s13 = .bool (shO j) ∧ wx = wr)
          case first =>
            have : j = 0 ∨ j = 1 ∨ j = 2 ∨ j = 3 := by omega
            rcases this with rfl | rfl | rfl | rfl
            · rw [show kdO 0 = 1 from rfl]
              go_wp2_with fail
              go_meet
              case rel => exact ⟨rfl, rfl⟩
            · rw [show kdO 1 = 6 from rfl]
              go_wp2_with fail
              go_meet
              case rel => exact ⟨rfl, rfl⟩
            · rw [show kdO 2 = 12 from rfl]
              go_wp2_with fail
              go_meet
              case rel => exact ⟨rfl, rfl⟩
            · rw [show kdO 3 = 15 from rfl]
              go_wp2_with fail
              go_meet
              case rel => exact ⟨rfl, rfl⟩
          case rest =>
            obtain ⟨rfl, rfl⟩ := hcut
            go_wp2_with fail
            go_loopw [9, 14] (fun s9 s14 wr => ∃ (i : Nat) (F : Plc → List MsgV), i ≤ k ∧ s14 = .int .i64 i ∧ s9 = .int .i64 (cnI n k j c i : Nat) ∧ RmI k j c i F ∧ FbS w b n k F (cnI n k j c i) [h32] wr ∧ wr.heap[h32]? = some (.cells #[.int .i64 1, .int .i64 6, .int .i64 12, .int .i64 15] 3 (0, 0))) (fun _ s14 _ => k - (intOf s14).toNat)
            case atStart =>
              have e : cnI n k j c 0 = a0 := by rw [HA0.out]; unfold cnI; split <;> rfl
              exact ⟨0, F, by omega, rfl, by rw [e], HQ.out.start HJ.out, by rw [e]; exact HF.out, HX.out⟩
            case round =>
              clear HQ HF HX HA0
              obtain ⟨i, F, hi, rfl, rfl, hq, hf, hx⟩ := hrel
              have HQ := Lib.hid hq
              have HF := Lib.hid hf
              have HX := Lib.hid hx
              clear hq hf hx
              have hi9 : i ≤ 9 := by have := HK.out; omega
              obtain ⟨a, ha⟩ : ∃ a, a = cnI n k j c i := ⟨_, rfl⟩
              have ha1 : a ≤ 1000 := by rw [ha]; exact cn_le HN.out.2 HK.out.2 hc4 hi9
              have HA := Lib.hid ha
              rw [← ha] at HF ⊢
              clear ha
              by_cases hik : i < k
              · have k5 : decide (i < k) = true := by simpa using hik
                have k6 : decide ((i : Int) < (k : Int)) = true := by simp; omega
                have HI := Lib.hid hik
                by_cases hst : (shO j && decide (0 < c)) = true
                · have hsh : shO j = true := by simp only [Bool.and_eq_true] at hst; exact hst.1
                  have gc : ((c : Int) == 0) = false := by simp only [Bool.and_eq_true, decide_eq_true_eq] at hst; simp; omega
                  have HST := Lib.hid hst
                  rw [hsh]
                  clear hst hsh
                  go_wp2_with fail
                  refine (of_c (kdO j) c wr).mono ?_
                  rintro ev w5 ⟨rfl, hb⟩
                  simp only [ofM, MsgV.v]
                  have HF := Lib.hid (HF.out.bel hb)
                  have HX := Lib.hid ((hb.block _ (Array.getElem?_eq_some_iff.1 HX.out).1).trans HX.out)
                  clear hb
                  go_wp2_with fail
                  refine (fbs_sendB A w b a n k k rfl F [h32] [ofM (kdO j) c] w5 HF.out HS.out (fun q hq => by
                    obtain rfl : q = h32 := by simpa using hq
                    exact (Array.getElem?_eq_some_iff.1 HX.out).1) (by simp) HQ.out.le (by have := HK.out; omega)).mono ?_
                  rintro ev w6 ⟨rfl, hF, hk⟩
                  have HX := Lib.hid (hk.at (List.mem_cons_self ..) HX.out)
                  clear hk
                  have hfe := HQ.out.full HJ.out HN.out.2 HC.out (n := n) (.inl HST.out)
                  rw [(send_off hfe).1, (send_off hfe).2, Nat.add_zero] at hF
                  rw [hfe, show (ErrT.wrap fsT 0 (.sent 5)).val A = .iface 75 (.agg #[.string fsT, .int .i64 0, .iface 116 (.pointer (some (A 5)))]) from rfl]
                  have HF := Lib.hid hF
                  clear hF hfe
                  go_wp2_with fail
                  go_roundw
                  case rel =>
                    have e : cnI n k j c (i + 1) = a := by rw [HA.out]; unfold cnI; rw [HST.out]; rfl
                    exact ⟨i + 1, F, by omega, by go_num, by rw [e], HQ.out.stay HST.out, by rw [e]; exact HF.out, HX.out⟩
                  case measure => simp [intOf] <;> omega
                · have hst : (shO j && decide (0 < c)) = false := by simpa using hst
                  have HST := Lib.hid hst
                  by_cases hsh : shO j = true
                  · have gc : ((c : Int) == 0) = true := by rw [hsh] at hst; simp at hst; simp [hst]
                    rw [hsh]
                    clear hst hsh
                    go_wp2_with fail
                    refine (of_c (kdO j) c wr).mono ?_
                    rintro ev w5 ⟨rfl, hb⟩
                    simp only [ofM, MsgV.v]
                    have HF := Lib.hid (HF.out.bel hb)
                    have HX := Lib.hid ((hb.block _ (Array.getElem?_eq_some_iff.1 HX.out).1).trans HX.out)
                    clear hb
                    go_wp2_with fail
                    refine (fbs_sendB A w b a n k k rfl F [h32] [ofM (kdO j) c] w5 HF.out HS.out (fun q hq => by
                      obtain rfl : q = h32 := by simpa using hq
                      exact (Array.getElem?_eq_some_iff.1 HX.out).1) (by simp) HQ.out.le (by have := HK.out; omega)).mono ?_
                    rintro ev w6 ⟨rfl, hF, hk⟩
                    have HX := Lib.hid (hk.at (List.mem_cons_self ..) HX.out)
                    clear hk
                    obtain ⟨hfe, hq⟩ := HQ.out.goes HJ.out HN.out.2 HC.out HST.out HI.out
                    have HQ2 := Lib.hid hq
                    rw [(send_one hfe).2] at hF
                    rw [hfe, show ErrT.nil.val A = .nilIface from rfl]
                    have HF := Lib.hid hF
                    clear hF hfe hq
                    go_wp2_with fail
                    go_roundw
                    case rel =>
                      have e : cnI n k j c (i + 1) = a + 1 := by rw [HA.out]; unfold cnI; rw [HST.out]; rfl
                      exact ⟨i + 1, _, by omega, by go_num, by rw [e]; go_num, HQ2.out, by rw [e]; exact HF.out, HX.out⟩
                    case measure => simp [intOf] <;> omega
                  · have hsh : shO j = false := by simpa using hsh
                    rw [hsh]
                    clear hst hsh
                    go_wp2_with fail
                    refine (of_c (kdO j) c wr).mono ?_
                    rintro ev w5 ⟨rfl, hb⟩
                    simp only [ofM, MsgV.v]
                    have HF := Lib.hid (HF.out.bel hb)
                    have HX := Lib.hid ((hb.block _ (Array.getElem?_eq_some_iff.1 HX.out).1).trans HX.out)
                    clear hb
                    go_wp2_with fail
                    refine (fbs_sendB A w b a n k k rfl F [h32] [ofM (kdO j) c] w5 HF.out HS.out (fun q hq => by
                      obtain rfl : q = h32 := by simpa using hq
                      exact (Array.getElem?_eq_some_iff.1 HX.out).1) (by simp) HQ.out.le (by have := HK.out; omega)).mono ?_
                    rintro ev w6 ⟨rfl, hF, hk⟩
                    have HX := Lib.hid (hk.at (List.mem_cons_self ..) HX.out)
                    clear hk
                    obtain ⟨hfe, hq⟩ := HQ.out.goes HJ.out HN.out.2 HC.out HST.out HI.out
                    have HQ2 := Lib.hid hq
                    rw [(send_one hfe).2] at hF
                    rw [hfe, show ErrT.nil.val A = .nilIface from rfl]
                    have HF := Lib.hid hF
                    clear hF hfe hq
                    go_wp2_with fail
                    go_roundw
                    case rel =>
                      have e : cnI n k j c (i + 1) = a + 1 := by rw [HA.out]; unfold cnI; rw [HST.out]; rfl
                      exact ⟨i + 1, _, by omega, by go_num, by rw [e]; go_num, HQ2.out, by rw [e]; exact HF.out, HX.out⟩
                    case measure => simp [intOf] <;> omega
              · have k5 : decide (i < k) = false := by simpa using hik
                have HE := Lib.hid (show i = k by omega)
                go_wp2_with fail
                refine (of_c (kdO j) c wr).mono ?_
                rintro ev w5 ⟨rfl, hb⟩
                simp only [ofM, MsgV.v]
                have HF := Lib.hid (HF.out.bel hb)
                have HX := Lib.hid ((hb.block _ (Array.getElem?_eq_some_iff.1 HX.out).1).trans HX.out)
                clear hb
                go_wp2_with fail
                refine (fbs_sendB A w b a n k k rfl F [h32] [ofM (kdO j) c] w5 HF.out HS.out (fun q hq => by
                  obtain rfl : q = h32 := by simpa using hq
                  exact (Array.getElem?_eq_some_iff.1 HX.out).1) (by simp) HQ.out.le (by have := HK.out; omega)).mono ?_
                rintro ev w6 ⟨rfl, hF, hk⟩
                have HX := Lib.hid (hk.at (List.mem_cons_self ..) HX.out)
                clear hk
                have hfe := HQ.out.full HJ.out HN.out.2 HC.out (n := n) (.inr HE.out)
                rw [(send_off hfe).1, (send_off hfe).2, Nat.add_zero] at hF
                rw [hfe, show (ErrT.wrap fsT 0 (.sent 5)).val A = .iface 75 (.agg #[.string fsT, .int .i64 0, .iface 116 (.pointer (some (A 5)))]) from rfl]
                have HF := Lib.hid hF
                clear hF hfe
                go_wp2_with fail
                change Calls Tryd.prog _ #[(ErrT.wrap fsT 0 (.sent 5)).val A, .int .i64 (6 : Int), .string fsT, .int .i64 0] _ _
                refine (is_c A (.wrap fsT 0 (.sent 5)) 6 fsT 0 w6 (HS.out.below HF.out.below) ⟨rfl, show (5 : Nat) < 10 by omega⟩ (by omega) (by omega)).mono ?_
                rintro ev w7 ⟨rfl, hb⟩
                rw [show isK (.wrap fsT 0 (.sent 5)) 6 fsT 0 = true by simp [isK, ErrT.code]]
                have HF := Lib.hid (HF.out.bel hb)
                have HX := Lib.hid ((hb.block _ (Array.getElem?_eq_some_iff.1 HX.out).1).trans HX.out)
                clear hb
                go_wp2_with fail
                go_roundw
                case rel =>
                  have e : a = cnA n k j (c + 1) := by rw [HA.out, HE.out]; exact cn_fin
                  have hq := HQ.out
                  rw [HE.out] at hq
                  exact ⟨c + 1, F, by omega, by go_num, by rw [e], hq.fin HJ.out, by rw [← e]; exact HF.out, HX.out⟩
                case measure => simp [intOf] <;> omega
        · have k3 : decide (c < n) = false := by simpa using hcn
          have HE := Lib.hid (show c = n by omega)
          go_wp2_with fail
          go_roundw
          case rel =>
            have e : cnA n k j c = cnA n k (j + 1) 0 := by rw [HE.out]; exact cn_next HJ.out HN.out.1
            exact ⟨j + 1, F, by omega, by go_num, by rw [e], HQ.out.next, by rw [← e]; exact HF.out, HX.out⟩
          case measure => simp [intOf] <;> omega
    · have k1 : decide (j < 4) = false := by simpa using hj4
      have hj5 : j = 4 := by omega
      rw [hj5] at HF ⊢
      have HF := Lib.hid (show FbS w b n k F (2 * k + 2 * k * n) [h32] wr from by have h := HF.out; rw [cn_end] at h; exact h)
      rw [cn_end]
      have hm : 2 * k * n ≤ 72 := Nat.mul_le_mul (show 2 * k ≤ 18 by have := HK.out; omega) (show n ≤ 4 by have := HN.out; omega)
      have hk9 : k ≤ 9 := HK.out.2
      have hn9 : n ≤ 4 := HN.out.2
      obtain ⟨a, ha⟩ : ∃ a, a = 2 * k + 2 * k * n := ⟨_, rfl⟩
      rw [← ha] at HF ⊢
      have ha1 : a ≤ 1000 := by omega
      have hm2 : 2 * (k : Int) * (n : Int) ≤ 72 := by exact_mod_cast hm
      have hm3 : 0 ≤ 2 * (k : Int) * (n : Int) := Int.mul_nonneg (by omega) (by omega)
      have geq : ((a : Int) == 2 * (k : Int) + 2 * (k : Int) * (n : Int)) = true := by rw [ha]; simp
      clear ha hm HX HQ hj hj4 k1 hj5
      go_wp2_with fail
      refine (fbs_all w b a n k F [h32] wr HF.out (by omega)).mono ?_
      rintro ev w3 ⟨rfl, hb⟩
      have HF := Lib.hid (HF.out.bel hb)
      clear hb
      go_wp2_with fail
      refine (fabricRuns A w3 (HS.out.below HF.out.below)).mono ?_
      rintro ev w4 ⟨rfl, hb⟩
      have HF := Lib.hid (HF.out.bel hb)
      clear hb
      go_wp2_with fail
      go_ret
      exact ⟨rfl, HF.out.below⟩

end Go.Proofs.YtbefkkefglkleaaDoor
