/- The document's fabric: Len, All, Peek. -/
import Derived.Test.YtbefkkefglkleaaDoorRf1
import Derived.Test.YtbefkkefglkleaaDoorFa3
namespace Go.Proofs.YtbefkkefglkleaaDoor
open Go.RowKit Go.Extern.Stop Go.Stop Go.Extern

theorem place_nat {n : Nat} {p c : Int} (hn : 1 ≤ n) (h : placeOk n p c = true) : ∃ p' c' : Nat, p' < 4 ∧ c' < n ∧ placeP p c = ((p' : Int), (c' : Int)) ∧ ((p' = 0 ∨ p' = 2) → c' = 0) := by
  unfold placeOk at h
  simp only [Bool.or_eq_true, Bool.and_eq_true, decide_eq_true_eq] at h
  rcases h with (rfl | rfl) | ⟨rfl | rfl, h⟩
  · exact ⟨0, 0, by omega, by omega, rfl, fun _ => rfl⟩
  · exact ⟨2, 0, by omega, by omega, rfl, fun _ => rfl⟩
  · obtain ⟨c, rfl⟩ := Int.eq_ofNat_of_zero_le h.1
    exact ⟨1, c, by omega, by omega, rfl, fun h => by omega⟩
  · obtain ⟨c, rfl⟩ := Int.eq_ofNat_of_zero_le h.1
    exact ⟨3, c, by omega, by omega, rfl, fun h => by omega⟩
section
variable {w0 w w' : World} {n b : Nat} {room : Int} {X : Nat → Value} {V : Nat → Nat → Value} {F : Plc → List MsgV}
theorem rowPtr_on (h : RfB w0 n X V F w) (hn : 1 ≤ n) {p c : Int} (hp : placeOk n p c = true) : ∃ (p' c' g off : Nat), p' < 4 ∧ c' < n ∧ placeP p c = ((p' : Int), (c' : Int)) ∧ rowPtr n X p c = .pointer (some ⟨g, off + c', none⟩) ∧ g < w.heap.size ∧ (∃ cap, X p' = .slice (some ⟨g, off, none⟩) n cap) ∧ w.cell? ⟨g, off + c', none⟩ = some (V p' c') ∧ ((p' = 0 ∨ p' = 2) → c' = 0) := by
  obtain ⟨p', c', h1, h2, h3, h4⟩ := place_nat hn hp
  obtain ⟨g, off, cap, hx, hg, hc⟩ := h.form hn p' h1
  refine ⟨p', c', g, off, h1, h2, h3, ?_, hg, ⟨cap, hx⟩, hc c' h2, h4⟩
  unfold rowPtr
  rw [if_pos hp, h3]
  simp only [Int.toNat_natCast]
  rw [hx]
  rfl
theorem RfB.frm (h : RfB w0 n X V F w) (hn : 1 ≤ n) : ∀ p, p < 4 → ∃ g off cap, X p = .slice (some ⟨g, off, none⟩) n cap := fun p hp => by
  obtain ⟨g, off, cap, hx, _⟩ := h.form hn p hp
  exact ⟨g, off, cap, hx⟩
theorem lenP_on {p c : Int} (h : placeOk n p c = true) : lenP n F p c = ((F (placeP p c)).length : Int) := if_pos h
theorem lenP_no {p c : Int} (h : placeOk n p c = false) : lenP n F p c = 0 := if_neg (by simp [h])
end
set_option maxRecDepth 100000 in
theorem rlen_c (w0 : World) (b n : Nat) (room : Int) (X : Nat → Value) (V : Nat → Nat → Value) (F : Plc → List MsgV) (p c : Int) (w : World) (hh : RfH b n room X w) (h : RfB w0 n X V F w) (h1 : 1 ≤ n) (h2 : n ≤ 64) :
    Calls Tryd.prog 26 #[.pointer (some ⟨b, 0, none⟩), .int .i64 p, .int .i64 c] w fun ev w' => ev = .returned (.int .i64 (lenP n F p c)) ∧ w = w' := by
  have HH := Lib.hid hh
  have HB := Lib.hid h
  clear hh h
  go_enter Tryd.func26, Tryd.ntmps26
  go_wp2_with fail
  refine (rrow_c b n room X p c w HH.out (HB.out.frm h1) h1 h2).mono ?_
  rintro ev w' ⟨rfl, hww⟩
  obtain rfl := hww
  cases ho : placeOk n p c with
  | false =>
    rw [rowPtr_off ho]
    have HL := Lib.hid (lenP_no (F := F) ho)
    clear ho
    go_wp2_with fail
    go_ret
    exact ⟨congrArg (fun z => Ending.returned (.int .i64 z)) HL.out.symm, rfl⟩
  | true =>
    obtain ⟨p', c', g, off, hp', hc', hpl, hpt, _, _, hce, _⟩ := rowPtr_on HB.out h1 ho
    rw [hpt]
    have HL := Lib.hid (lenP_on (F := F) ho)
    rw [hpl] at HL
    obtain ⟨a, cap, hv⟩ := (HB.out.row p' c' hp' hc').len
    rw [hv] at hce
    generalize (F ((p' : Int), (c' : Int))).length = ln at *
    clear ho hpt hpl hv hp' hc'
    go_wp2_with fail
    go_ret
    exact ⟨congrArg (fun z => Ending.returned (.int .i64 z)) HL.out.symm, rfl⟩

/-- How many wait in all. -/
def sumC (F : Plc → List MsgV) (p : Nat) : Nat → Nat
  | 0 => 0
  | c + 1 => sumC F p c + (F ((p : Int), (c : Int))).length
def sumP (F : Plc → List MsgV) (n : Nat) : Nat → Nat
  | 0 => 0
  | p + 1 => sumP F n p + sumC F p n
def totR (n : Nat) (F : Plc → List MsgV) : Nat := sumP F n 4
theorem sumC_le {F : Plc → List MsgV} {m : Nat} (h : LeF F m) (p : Nat) : ∀ c, sumC F p c ≤ c * m
  | 0 => by simp [sumC]
  | c + 1 => by
    have h1 := sumC_le h p c
    have h2 := h ((p : Int), (c : Int))
    simp only [sumC, Nat.add_mul, Nat.one_mul]
    omega
theorem sumP_le {F : Plc → List MsgV} {m n : Nat} (h : LeF F m) : ∀ p, sumP F n p ≤ p * (n * m)
  | 0 => by simp [sumP]
  | p + 1 => by
    have h1 := sumP_le (n := n) h p
    have h2 := sumC_le h p n
    simp only [sumP, Nat.add_mul, Nat.one_mul]
    omega
theorem sumC_upd (F : Plc → List MsgV) (p : Nat) (q : Plc) (L : List MsgV) : ∀ c : Nat, ((∀ c' : Nat, c' < c → q ≠ ((p : Int), (c' : Int))) → sumC (updF F q L) p c = sumC F p c) ∧ (∀ c' : Nat, c' < c → q = ((p : Int), (c' : Int)) → sumC (updF F q L) p c + (F q).length = sumC F p c + L.length)
  | 0 => ⟨fun _ => rfl, fun c' h => by omega⟩
  | c + 1 => by
    obtain ⟨h1, h2⟩ := sumC_upd F p q L c
    refine ⟨fun h => ?_, fun c' hc e => ?_⟩
    · simp only [sumC, h1 fun c' hc' => h c' (by omega)]
      have : (updF F q L ((p : Int), (c : Int))) = F ((p : Int), (c : Int)) := if_neg fun e => h c (by omega) e.symm
      rw [this]
    · simp only [sumC]
      by_cases hcc : c' = c
      · subst hcc
        have h3 := h1 fun d hd e' => by
          rw [e] at e'
          have := (Prod.mk.inj e').2
          omega
        have : (updF F q L ((p : Int), (c' : Int))) = L := if_pos e.symm
        rw [h3, this, ← e]
        omega
      · have h3 := h2 c' (by omega) e
        have : (updF F q L ((p : Int), (c : Int))) = F ((p : Int), (c : Int)) := if_neg fun e' => by
          rw [e] at e'
          have := (Prod.mk.inj e').2
          omega
        rw [this]
        omega
theorem sumP_upd (F : Plc → List MsgV) (n p' c' : Nat) (L : List MsgV) (hc : c' < n) : ∀ p, (p ≤ p' → sumP (updF F ((p' : Int), (c' : Int)) L) n p = sumP F n p) ∧ (p' < p → sumP (updF F ((p' : Int), (c' : Int)) L) n p + (F ((p' : Int), (c' : Int))).length = sumP F n p + L.length)
  | 0 => ⟨fun _ => rfl, fun h => by omega⟩
  | p + 1 => by
    obtain ⟨h1, h2⟩ := sumP_upd F n p' c' L hc p
    obtain ⟨h3, h4⟩ := sumC_upd F p ((p' : Int), (c' : Int)) L n
    refine ⟨fun h => ?_, fun h => ?_⟩
    · simp only [sumP, h1 (by omega), h3 fun d _ e => by have := (Prod.mk.inj e).1; omega]
    · simp only [sumP]
      by_cases hp : p' = p
      · have h5 := h1 (by omega)
        have h6 := h4 c' hc (by rw [hp])
        omega
      · have h5 := h2 (by omega)
        rw [h3 fun d _ e => hp (by have := (Prod.mk.inj e).1; omega)]
        omega
theorem totR_upd (F : Plc → List MsgV) (n p' c' : Nat) (L : List MsgV) (hp : p' < 4) (hc : c' < n) : totR n (updF F ((p' : Int), (c' : Int)) L) + (F ((p' : Int), (c' : Int))).length = totR n F + L.length := (sumP_upd F n p' c' L hc 4).2 hp

set_option maxRecDepth 100000 in
set_option maxHeartbeats 2000000 in
theorem rall_c (w0 : World) (b n m : Nat) (room : Int) (X : Nat → Value) (V : Nat → Nat → Value) (F : Plc → List MsgV) (w : World) (hh : RfH b n room X w) (h : RfB w0 n X V F w) (h1 : 1 ≤ n) (h2 : n ≤ 64) (hm : m ≤ 1000) (hl : LeF F m) :
    Calls Tryd.prog 25 #[.pointer (some ⟨b, 0, none⟩)] w fun ev w' => ev = .returned (.int .i64 (totR n F : Nat)) ∧ w = w' := by
  have HH := Lib.hid hh
  have HB := Lib.hid h
  have HL := Lib.hid hl
  have HNM := Lib.hid (show n * m ≤ 64 * 1000 from Nat.mul_le_mul h2 hm)
  clear hh h hl
  go_enter Tryd.func25, Tryd.ntmps25
  go_wp2_with fail
  go_loopw [3, 7] (fun s3 s7 wr => ∃ p : Nat, p ≤ 4 ∧ s7 = .int .i64 p ∧ s3 = .int .i64 (sumP F n p : Nat) ∧ wr = w) (fun _ s7 _ => 4 - (intOf s7).toNat)
  case atStart => exact ⟨0, by omega, rfl, rfl, rfl⟩
  case round =>
    obtain ⟨p, hp4, rfl, rfl, rfl⟩ := hrel
    by_cases hp : p < 4
    · have j1 : decide (p < 4) = true := by simpa using hp
      have j2 : decide ((p : Int) < 4) = true := by simp; omega
      obtain ⟨g, off, cap, hx, hg, hc⟩ := HB.out.form h1 p hp
      have HC := Lib.hid hc
      have HP := Lib.hid hp
      have q0 : wr.cell? ⟨b, 2 + p, none⟩ = some (.slice (some ⟨g, off, none⟩) n cap) := by
        have h := cell_of HH.out (2 + p)
        rw [h]
        have : p = 0 ∨ p = 1 ∨ p = 2 ∨ p = 3 := by omega
        rcases this with rfl | rfl | rfl | rfl <;> (rw [← hx]; rfl)
      have hsp : sumP F n p ≤ 300000 := by
        have := sumP_le (n := n) HL.out p
        have := HNM.out
        have : p * (n * m) ≤ 4 * (64 * 1000) := Nat.mul_le_mul hp4 HNM.out
        omega
      obtain ⟨a, ha⟩ : ∃ a, a = sumP F n p := ⟨_, rfl⟩
      have HA := Lib.hid ha
      rw [← ha] at hsp ⊢
      clear ha hc hx hg
      go_wp2_with fail
      go_loopw [3, 17] (fun s3 s17 wx => ∃ c : Nat, c ≤ n ∧ s17 = .int .i64 c ∧ s3 = .int .i64 (a + sumC F p c : Nat) ∧ wx = wr) (fun _ s17 _ => n - (intOf s17).toNat)
      case atStart => exact ⟨0, by omega, rfl, rfl, rfl⟩
      case round =>
        obtain ⟨c, hc4, rfl, rfl, rfl⟩ := hrel
        by_cases hc : c < n
        · have j3 : decide (c < n) = true := by simpa using hc
          have j4 : decide ((c : Int) < (n : Int)) = true := by simp; omega
          have q1 := HC.out c hc
          obtain ⟨ad, ck, hv⟩ := (HB.out.row p c HP.out hc).len
          rw [hv] at q1
          obtain ⟨ln, hln⟩ : ∃ ln, ln = (F ((p : Int), (c : Int))).length := ⟨_, rfl⟩
          have HLN := Lib.hid hln
          rw [← hln] at q1
          have hln9 : ln ≤ 1000 := by rw [hln]; exact Nat.le_trans (HL.out _) hm
          obtain ⟨a2, ha2⟩ : ∃ a2, a2 = a + sumC F p c := ⟨_, rfl⟩
          have ha9 : a2 ≤ 400000 := by
            have h3 := sumC_le HL.out p c
            have : c * m ≤ 64 * 1000 := Nat.mul_le_mul (by omega) hm
            omega
          have HA2 := Lib.hid ha2
          rw [← ha2]
          clear hv hln ha2
          go_wp2_with fail
          go_roundw
          case rel => exact ⟨c + 1, by omega, by go_num, by rw [show a + sumC F p (c + 1) = a2 + ln by rw [HA2.out, HLN.out]; simp only [sumC]; omega]; go_num, by first | rfl | trivial⟩
          case measure => simp [intOf] <;> omega
        · have j3 : decide (c < n) = false := by simpa using hc
          have j4 : decide ((c : Int) < (n : Int)) = false := by simp; omega
          have hcn : c = n := by omega
          have HE := Lib.hid (show a + sumC F p c = sumP F n (p + 1) by rw [HA.out, hcn]; rfl)
          rw [HE.out]
          clear hcn
          go_wp2_with fail
          go_roundw
          case rel => exact ⟨p + 1, by omega, by go_num, rfl, by first | rfl | trivial⟩
          case measure => simp [intOf] <;> omega
    · have j1 : decide (p < 4) = false := by simpa using hp
      have j2 : decide ((p : Int) < 4) = false := by simp; omega
      have hp4' : p = 4 := by omega
      rw [hp4']
      go_wp2_with fail
      go_ret
      exact ⟨rfl, rfl⟩

set_option maxRecDepth 100000 in
set_option maxHeartbeats 4000000 in
theorem rpeek_c (w0 : World) (b n : Nat) (room : Int) (X : Nat → Value) (V : Nat → Nat → Value) (F : Plc → List MsgV) (p c k : Int) (w : World) (hh : RfH b n room X w) (h : RfB w0 n X V F w) (h1 : 1 ≤ n) (h2 : n ≤ 64) :
    Calls Tryd.prog 23 #[.pointer (some ⟨b, 0, none⟩), .int .i64 p, .int .i64 c, .int .i64 k] w fun ev w' => ev = .returned (.tuple #[(peekP n F p c k).1.v, .bool (peekP n F p c k).2]) ∧ Below w.heap.size w w' := by
  have HPK := Lib.hid (show peekP n F p c k = if placeOk n p c = true ∧ 0 ≤ k ∧ k < ((F (placeP p c)).length : Int) then (((F (placeP p c))[k.toNat]?).getD zeroM, true) else (zeroM, false) from rfl)
  have hba : Below w.heap.size w (w.alloc (.cells #[.int .i64 0, .int .i64 0, .int .i64 0, .int .i64 0, .int .i64 0, .int .i64 0, .int .i64 0, .int .u32 0, .int .u32 0, .int .u32 0, .int .u32 0, .int .u32 0, .bool false] 32)) := (Below.refl _ _).alloc (Nat.le_refl _) _
  have HBA := Lib.hid hba
  have HXA := Lib.hid (heap_alloc_new w (.cells #[.int .i64 0, .int .i64 0, .int .i64 0, .int .i64 0, .int .i64 0, .int .i64 0, .int .i64 0, .int .u32 0, .int .u32 0, .int .u32 0, .int .u32 0, .int .u32 0, .bool false] 32))
  have HH := Lib.hid (hh.bel hba)
  have HB := Lib.hid (h.bel hba)
  have HOW := Lib.hid (fun (q : Nat) (hq : RfOwn n X V q) => (h.lt hq).2)
  clear h hh hba
  go_enter Tryd.func23, Tryd.ntmps23
  go_upto_region 1 with fail
  obtain ⟨h8, hh8⟩ : ∃ h, h = w.heap.size := ⟨_, rfl⟩
  have HLE := Lib.hid (show w.heap.size ≤ h8 from by omega)
  have HOW := Lib.hid (show ∀ q, RfOwn n X V q → q ≠ h8 from fun q hq => by have := HOW.out q hq; omega)
  rw [← hh8] at HXA ⊢
  generalize w.alloc (.cells #[.int .i64 0, .int .i64 0, .int .i64 0, .int .i64 0, .int .i64 0, .int .i64 0, .int .i64 0, .int .u32 0, .int .u32 0, .int .u32 0, .int .u32 0, .int .u32 0, .bool false] 32) = wa at *
  clear hh8
  go_wp2_with fail
  refine (rrow_c b n room X p c wa HH.out (HB.out.frm h1) h1 h2).mono ?_
  rintro ev w' ⟨rfl, hww⟩
  obtain rfl := hww
  obtain ⟨ok, hok⟩ : ∃ ok, placeOk n p c = ok := ⟨_, rfl⟩
  have HOK := Lib.hid hok
  rw [hok] at HPK
  clear hok
  cases ok with
  | false =>
    rw [rowPtr_off HOK.out]
    have HPF := Lib.hid (show peekP n F p c k = (zeroM, false) from by rw [HPK.out]; exact if_neg (by simp))
    have hxr := HXA.out
    have r0 := cell_of hxr 0
    have r1 := cell_of hxr 1
    have r2 := cell_of hxr 2
    have r3 := cell_of hxr 3
    have r4 := cell_of hxr 4
    have r5 := cell_of hxr 5
    have r6 := cell_of hxr 6
    have r7 := cell_of hxr 7
    have r8 := cell_of hxr 8
    have r9 := cell_of hxr 9
    have r10 := cell_of hxr 10
    have r11 := cell_of hxr 11
    have r12 := cell_of hxr 12
    simp only [List.getElem?_toArray, List.getElem?_cons_zero, List.getElem?_cons_succ] at r0 r1 r2 r3 r4 r5 r6 r7 r8 r9 r10 r11 r12
    have hlr := (Array.getElem?_eq_some_iff.1 hxr).1
    have zr0 := frozen_of hxr 0
    have zr1 := frozen_of hxr 1
    have zr2 := frozen_of hxr 2
    have zr3 := frozen_of hxr 3
    have zr4 := frozen_of hxr 4
    have zr5 := frozen_of hxr 5
    have zr6 := frozen_of hxr 6
    have zr7 := frozen_of hxr 7
    have zr8 := frozen_of hxr 8
    have zr9 := frozen_of hxr 9
    have zr10 := frozen_of hxr 10
    have zr11 := frozen_of hxr 11
    have zr12 := frozen_of hxr 12
    go_wp2_with fail
    rw [← set13 wa h8]
    have hz := block13 hxr (.int .i64 0) (.int .i64 0) (.int .i64 0) (.int .i64 0) (.int .i64 0) (.int .i64 0) (.int .i64 0) (.int .u32 0) (.int .u32 0) (.int .u32 0) (.int .u32 0) (.int .u32 0) (.bool false)
    have HBZ := Lib.hid (HBA.out.trans ((mods13 wa h8 (.int .i64 0) (.int .i64 0) (.int .i64 0) (.int .i64 0) (.int .i64 0) (.int .i64 0) (.int .i64 0) (.int .u32 0) (.int .u32 0) (.int .u32 0) (.int .u32 0) (.int .u32 0) (.bool false)).below HBA.out.size fun q (hq : q = h8) => by have := HLE.out; omega))
    clear hxr hlr r0 r1 r2 r3 r4 r5 r6 r7 r8 r9 r10 r11 r12 zr0 zr1 zr2 zr3 zr4 zr5 zr6 zr7 zr8 zr9 zr10 zr11 zr12
    generalize wa.setCells h8 0 [.int .i64 0, .int .i64 0, .int .i64 0, .int .i64 0, .int .i64 0, .int .i64 0, .int .i64 0, .int .u32 0, .int .u32 0, .int .u32 0, .int .u32 0, .int .u32 0, .bool false] = wz at *
    have c0 := cell_of hz 0
    have c1 := cell_of hz 1
    have c2 := cell_of hz 2
    have c3 := cell_of hz 3
    have c4 := cell_of hz 4
    have c5 := cell_of hz 5
    have c6 := cell_of hz 6
    have c7 := cell_of hz 7
    have c8 := cell_of hz 8
    have c9 := cell_of hz 9
    have c10 := cell_of hz 10
    have c11 := cell_of hz 11
    have c12 := cell_of hz 12
    simp only [List.getElem?_toArray, List.getElem?_cons_zero, List.getElem?_cons_succ] at c0 c1 c2 c3 c4 c5 c6 c7 c8 c9 c10 c11 c12
    refine bodyPost_ret_by (v := .tuple #[.agg #[.int .i64 0, .int .i64 0, .int .i64 0, .int .i64 0, .int .i64 0, .int .i64 0, .int .i64 0, .int .u32 0, .int .u32 0, .int .u32 0, .int .u32 0, .int .u32 0, .bool false], .bool false]) (by simp [results, Tryd.results23, go_sem, c0, c1, c2, c3, c4, c5, c6, c7, c8, c9, c10, c11, c12]) rfl ?_
    rw [HPF.out]
    exact ⟨rfl, HBZ.out⟩
  | true =>
    obtain ⟨p', c', g, off, hp', hc', hpl, hpt, hg, hX, hce, _⟩ := rowPtr_on HB.out h1 HOK.out
    rw [hpt]
    rw [hpl] at HPK
    have hrow := HB.out.row p' c' hp' hc'
    have HVO := Lib.hid (show ∀ q, (V p' c').ownBlock = some q → q ≠ h8 from fun q hq => HOW.out q (.inr ⟨p', c', hp', hc', hq⟩))
    generalize F ((p' : Int), (c' : Int)) = L at *
    generalize V p' c' = vv at *
    obtain ⟨ak, ck, hv⟩ := hrow.len
    subst hv
    have HROW := Lib.hid hrow
    clear hpt hpl hrow hX hp' hc'
    by_cases hk : 0 ≤ k ∧ k < (L.length : Int)
    · obtain ⟨hk0, hk1⟩ := hk
      have HPG := Lib.hid (show peekP n F p c k = ((L[k.toNat]?).getD zeroM, true) from by rw [HPK.out]; exact if_pos ⟨rfl, hk0, hk1⟩)
      obtain ⟨kn, rfl⟩ := Int.eq_ofNat_of_zero_le hk0
      have hkn : kn < L.length := by omega
      obtain ⟨M, hM⟩ : ∃ M, L[kn]? = some M := ⟨_, List.getElem?_eq_getElem hkn⟩
      rw [Int.toNat_natCast, hM] at HPG
      obtain ⟨g2, o2, c2, hv2, _, _, hg2, hc2⟩ := HROW.out.form (by omega)
      simp only [Value.slice.injEq, true_and] at hv2
      obtain ⟨rfl, rfl⟩ := hv2
      have hne2 : g2 ≠ h8 := HVO.out g2 rfl
      obtain ⟨m1, m2, m3, m4, m5, m6, m7, m8, m9, m10, m11, m12, m13⟩ := M
      have a0 := hc2 _ _ (flatM_at hM (c := 0) rfl)
      have a1 := hc2 _ _ (flatM_at hM (c := 1) rfl)
      have a2 := hc2 _ _ (flatM_at hM (c := 2) rfl)
      have a3 := hc2 _ _ (flatM_at hM (c := 3) rfl)
      have a4 := hc2 _ _ (flatM_at hM (c := 4) rfl)
      have a5 := hc2 _ _ (flatM_at hM (c := 5) rfl)
      have a6 := hc2 _ _ (flatM_at hM (c := 6) rfl)
      have a7 := hc2 _ _ (flatM_at hM (c := 7) rfl)
      have a8 := hc2 _ _ (flatM_at hM (c := 8) rfl)
      have a9 := hc2 _ _ (flatM_at hM (c := 9) rfl)
      have a10 := hc2 _ _ (flatM_at hM (c := 10) rfl)
      have a11 := hc2 _ _ (flatM_at hM (c := 11) rfl)
      have a12 := hc2 _ _ (flatM_at hM (c := 12) rfl)
      simp only [Nat.add_zero, ← Nat.add_assoc] at a0 a1 a2 a3 a4 a5 a6 a7 a8 a9 a10 a11 a12
      have i1 : decide (kn < L.length) = true := by simpa using hkn
      have i2 : decide ((kn : Int) < (L.length : Int)) = true := by simp; omega
      have i3 : decide ((L.length : Int) ≤ (kn : Int)) = false := by simp; omega
      have i4 : decide (L.length ≤ kn) = false := by simp; omega
      have i5 : decide ((kn : Int) < 0) = false := by simp
      clear hM hc2 hk0 hk1
      have hxr := HXA.out
      have r0 := cell_of hxr 0
      have r1 := cell_of hxr 1
      have r2 := cell_of hxr 2
      have r3 := cell_of hxr 3
      have r4 := cell_of hxr 4
      have r5 := cell_of hxr 5
      have r6 := cell_of hxr 6
      have r7 := cell_of hxr 7
      have r8 := cell_of hxr 8
      have r9 := cell_of hxr 9
      have r10 := cell_of hxr 10
      have r11 := cell_of hxr 11
      have r12 := cell_of hxr 12
      simp only [List.getElem?_toArray, List.getElem?_cons_zero, List.getElem?_cons_succ] at r0 r1 r2 r3 r4 r5 r6 r7 r8 r9 r10 r11 r12
      have hlr := (Array.getElem?_eq_some_iff.1 hxr).1
      have zr0 := frozen_of hxr 0
      have zr1 := frozen_of hxr 1
      have zr2 := frozen_of hxr 2
      have zr3 := frozen_of hxr 3
      have zr4 := frozen_of hxr 4
      have zr5 := frozen_of hxr 5
      have zr6 := frozen_of hxr 6
      have zr7 := frozen_of hxr 7
      have zr8 := frozen_of hxr 8
      have zr9 := frozen_of hxr 9
      have zr10 := frozen_of hxr 10
      have zr11 := frozen_of hxr 11
      have zr12 := frozen_of hxr 12
      go_wp2_with fail
      rw [← set13 wa h8]
      have hz := block13 hxr (.int .i64 m1) (.int .i64 m2) (.int .i64 m3) (.int .i64 m4) (.int .i64 m5) (.int .i64 m6) (.int .i64 m7) (.int .u32 m8) (.int .u32 m9) (.int .u32 m10) (.int .u32 m11) (.int .u32 m12) (.bool m13)
      have HBZ := Lib.hid (HBA.out.trans ((mods13 wa h8 (.int .i64 m1) (.int .i64 m2) (.int .i64 m3) (.int .i64 m4) (.int .i64 m5) (.int .i64 m6) (.int .i64 m7) (.int .u32 m8) (.int .u32 m9) (.int .u32 m10) (.int .u32 m11) (.int .u32 m12) (.bool m13)).below HBA.out.size fun q (hq : q = h8) => by have := HLE.out; omega))
      clear hxr hlr r0 r1 r2 r3 r4 r5 r6 r7 r8 r9 r10 r11 r12 zr0 zr1 zr2 zr3 zr4 zr5 zr6 zr7 zr8 zr9 zr10 zr11 zr12
      generalize wa.setCells h8 0 [.int .i64 m1, .int .i64 m2, .int .i64 m3, .int .i64 m4, .int .i64 m5, .int .i64 m6, .int .i64 m7, .int .u32 m8, .int .u32 m9, .int .u32 m10, .int .u32 m11, .int .u32 m12, .bool m13] = wz at *
      have c0 := cell_of hz 0
      have c1 := cell_of hz 1
      have c2 := cell_of hz 2
      have c3 := cell_of hz 3
      have c4 := cell_of hz 4
      have c5 := cell_of hz 5
      have c6 := cell_of hz 6
      have c7 := cell_of hz 7
      have c8 := cell_of hz 8
      have c9 := cell_of hz 9
      have c10 := cell_of hz 10
      have c11 := cell_of hz 11
      have c12 := cell_of hz 12
      simp only [List.getElem?_toArray, List.getElem?_cons_zero, List.getElem?_cons_succ] at c0 c1 c2 c3 c4 c5 c6 c7 c8 c9 c10 c11 c12
      refine bodyPost_ret_by (v := .tuple #[.agg #[.int .i64 m1, .int .i64 m2, .int .i64 m3, .int .i64 m4, .int .i64 m5, .int .i64 m6, .int .i64 m7, .int .u32 m8, .int .u32 m9, .int .u32 m10, .int .u32 m11, .int .u32 m12, .bool m13], .bool true]) (by simp [results, Tryd.results23, go_sem, c0, c1, c2, c3, c4, c5, c6, c7, c8, c9, c10, c11, c12]) rfl ?_
      rw [HPG.out]
      exact ⟨rfl, HBZ.out⟩
    · have HPF := Lib.hid (show peekP n F p c k = (zeroM, false) from by rw [HPK.out]; exact if_neg (fun h => hk ⟨h.2.1, h.2.2⟩))
      by_cases hk0 : k < 0
      · have i1 : decide (k < 0) = true := by simpa using hk0
        have hxr := HXA.out
        have r0 := cell_of hxr 0
        have r1 := cell_of hxr 1
        have r2 := cell_of hxr 2
        have r3 := cell_of hxr 3
        have r4 := cell_of hxr 4
        have r5 := cell_of hxr 5
        have r6 := cell_of hxr 6
        have r7 := cell_of hxr 7
        have r8 := cell_of hxr 8
        have r9 := cell_of hxr 9
        have r10 := cell_of hxr 10
        have r11 := cell_of hxr 11
        have r12 := cell_of hxr 12
        simp only [List.getElem?_toArray, List.getElem?_cons_zero, List.getElem?_cons_succ] at r0 r1 r2 r3 r4 r5 r6 r7 r8 r9 r10 r11 r12
        have hlr := (Array.getElem?_eq_some_iff.1 hxr).1
        have zr0 := frozen_of hxr 0
        have zr1 := frozen_of hxr 1
        have zr2 := frozen_of hxr 2
        have zr3 := frozen_of hxr 3
        have zr4 := frozen_of hxr 4
        have zr5 := frozen_of hxr 5
        have zr6 := frozen_of hxr 6
        have zr7 := frozen_of hxr 7
        have zr8 := frozen_of hxr 8
        have zr9 := frozen_of hxr 9
        have zr10 := frozen_of hxr 10
        have zr11 := frozen_of hxr 11
        have zr12 := frozen_of hxr 12
        go_wp2_with fail
        rw [← set13 wa h8]
        have hz := block13 hxr (.int .i64 0) (.int .i64 0) (.int .i64 0) (.int .i64 0) (.int .i64 0) (.int .i64 0) (.int .i64 0) (.int .u32 0) (.int .u32 0) (.int .u32 0) (.int .u32 0) (.int .u32 0) (.bool false)
        have HBZ := Lib.hid (HBA.out.trans ((mods13 wa h8 (.int .i64 0) (.int .i64 0) (.int .i64 0) (.int .i64 0) (.int .i64 0) (.int .i64 0) (.int .i64 0) (.int .u32 0) (.int .u32 0) (.int .u32 0) (.int .u32 0) (.int .u32 0) (.bool false)).below HBA.out.size fun q (hq : q = h8) => by have := HLE.out; omega))
        clear hxr hlr r0 r1 r2 r3 r4 r5 r6 r7 r8 r9 r10 r11 r12 zr0 zr1 zr2 zr3 zr4 zr5 zr6 zr7 zr8 zr9 zr10 zr11 zr12
        generalize wa.setCells h8 0 [.int .i64 0, .int .i64 0, .int .i64 0, .int .i64 0, .int .i64 0, .int .i64 0, .int .i64 0, .int .u32 0, .int .u32 0, .int .u32 0, .int .u32 0, .int .u32 0, .bool false] = wz at *
        have c0 := cell_of hz 0
        have c1 := cell_of hz 1
        have c2 := cell_of hz 2
        have c3 := cell_of hz 3
        have c4 := cell_of hz 4
        have c5 := cell_of hz 5
        have c6 := cell_of hz 6
        have c7 := cell_of hz 7
        have c8 := cell_of hz 8
        have c9 := cell_of hz 9
        have c10 := cell_of hz 10
        have c11 := cell_of hz 11
        have c12 := cell_of hz 12
        simp only [List.getElem?_toArray, List.getElem?_cons_zero, List.getElem?_cons_succ] at c0 c1 c2 c3 c4 c5 c6 c7 c8 c9 c10 c11 c12
        refine bodyPost_ret_by (v := .tuple #[.agg #[.int .i64 0, .int .i64 0, .int .i64 0, .int .i64 0, .int .i64 0, .int .i64 0, .int .i64 0, .int .u32 0, .int .u32 0, .int .u32 0, .int .u32 0, .int .u32 0, .bool false], .bool false]) (by simp [results, Tryd.results23, go_sem, c0, c1, c2, c3, c4, c5, c6, c7, c8, c9, c10, c11, c12]) rfl ?_
        rw [HPF.out]
        exact ⟨rfl, HBZ.out⟩
      · have i1 : decide (k < 0) = false := by simpa using hk0
        obtain ⟨kn, rfl⟩ := Int.eq_ofNat_of_zero_le (show 0 ≤ k by omega)
        have i3 : decide ((L.length : Int) ≤ (kn : Int)) = true := by simp; omega
        have i4 : decide (L.length ≤ kn) = true := by simp; omega
        have hxr := HXA.out
        have r0 := cell_of hxr 0
        have r1 := cell_of hxr 1
        have r2 := cell_of hxr 2
        have r3 := cell_of hxr 3
        have r4 := cell_of hxr 4
        have r5 := cell_of hxr 5
        have r6 := cell_of hxr 6
        have r7 := cell_of hxr 7
        have r8 := cell_of hxr 8
        have r9 := cell_of hxr 9
        have r10 := cell_of hxr 10
        have r11 := cell_of hxr 11
        have r12 := cell_of hxr 12
        simp only [List.getElem?_toArray, List.getElem?_cons_zero, List.getElem?_cons_succ] at r0 r1 r2 r3 r4 r5 r6 r7 r8 r9 r10 r11 r12
        have hlr := (Array.getElem?_eq_some_iff.1 hxr).1
        have zr0 := frozen_of hxr 0
        have zr1 := frozen_of hxr 1
        have zr2 := frozen_of hxr 2
        have zr3 := frozen_of hxr 3
        have zr4 := frozen_of hxr 4
        have zr5 := frozen_of hxr 5
        have zr6 := frozen_of hxr 6
        have zr7 := frozen_of hxr 7
        have zr8 := frozen_of hxr 8
        have zr9 := frozen_of hxr 9
        have zr10 := frozen_of hxr 10
        have zr11 := frozen_of hxr 11
        have zr12 := frozen_of hxr 12
        go_wp2_with fail
        rw [← set13 wa h8]
        have hz := block13 hxr (.int .i64 0) (.int .i64 0) (.int .i64 0) (.int .i64 0) (.int .i64 0) (.int .i64 0) (.int .i64 0) (.int .u32 0) (.int .u32 0) (.int .u32 0) (.int .u32 0) (.int .u32 0) (.bool false)
        have HBZ := Lib.hid (HBA.out.trans ((mods13 wa h8 (.int .i64 0) (.int .i64 0) (.int .i64 0) (.int .i64 0) (.int .i64 0) (.int .i64 0) (.int .i64 0) (.int .u32 0) (.int .u32 0) (.int .u32 0) (.int .u32 0) (.int .u32 0) (.bool false)).below HBA.out.size fun q (hq : q = h8) => by have := HLE.out; omega))
        clear hxr hlr r0 r1 r2 r3 r4 r5 r6 r7 r8 r9 r10 r11 r12 zr0 zr1 zr2 zr3 zr4 zr5 zr6 zr7 zr8 zr9 zr10 zr11 zr12
        generalize wa.setCells h8 0 [.int .i64 0, .int .i64 0, .int .i64 0, .int .i64 0, .int .i64 0, .int .i64 0, .int .i64 0, .int .u32 0, .int .u32 0, .int .u32 0, .int .u32 0, .int .u32 0, .bool false] = wz at *
        have c0 := cell_of hz 0
        have c1 := cell_of hz 1
        have c2 := cell_of hz 2
        have c3 := cell_of hz 3
        have c4 := cell_of hz 4
        have c5 := cell_of hz 5
        have c6 := cell_of hz 6
        have c7 := cell_of hz 7
        have c8 := cell_of hz 8
        have c9 := cell_of hz 9
        have c10 := cell_of hz 10
        have c11 := cell_of hz 11
        have c12 := cell_of hz 12
        simp only [List.getElem?_toArray, List.getElem?_cons_zero, List.getElem?_cons_succ] at c0 c1 c2 c3 c4 c5 c6 c7 c8 c9 c10 c11 c12
        refine bodyPost_ret_by (v := .tuple #[.agg #[.int .i64 0, .int .i64 0, .int .i64 0, .int .i64 0, .int .i64 0, .int .i64 0, .int .i64 0, .int .u32 0, .int .u32 0, .int .u32 0, .int .u32 0, .int .u32 0, .bool false], .bool false]) (by simp [results, Tryd.results23, go_sem, c0, c1, c2, c3, c4, c5, c6, c7, c8, c9, c10, c11, c12]) rfl ?_
        rw [HPF.out]
        exact ⟨rfl, HBZ.out⟩

end Go.Proofs.YtbefkkefglkleaaDoor
