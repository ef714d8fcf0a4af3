/- TsoPlays: true; no condition but what a start gives. -/
import Derived.Test.YtamklohnmbgklaaDoorLTs1
import Derived.Test.YtamklohnmbgklaaDoorLTs7
import Derived.Test.YtamklohnmbgklaaDoorAskTs
import Derived.Deep.Cut
import Derived.Deep.CutRange
import Derived.Deep.CutBlock
namespace Go.Proofs.YtamklohnmbgklaaDoor
open Go.RowKit Go.Extern.Stop Go.Stop Go.Extern

theorem stC_10 (B : Bufs) (M : List Int) (e : Ev) : stC B M e ≤ 10 := by
  unfold stC
  split
  · omega
  · split
    · split <;> omega
    · split
      · split
        · omega
        · split <;> omega
      · split
        · split
          · split <;> omega
          · omega
        · split
          · split <;> omega
          · omega
theorem stE_is (B : Bufs) (M : List Int) (e : Ev) : (stepE B M e).wf ∧ isK (stepE B M e) ((stC B M e : Nat) : Int) tsT e.core = true ∧ onlyK (stepE B M e) ((stC B M e : Nat) : Int) = true := by
  by_cases hc : stC B M e = 0
  · rw [(st_ok hc).1, hc]
    exact ⟨trivial, by simp [isK, ErrT.isNil], by simp [onlyK, ErrT.code]⟩
  · obtain ⟨c, hcc⟩ : ∃ c, stC B M e = c + 1 := ⟨stC B M e - 1, by omega⟩
    have := stC_10 B M e
    rw [(st_no hcc).1, hcc]
    refine ⟨⟨rfl, show c < 10 by omega⟩, ?_, by simp [onlyK, ErrT.code]⟩
    unfold isK
    rw [if_neg (by omega)]
    simp [ErrT.code]
section
variable {w0 wr w' : World} {lo1 lo2 b1 b2 : Nat} {F1 F2 : Nat → Prop} {B : Bufs} {M : List Int} {nc nw i : Nat}
/-- The program's has gone on, then the document's. -/
theorem Both.both {e : Ev} {w2 w3 : World} {F1' F2' : Nat → Prop} (h : Both w0 wr lo1 lo2 b1 b2 F1 F2 B M nc nw i) (hp : Md tyP w2 lo1 b1 F1' (nxB B M e) (nxM B M e)) (hM : Mods F1 wr w2) (hF : ∀ k, F1' k → F1 k ∨ wr.heap.size ≤ k)
    (hr : Md tyR w3 lo2 b2 F2' (nxB B M e) (nxM B M e)) (hM2 : Mods F2 w2 w3) (hF2 : ∀ k, F2' k → F2 k ∨ w2.heap.size ≤ k) : Both w0 w3 lo1 lo2 b1 b2 F1' F2' (nxB B M e) (nxM B M e) nc nw (i + 1) := by
  have hd : ∀ k, F1' k → ¬ F2 k := fun k hk hk2 => (hF k hk).elim (fun h3 => h.dis k h3 hk2) fun h3 => by have := (h.r.lt k hk2).2; omega
  have h1 := h.bel.trans (hM.below h.bel.size fun k hk => Nat.le_trans h.lo1 (h.p.lt k hk).1)
  refine ⟨hp.keep hM2 fun k hk => hd k hk, hr, fun k hk hk2 => (hF2 k hk2).elim (hd k hk) fun h3 => by have := (hp.lt k hk).2; omega, by rw [nxB_length]; exact h.lenB, by rw [nxM_length]; exact h.lenM, nxB_le h.len, ?_, h.lo1, h.lo2⟩
  exact h1.trans (hM2.below h1.size fun k hk => Nat.le_trans h.lo2 (h.r.lt k hk).1)
theorem Both.mid1 {F1' : Nat → Prop} {w2 : World} {B' : Bufs} {M' : List Int} (h : Both w0 wr lo1 lo2 b1 b2 F1 F2 B M nc nw i) (_hp : Md tyP w2 lo1 b1 F1' B' M') (hM : Mods F1 wr w2) : Md tyR w2 lo2 b2 F2 B M ∧ Below w0.heap.size w0 w2 :=
  ⟨h.r.keep hM fun k hk hk1 => h.dis k hk1 hk, h.bel.trans (hM.below h.bel.size fun k hk => Nat.le_trans h.lo1 (h.p.lt k hk).1)⟩
/-- Something else has changed. -/
theorem Both.aside {G : Nat → Prop} {w2 : World} (h : Both w0 wr lo1 lo2 b1 b2 F1 F2 B M nc nw i) (hM : Mods G wr w2) (h1 : ∀ k, G k → (¬ F1 k) ∧ (¬ F2 k) ∧ w0.heap.size ≤ k) : Both w0 w2 lo1 lo2 b1 b2 F1 F2 B M nc nw i :=
  ⟨h.p.keep hM fun k hk hg => (h1 k hg).1 hk, h.r.keep hM fun k hk hg => (h1 k hg).2.1 hk, h.dis, h.lenB, h.lenM, h.len, h.bel.trans (hM.below h.bel.size fun k hk => (h1 k hk).2.2), h.lo1, h.lo2⟩
theorem Both.up (h : Both w0 wr lo1 lo2 b1 b2 F1 F2 B M nc nw i) : Both w0 wr lo1 lo2 b1 b2 F1 F2 B M nc nw (i + 1) :=
  ⟨h.p, h.r, h.dis, h.lenB, h.lenM, fun k => Nat.le_succ_of_le (h.len k), h.bel, h.lo1, h.lo2⟩
end
theorem set6 (w : World) (t : Nat) (a0 a1 a2 a3 a4 a5 : Value) : w.setCells t 0 [a0, a1, a2, a3, a4, a5] = (((((w.setCell ⟨t, 0, none⟩ a0).setCell ⟨t, 1, none⟩ a1).setCell ⟨t, 2, none⟩ a2).setCell ⟨t, 3, none⟩ a3).setCell ⟨t, 4, none⟩ a4).setCell ⟨t, 5, none⟩ a5 := rfl
theorem put6 (a0 a1 a2 a3 a4 a5 b0 b1 b2 b3 b4 b5 : Value) : putAt #[a0, a1, a2, a3, a4, a5] 0 [b0, b1, b2, b3, b4, b5] = #[b0, b1, b2, b3, b4, b5] := by simp [putAt]
theorem block6 {w : World} {t : Nat} {ty : TypeId} {a0 a1 a2 a3 a4 a5 : Value} (h : w.heap[t]? = some (.cells #[a0, a1, a2, a3, a4, a5] ty (0, 0))) (b0 b1 b2 b3 b4 b5 : Value) : (w.setCells t 0 [b0, b1, b2, b3, b4, b5]).heap[t]? = some (.cells #[b0, b1, b2, b3, b4, b5] ty (0, 0)) := by
  have := heap_setCells_at [b0, b1, b2, b3, b4, b5] 0 w _ h
  rw [put6] at this
  exact this
theorem mods6 (w : World) (t : Nat) (a0 a1 a2 a3 a4 a5 : Value) : Mods (fun q => q = t) w (w.setCells t 0 [a0, a1, a2, a3, a4, a5]) := by
  rw [set6]
  exact ((((((Mods.refl (fun q => q = t) w).setCell (p := ⟨t, 0, none⟩) (show t = t from rfl) _).setCell (p := ⟨t, 1, none⟩) (show t = t from rfl) _).setCell (p := ⟨t, 2, none⟩) (show t = t from rfl) _).setCell (p := ⟨t, 3, none⟩) (show t = t from rfl) _).setCell (p := ⟨t, 4, none⟩) (show t = t from rfl) _).setCell (p := ⟨t, 5, none⟩) (show t = t from rfl) _

set_option maxRecDepth 100000 in
set_option maxHeartbeats 16000000 in
theorem plays_bad (A : Nat → Addr) (z0 z1 : Int) (n : Nat) (ap : Option Addr) (cp : Nat) (w : World) (hs : SentAt w A) (hn : n ≤ 2 ^ 63 - 1) (hok : ¬ okN z0 z1) :
    Calls Tryd.prog 11 #[.int .i64 z0, .int .i64 z1, .slice ap n cp] w (TruePost w) := by
  have HS := Lib.hid hs
  clear hs
  by_cases hc1 : 1 ≤ z0
  · have g1 : decide (z0 ≥ 1) = true := by simpa using hc1
    have g3 : decide (1 ≤ z0) = true := by simpa using hc1
    by_cases hc2 : z0 ≤ 64
    · have g2 : decide (z0 ≤ 64) = true := by simpa using hc2
      have HE := Lib.hid (show tnewE z0 z1 = .wrap tnT (1 : Int) (.sent 0) by unfold tnewE; rw [if_neg hok, if_pos ⟨hc1, hc2⟩])
      have HOK := Lib.hid hok
      clear hok
      go_enter Tryd.func11, Tryd.ntmps11
      go_wp2_with fail
      refine (tnew_bad A z0 z1 w HS.out HOK.out).mono ?_
      rintro ev w' ⟨rfl, hww⟩
      obtain rfl := hww
      rw [HE.out, show (ErrT.wrap tnT (1 : Int) (.sent 0)).val A = .iface 78 (.agg #[.string tnT, .int .i64 (1 : Int), .iface 129 (.pointer (some (A 0)))]) from rfl]
      go_wp2_with fail
      refine (mnew_bad z0 z1 w HOK.out).mono ?_
      rintro ev w' ⟨rfl, hww⟩
      obtain rfl := hww
      go_wp2_with fail
      change Calls Tryd.prog _ #[(ErrT.wrap tnT (1 : Int) (.sent 0)).val A, .int .i64 (1 : Int), .string tnT, .int .i64 (1 : Int)] _ _
      refine (is_c A (.wrap tnT (1 : Int) (.sent 0)) 1 tnT (1 : Int) w HS.out ⟨rfl, show (0 : Nat) < 10 by omega⟩ (by omega) (by omega)).mono ?_
      rintro ev w3 ⟨rfl, hb3⟩
      rw [show isK (.wrap tnT (1 : Int) (.sent 0)) 1 tnT (1 : Int) = true by unfold isK; rw [if_neg (by omega)]; simp [ErrT.code]]
      have HB3 := Lib.hid hb3
      clear hb3
      go_wp2_with fail
      go_loopw [12] (fun s12 wr => s12 = .int .i64 (0 : Int) ∧ w3 = wr) (fun _ _ => 0)
      case atStart => exact ⟨rfl, rfl⟩
      case round =>
        obtain ⟨rfl, rfl⟩ := hrel
        by_cases h0 : 0 < n
        · have g5 : decide ((0 : Int) < n) = true := by simp; omega
          have g6 : decide (0 < n) = true := by simp; omega
          go_wp2_with fail
          refine (tsoRuns A _ (HS.out.below HB3.out)).mono ?_
          rintro ev w4 ⟨rfl, hb4⟩
          go_wp2_with fail
          go_ret
          exact ⟨rfl, HB3.out.trans (hb4.mono HB3.out.size)⟩
        · have g5 : decide ((0 : Int) < n) = false := by simp; omega
          have g6 : decide (0 < n) = false := by simp; omega
          go_wp2_with fail
          refine (tsoRuns A _ (HS.out.below HB3.out)).mono ?_
          rintro ev w4 ⟨rfl, hb4⟩
          go_wp2_with fail
          go_ret
          exact ⟨rfl, HB3.out.trans (hb4.mono HB3.out.size)⟩
    · have g2 : decide (z0 ≤ 64) = false := by simpa using hc2
      have HE := Lib.hid (show tnewE z0 z1 = .wrap tnT (0 : Int) (.sent 0) by unfold tnewE; rw [if_neg hok, if_neg (fun h => hc2 h.2)])
      have HOK := Lib.hid hok
      clear hok
      go_enter Tryd.func11, Tryd.ntmps11
      go_wp2_with fail
      refine (tnew_bad A z0 z1 w HS.out HOK.out).mono ?_
      rintro ev w' ⟨rfl, hww⟩
      obtain rfl := hww
      rw [HE.out, show (ErrT.wrap tnT (0 : Int) (.sent 0)).val A = .iface 78 (.agg #[.string tnT, .int .i64 (0 : Int), .iface 129 (.pointer (some (A 0)))]) from rfl]
      go_wp2_with fail
      refine (mnew_bad z0 z1 w HOK.out).mono ?_
      rintro ev w' ⟨rfl, hww⟩
      obtain rfl := hww
      go_wp2_with fail
      change Calls Tryd.prog _ #[(ErrT.wrap tnT (0 : Int) (.sent 0)).val A, .int .i64 (1 : Int), .string tnT, .int .i64 (0 : Int)] _ _
      refine (is_c A (.wrap tnT (0 : Int) (.sent 0)) 1 tnT (0 : Int) w HS.out ⟨rfl, show (0 : Nat) < 10 by omega⟩ (by omega) (by omega)).mono ?_
      rintro ev w3 ⟨rfl, hb3⟩
      rw [show isK (.wrap tnT (0 : Int) (.sent 0)) 1 tnT (0 : Int) = true by unfold isK; rw [if_neg (by omega)]; simp [ErrT.code]]
      have HB3 := Lib.hid hb3
      clear hb3
      go_wp2_with fail
      go_loopw [12] (fun s12 wr => s12 = .int .i64 (0 : Int) ∧ w3 = wr) (fun _ _ => 0)
      case atStart => exact ⟨rfl, rfl⟩
      case round =>
        obtain ⟨rfl, rfl⟩ := hrel
        by_cases h0 : 0 < n
        · have g5 : decide ((0 : Int) < n) = true := by simp; omega
          have g6 : decide (0 < n) = true := by simp; omega
          go_wp2_with fail
          refine (tsoRuns A _ (HS.out.below HB3.out)).mono ?_
          rintro ev w4 ⟨rfl, hb4⟩
          go_wp2_with fail
          go_ret
          exact ⟨rfl, HB3.out.trans (hb4.mono HB3.out.size)⟩
        · have g5 : decide ((0 : Int) < n) = false := by simp; omega
          have g6 : decide (0 < n) = false := by simp; omega
          go_wp2_with fail
          refine (tsoRuns A _ (HS.out.below HB3.out)).mono ?_
          rintro ev w4 ⟨rfl, hb4⟩
          go_wp2_with fail
          go_ret
          exact ⟨rfl, HB3.out.trans (hb4.mono HB3.out.size)⟩
  · have g1 : decide (z0 ≥ 1) = false := by simpa using hc1
    have g3 : decide (1 ≤ z0) = false := by simpa using hc1
    have HE := Lib.hid (show tnewE z0 z1 = .wrap tnT (0 : Int) (.sent 0) by unfold tnewE; rw [if_neg hok, if_neg (fun h => hc1 h.1)])
    have HOK := Lib.hid hok
    clear hok
    go_enter Tryd.func11, Tryd.ntmps11
    go_wp2_with fail
    refine (tnew_bad A z0 z1 w HS.out HOK.out).mono ?_
    rintro ev w' ⟨rfl, hww⟩
    obtain rfl := hww
    rw [HE.out, show (ErrT.wrap tnT (0 : Int) (.sent 0)).val A = .iface 78 (.agg #[.string tnT, .int .i64 (0 : Int), .iface 129 (.pointer (some (A 0)))]) from rfl]
    go_wp2_with fail
    refine (mnew_bad z0 z1 w HOK.out).mono ?_
    rintro ev w' ⟨rfl, hww⟩
    obtain rfl := hww
    go_wp2_with fail
    change Calls Tryd.prog _ #[(ErrT.wrap tnT (0 : Int) (.sent 0)).val A, .int .i64 (1 : Int), .string tnT, .int .i64 (0 : Int)] _ _
    refine (is_c A (.wrap tnT (0 : Int) (.sent 0)) 1 tnT (0 : Int) w HS.out ⟨rfl, show (0 : Nat) < 10 by omega⟩ (by omega) (by omega)).mono ?_
    rintro ev w3 ⟨rfl, hb3⟩
    rw [show isK (.wrap tnT (0 : Int) (.sent 0)) 1 tnT (0 : Int) = true by unfold isK; rw [if_neg (by omega)]; simp [ErrT.code]]
    have HB3 := Lib.hid hb3
    clear hb3
    go_wp2_with fail
    go_loopw [12] (fun s12 wr => s12 = .int .i64 (0 : Int) ∧ w3 = wr) (fun _ _ => 0)
    case atStart => exact ⟨rfl, rfl⟩
    case round =>
      obtain ⟨rfl, rfl⟩ := hrel
      by_cases h0 : 0 < n
      · have g5 : decide ((0 : Int) < n) = true := by simp; omega
        have g6 : decide (0 < n) = true := by simp; omega
        go_wp2_with fail
        refine (tsoRuns A _ (HS.out.below HB3.out)).mono ?_
        rintro ev w4 ⟨rfl, hb4⟩
        go_wp2_with fail
        go_ret
        exact ⟨rfl, HB3.out.trans (hb4.mono HB3.out.size)⟩
      · have g5 : decide ((0 : Int) < n) = false := by simp; omega
        have g6 : decide (0 < n) = false := by simp; omega
        go_wp2_with fail
        refine (tsoRuns A _ (HS.out.below HB3.out)).mono ?_
        rintro ev w4 ⟨rfl, hb4⟩
        go_wp2_with fail
        go_ret
        exact ⟨rfl, HB3.out.trans (hb4.mono HB3.out.size)⟩

set_option maxRecDepth 100000 in
set_option maxHeartbeats 16000000 in
theorem tsoPlays (A : Nat → Addr) (z0 z1 : Int) (v : Value) (n : Nat) (f : Nat → Ask10) (w : World) (hs : SentAt w A) (_h0 : -9223372036854775808 ≤ z0 ∧ z0 ≤ 9223372036854775807) (_h1 : -9223372036854775808 ≤ z1 ∧ z1 ≤ 9223372036854775807) (h2 : Asks10 w v n f) :
    Calls Tryd.prog 11 #[.int .i64 z0, .int .i64 z1, v] w (TruePost w) := by
  obtain ⟨hn, ap, cp, rfl, hel⟩ := h2
  have HEL := Lib.hid hel
  have HS := Lib.hid hs
  unfold maxLen at hn
  clear hel hs _h0 _h1
  by_cases hok : okN z0 z1
  · obtain ⟨⟨k1, k2⟩, k3, k4⟩ := hok
    obtain ⟨n0, rfl⟩ := Int.eq_ofNat_of_zero_le (show 0 ≤ z0 by omega)
    obtain ⟨m0, rfl⟩ := Int.eq_ofNat_of_zero_le (show 0 ≤ z1 by omega)
    have HNM := Lib.hid (show (1 ≤ n0 ∧ n0 ≤ 64) ∧ 1 ≤ m0 ∧ m0 ≤ 128 by omega)
    have g1 : decide ((n0 : Int) ≥ 1) = true := by simp; omega
    have g2 : decide ((n0 : Int) ≤ 64) = true := by simp; omega
    have g3 : decide (1 ≤ n0) = true := by simp; omega
    clear k1 k2 k3 k4
    go_enter Tryd.func11, Tryd.ntmps11
    go_wp2_with fail
    refine (tnew_ok n0 m0 w (by have := HNM.out; omega) (by have := HNM.out; omega) (by have := HNM.out; omega) (by have := HNM.out; omega)).mono ?_
    rintro ev w1 ⟨b1, rfl, ⟨F1, hF1⟩, hb1⟩
    have HF1 := Lib.hid hF1
    have HB1 := Lib.hid hb1
    clear hF1 hb1
    go_wp2_with fail
    refine (mnew_ok n0 m0 w1 (by have := HNM.out; omega) (by have := HNM.out; omega) (by have := HNM.out; omega) (by have := HNM.out; omega)).mono ?_
    rintro ev w2 ⟨b2, rfl, ⟨F2, hF2⟩, hb2⟩
    have HBO := Lib.hid (show Both w w2 w.heap.size w1.heap.size b1 b2 F1 F2 (List.replicate n0 []) (List.replicate m0 0) n0 m0 0 from ⟨HF1.out.below hb2, hF2, fun k hk hk2 => by have := (HF1.out.lt k hk).2; have := (hF2.lt k hk2).1; omega, by simp, by simp, fun k => by rw [rep_get0]; exact Nat.le_refl _, HB1.out.trans (hb2.mono HB1.out.size), Nat.le_refl _, HB1.out.size⟩)
    obtain ⟨lo2, hlo2⟩ : ∃ lo2, lo2 = w1.heap.size := ⟨_, rfl⟩
    rw [← hlo2] at HBO
    clear hF2 hb2 HF1 HB1 hlo2
    go_wp2_with fail
    change Calls Tryd.prog _ #[ErrT.nil.val A, .int .i64 (0 : Int), .string tnT, .int .i64 (1 : Int)] _ _
    refine (is_c A .nil 0 tnT 1 w2 (HS.out.below HBO.out.bel) trivial (by omega) (by omega)).mono ?_
    rintro ev w3 ⟨rfl, hb3⟩
    rw [show isK .nil 0 tnT 1 = true by simp [isK, ErrT.isNil]]
    have HBO := Lib.hid (HBO.out.below hb3)
    clear hb3 g1 g2 g3
    go_wp2_with fail
    go_loopw [12] (fun s12 wr => ∃ (i : Nat) (F1 F2 : Nat → Prop) (B : Bufs) (M : List Int), i ≤ n ∧ i ≤ 60 ∧ s12 = .int .i64 i ∧ Both w wr w.heap.size lo2 b1 b2 F1 F2 B M n0 m0 i) (fun s12 _ => 60 - (intOf s12).toNat)
    case atStart => exact ⟨0, F1, F2, _, _, by omega, by omega, rfl, HBO.out⟩
    case round =>
      clear HBO
      obtain ⟨i, F1, F2, B, M, hin, hi60, rfl, hO⟩ := hrel
      have HO := Lib.hid hO
      clear hO
      by_cases hi : i < n ∧ i < 60
      · obtain ⟨hi1, hi2⟩ := hi
        have g1 : decide (i < n) = true := by simp; omega
        have g2 : decide ((i : Int) < 60) = true := by simp; omega
        obtain ⟨g, off, rfl, hg, hc⟩ := HEL.out i hi1
        have e0 := (HO.out.bel.cell (p := ⟨g, off + (i * 10 + 0), none⟩) hg).trans (hc _ _ (rfl : (f i).cs[0]? = _))
        have e1 := (HO.out.bel.cell (p := ⟨g, off + (i * 10 + 1), none⟩) hg).trans (hc _ _ (rfl : (f i).cs[1]? = _))
        have e2 := (HO.out.bel.cell (p := ⟨g, off + (i * 10 + 2), none⟩) hg).trans (hc _ _ (rfl : (f i).cs[2]? = _))
        have e3 := (HO.out.bel.cell (p := ⟨g, off + (i * 10 + 3), none⟩) hg).trans (hc _ _ (rfl : (f i).cs[3]? = _))
        have e4 := (HO.out.bel.cell (p := ⟨g, off + (i * 10 + 4), none⟩) hg).trans (hc _ _ (rfl : (f i).cs[4]? = _))
        have e5 := (HO.out.bel.cell (p := ⟨g, off + (i * 10 + 5), none⟩) hg).trans (hc _ _ (rfl : (f i).cs[5]? = _))
        have e6 := (HO.out.bel.cell (p := ⟨g, off + (i * 10 + 6), none⟩) hg).trans (hc _ _ (rfl : (f i).cs[6]? = _))
        have e7 := (HO.out.bel.cell (p := ⟨g, off + (i * 10 + 7), none⟩) hg).trans (hc _ _ (rfl : (f i).cs[7]? = _))
        have e8 := (HO.out.bel.cell (p := ⟨g, off + (i * 10 + 8), none⟩) hg).trans (hc _ _ (rfl : (f i).cs[8]? = _))
        have e9 := (HO.out.bel.cell (p := ⟨g, off + (i * 10 + 9), none⟩) hg).trans (hc _ _ (rfl : (f i).cs[9]? = _))
        simp only [Nat.add_zero, ← Nat.add_assoc] at e0 e1 e2 e3 e4 e5 e6 e7 e8 e9
        clear hc hg
        generalize f i = q at *
        obtain ⟨kd, qc, qa, ⟨ka, ca, aa, xa, na, da⟩, ow⟩ := q
        simp only at e0 e1 e2 e3 e4 e5 e6 e7 e8 e9
        obtain ⟨hQ, hhQ⟩ : ∃ hQ, hQ = wr.heap.size := ⟨_, rfl⟩
        have hQQ := heap_alloc_new wr (.cells #[.int .i64 kd, .int .i64 qc, .int .i64 qa, .int .i64 ka, .int .i64 ca, .int .i64 aa, .int .u32 xa, .int .u32 na, .bool da, .bool ow] 68)
        have HO1 := Lib.hid (HO.out.below ((Below.refl _ _).alloc (Nat.le_refl _) (.cells #[.int .i64 kd, .int .i64 qc, .int .i64 qa, .int .i64 ka, .int .i64 ca, .int .i64 aa, .int .u32 xa, .int .u32 na, .bool da, .bool ow] 68)))
        have HQN := Lib.hid (show ∀ k, F1 k ∨ F2 k → k < hQ from fun k hk => by rw [hhQ]; exact hk.elim (fun h => (HO.out.p.lt k h).2) fun h => (HO.out.r.lt k h).2)
        have HQL := Lib.hid (show w.heap.size ≤ hQ by rw [hhQ]; exact HO.out.bel.size)
        rw [← hhQ] at hQQ
        have HQQ := Lib.hid hQQ
        clear hQQ
        go_upto_region 12 with fail
        rw [← hhQ]
        generalize wr.alloc (.cells #[.int .i64 kd, .int .i64 qc, .int .i64 qa, .int .i64 ka, .int .i64 ca, .int .i64 aa, .int .u32 xa, .int .u32 na, .bool da, .bool ow] 68) = W1 at *
        clear hhQ HO e0 e1 e2 e3 e4 e5 e6 e7 e8 e9
        have HO := HO1
        clear HO1
        have d0 := cell_of HQQ.out 0
        have d1 := cell_of HQQ.out 1
        have d2 := cell_of HQQ.out 2
        have d3 := cell_of HQQ.out 3
        have d4 := cell_of HQQ.out 4
        have d5 := cell_of HQQ.out 5
        have d6 := cell_of HQQ.out 6
        have d7 := cell_of HQQ.out 7
        have d8 := cell_of HQQ.out 8
        have d9 := cell_of HQQ.out 9
        simp only [List.getElem?_toArray, List.getElem?_cons_zero, List.getElem?_cons_succ] at d0 d1 d2 d3 d4 d5 d6 d7 d8 d9
        have hQl := (Array.getElem?_eq_some_iff.1 HQQ.out).1
        go_upto_block 2 with fail
        clear d0 d1 d2 d3 d4 d5 d6 d7 d8 d9 hQl
        go_cut [13, 14, 15, 16, 17] from 66 to 222 (fun s13 _ _ _ _ wx => ∃ (F1 F2 : Nat → Prop) (B : Bufs) (M : List Int), s13 = .pointer (some ⟨hQ, 0, none⟩) ∧ Both w wx w.heap.size lo2 b1 b2 F1 F2 B M n0 m0 (i + 1) ∧ wx.heap[hQ]? = some (.cells #[.int .i64 kd, .int .i64 qc, .int .i64 qa, .int .i64 ka, .int .i64 ca, .int .i64 aa, .int .u32 xa, .int .u32 na, .bool da, .bool ow] 68 (0, 0)))
        case first =>
          by_cases hk1 : kd = 1
          · subst hk1
            have d0 := cell_of HQQ.out 0
            have d1 := cell_of HQQ.out 1
            have d2 := cell_of HQQ.out 2
            have d3 := cell_of HQQ.out 3
            have d4 := cell_of HQQ.out 4
            have d5 := cell_of HQQ.out 5
            have d6 := cell_of HQQ.out 6
            have d7 := cell_of HQQ.out 7
            have d8 := cell_of HQQ.out 8
            have d9 := cell_of HQQ.out 9
            simp only [List.getElem?_toArray, List.getElem?_cons_zero, List.getElem?_cons_succ] at d0 d1 d2 d3 d4 d5 d6 d7 d8 d9
            have hQl := (Array.getElem?_eq_some_iff.1 HQQ.out).1
            obtain ⟨hX, hhX⟩ : ∃ hX, hX = W1.heap.size := ⟨_, rfl⟩
            have hXX := heap_alloc_new W1 (.cells #[.int .i64 ka, .int .i64 ca, .int .i64 aa, .int .u32 xa, .int .u32 na, .bool da] 24)
            have hba : Below W1.heap.size W1 (W1.alloc (.cells #[.int .i64 ka, .int .i64 ca, .int .i64 aa, .int .u32 xa, .int .u32 na, .bool da] 24)) := (Below.refl _ _).alloc (Nat.le_refl _) _
            have HO1 := Lib.hid (HO.out.below hba)
            have HQ1 := Lib.hid ((hba.block hQ hQl).trans HQQ.out)
            have HXN := Lib.hid (show ∀ k, F1 k ∨ F2 k → k < hX from fun k hk => by have := HQN.out k hk; omega)
            have HQX := Lib.hid (show hQ < hX by omega)
            rw [← hhX] at hXX
            have HXX := Lib.hid hXX
            clear hXX hba
            go_upto_region 15 with fail
            rw [← hhX]
            generalize W1.alloc (.cells #[.int .i64 ka, .int .i64 ca, .int .i64 aa, .int .u32 xa, .int .u32 na, .bool da] 24) = W2 at *
            clear hhX hQl HO HQQ d0 d1 d2 d3 d4 d5 d6 d7 d8 d9
            have HO := HO1
            have HQQ := HQ1
            clear HO1 HQ1
            have q0 := cell_of HXX.out 0
            have q1 := cell_of HXX.out 1
            have q2 := cell_of HXX.out 2
            have q3 := cell_of HXX.out 3
            have q4 := cell_of HXX.out 4
            have q5 := cell_of HXX.out 5
            simp only [List.getElem?_toArray, List.getElem?_cons_zero, List.getElem?_cons_succ] at q0 q1 q2 q3 q4 q5
            have d0 := cell_of HQQ.out 0
            have d1 := cell_of HQQ.out 1
            have d2 := cell_of HQQ.out 2
            have d3 := cell_of HQQ.out 3
            have d4 := cell_of HQQ.out 4
            have d5 := cell_of HQQ.out 5
            have d6 := cell_of HQQ.out 6
            have d7 := cell_of HQQ.out 7
            have d8 := cell_of HQQ.out 8
            have d9 := cell_of HQQ.out 9
            simp only [List.getElem?_toArray, List.getElem?_cons_zero, List.getElem?_cons_succ] at d0 d1 d2 d3 d4 d5 d6 d7 d8 d9
            have hQl := (Array.getElem?_eq_some_iff.1 HQQ.out).1
            cases ow with
            | true =>
              go_wp2_with fail
              refine (fit_c lo2 b2 F2 B M ⟨ka, ca, aa, xa, na, da⟩ W2 HO.out.r).mono ?_
              rintro ev w3 ⟨rfl, hb3⟩
              have hX3 := (hb3.block hX (Array.getElem?_eq_some_iff.1 HXX.out).1).trans HXX.out
              have HX3 := Lib.hid hX3
              have HO3 := Lib.hid (HO.out.below hb3)
              have HQ3 := Lib.hid ((hb3.block hQ (Array.getElem?_eq_some_iff.1 HQQ.out).1).trans HQQ.out)
              generalize fitE B M ⟨ka, ca, aa, xa, na, da⟩ = x at *
              obtain ⟨kx, cx, ax, vx, nx, dx⟩ := x
              simp only [Ev.v]
              clear q0 q1 q2 q3 q4 q5
              have q0 := cell_of hX3 0
              have z0 := frozen_of hX3 0
              have q1 := cell_of hX3 1
              have z1 := frozen_of hX3 1
              have q2 := cell_of hX3 2
              have z2 := frozen_of hX3 2
              have q3 := cell_of hX3 3
              have z3 := frozen_of hX3 3
              have q4 := cell_of hX3 4
              have z4 := frozen_of hX3 4
              have q5 := cell_of hX3 5
              have z5 := frozen_of hX3 5
              simp only [List.getElem?_toArray, List.getElem?_cons_zero, List.getElem?_cons_succ] at q0 q1 q2 q3 q4 q5
              have hEl := (Array.getElem?_eq_some_iff.1 hX3).1
              clear hb3 hX3 HO HQQ HXX
              go_wp2_with fail
              rw [← set6 w3 hX]
              have hX2 : (w3.setCells hX 0 [.int .i64 kx, .int .i64 cx, .int .i64 ax, .int .u32 vx, .int .u32 nx, .bool dx]).heap[hX]? = some (.cells #[.int .i64 kx, .int .i64 cx, .int .i64 ax, .int .u32 vx, .int .u32 nx, .bool dx] 24 (0, 0)) := block6 HX3.out _ _ _ _ _ _
              have hM2 := mods6 w3 hX (.int .i64 kx) (.int .i64 cx) (.int .i64 ax) (.int .u32 vx) (.int .u32 nx) (.bool dx)
              have HO := Lib.hid (HO3.out.aside hM2 fun k hk => ⟨fun h => by have := HXN.out k (.inl h); omega, fun h => by have := HXN.out k (.inr h); omega, by have := HQL.out; have := HQX.out; omega⟩)
              have HQQ := Lib.hid ((hM2.block hQ (Array.getElem?_eq_some_iff.1 HQ3.out).1 (fun e => by have := HQX.out; omega)).trans HQ3.out)
              have HXX := Lib.hid hX2
              generalize w3.setCells hX 0 [.int .i64 kx, .int .i64 cx, .int .i64 ax, .int .u32 vx, .int .u32 nx, .bool dx] = W4 at *
              clear hX2 hM2 q0 q1 q2 q3 q4 q5 z0 z1 z2 z3 z4 z5 hEl HX3 HO3 HQ3
              have q0 := cell_of HXX.out 0
              have q1 := cell_of HXX.out 1
              have q2 := cell_of HXX.out 2
              have q3 := cell_of HXX.out 3
              have q4 := cell_of HXX.out 4
              have q5 := cell_of HXX.out 5
              simp only [List.getElem?_toArray, List.getElem?_cons_zero, List.getElem?_cons_succ] at q0 q1 q2 q3 q4 q5
              refine (tstep_c A w.heap.size b1 F1 B M ⟨kx, cx, ax, vx, nx, dx⟩ W4 (HS.out.below HO.out.bel) HO.out.p (by rw [HO.out.lenM]; have := HNM.out; omega) (fun k => by have := HO.out.len k; omega)).mono ?_
              rintro ev w3 ⟨rfl, F1', hp, hM1, hF1⟩
              obtain ⟨hr0, hb3⟩ := HO.out.mid1 hp hM1
              have hX3 := (hM1.block hX (Array.getElem?_eq_some_iff.1 HXX.out).1 (fun hk => by have := HXN.out _ (.inl hk); omega)).trans HXX.out
              have hQ3 := (hM1.block hQ (Array.getElem?_eq_some_iff.1 HQQ.out).1 (fun hk => by have := HQN.out _ (.inl hk); omega)).trans HQQ.out
              have HP := Lib.hid hp
              have HM1 := Lib.hid hM1
              have HF1 := Lib.hid hF1
              have HR0 := Lib.hid hr0
              have HB3 := Lib.hid hb3
              have HX3 := Lib.hid hX3
              have HQ3 := Lib.hid hQ3
              clear q0 q1 q2 q3 q4 q5 hp hM1 hF1 hr0 hb3 hQ3
              have q0 := cell_of hX3 0
              have q1 := cell_of hX3 1
              have q2 := cell_of hX3 2
              have q3 := cell_of hX3 3
              have q4 := cell_of hX3 4
              have q5 := cell_of hX3 5
              simp only [List.getElem?_toArray, List.getElem?_cons_zero, List.getElem?_cons_succ] at q0 q1 q2 q3 q4 q5
              clear hX3
              go_wp2_with fail
              refine (rstep_c lo2 b2 F2 B M ⟨kx, cx, ax, vx, nx, dx⟩ w3 HR0.out (fun k => by have := HO.out.len k; omega)).mono ?_
              rintro ev w4 ⟨rfl, F2', hr, hM2, hF2⟩
              have HEND := Lib.hid (HO.out.both HP.out HM1.out HF1.out hr hM2 hF2)
              have hX4 := (hM2.block hX (Array.getElem?_eq_some_iff.1 HX3.out).1 (fun hk => by have := HXN.out _ (.inr hk); omega)).trans HX3.out
              have HQ4 := Lib.hid ((hM2.block hQ (Array.getElem?_eq_some_iff.1 HQ3.out).1 (fun hk => by have := HQN.out _ (.inr hk); omega)).trans HQ3.out)
              have HIS := Lib.hid (stE_is B M ⟨kx, cx, ax, vx, nx, dx⟩)
              have HC10 := Lib.hid (stC_10 B M ⟨kx, cx, ax, vx, nx, dx⟩)
              have q1 := cell_of hX4 1
              simp only [List.getElem?_toArray, List.getElem?_cons_zero, List.getElem?_cons_succ] at q1
              have hX4l := (Array.getElem?_eq_some_iff.1 hX4).1
              generalize hSE : stepE B M ⟨kx, cx, ax, vx, nx, dx⟩ = SE at *
              generalize hSC : stC B M ⟨kx, cx, ax, vx, nx, dx⟩ = SC at *
              clear hSE hSC hX4 hr hM2 hF2 HX3 HQ3 HP HM1 HF1 HR0 HB3
              go_wp2_with fail
              change Calls Tryd.prog _ #[SE.val A, .int .i64 (SC : Int), .string tsT, .int .i64 cx] _ _
              refine (is_c A SE (SC : Int) tsT cx w4 (HS.out.below HEND.out.bel) HIS.out.1 (by omega) (by have := HC10.out; omega)).mono ?_
              rintro ev w5 ⟨rfl, hb5⟩
              rw [show isK SE (SC : Int) tsT cx = true from HIS.out.2.1]
              have HEND := Lib.hid (HEND.out.below hb5)
              have HQ5 := Lib.hid ((hb5.block hQ (Array.getElem?_eq_some_iff.1 HQ4.out).1).trans HQ4.out)
              clear hb5 q1 hX4l HQ4
              go_wp2_with fail
              refine (only_c A SE (SC : Int) w5 (HS.out.below HEND.out.bel) HIS.out.1 (by omega) (by have := HC10.out; omega)).mono ?_
              rintro ev w6 ⟨rfl, hb6⟩
              rw [show onlyK SE (SC : Int) = true from HIS.out.2.2]
              have HEND := Lib.hid (HEND.out.below hb6)
              have HQ6 := Lib.hid ((hb6.block hQ (Array.getElem?_eq_some_iff.1 HQ5.out).1).trans HQ5.out)
              clear hb6 HQ5
              go_wp2_with fail
              go_meet
              case rel => exact ⟨F1', F2', _, _, rfl, HEND.out, HQ6.out⟩
            | false =>
              go_wp2_with fail
              refine (tstep_c A w.heap.size b1 F1 B M ⟨ka, ca, aa, xa, na, da⟩ W2 (HS.out.below HO.out.bel) HO.out.p (by rw [HO.out.lenM]; have := HNM.out; omega) (fun k => by have := HO.out.len k; omega)).mono ?_
              rintro ev w3 ⟨rfl, F1', hp, hM1, hF1⟩
              obtain ⟨hr0, hb3⟩ := HO.out.mid1 hp hM1
              have hX3 := (hM1.block hX (Array.getElem?_eq_some_iff.1 HXX.out).1 (fun hk => by have := HXN.out _ (.inl hk); omega)).trans HXX.out
              have hQ3 := (hM1.block hQ (Array.getElem?_eq_some_iff.1 HQQ.out).1 (fun hk => by have := HQN.out _ (.inl hk); omega)).trans HQQ.out
              have HP := Lib.hid hp
              have HM1 := Lib.hid hM1
              have HF1 := Lib.hid hF1
              have HR0 := Lib.hid hr0
              have HB3 := Lib.hid hb3
              have HX3 := Lib.hid hX3
              have HQ3 := Lib.hid hQ3
              clear q0 q1 q2 q3 q4 q5 hp hM1 hF1 hr0 hb3 hQ3
              have q0 := cell_of hX3 0
              have q1 := cell_of hX3 1
              have q2 := cell_of hX3 2
              have q3 := cell_of hX3 3
              have q4 := cell_of hX3 4
              have q5 := cell_of hX3 5
              simp only [List.getElem?_toArray, List.getElem?_cons_zero, List.getElem?_cons_succ] at q0 q1 q2 q3 q4 q5
              clear hX3
              go_wp2_with fail
              refine (rstep_c lo2 b2 F2 B M ⟨ka, ca, aa, xa, na, da⟩ w3 HR0.out (fun k => by have := HO.out.len k; omega)).mono ?_
              rintro ev w4 ⟨rfl, F2', hr, hM2, hF2⟩
              have HEND := Lib.hid (HO.out.both HP.out HM1.out HF1.out hr hM2 hF2)
              have hX4 := (hM2.block hX (Array.getElem?_eq_some_iff.1 HX3.out).1 (fun hk => by have := HXN.out _ (.inr hk); omega)).trans HX3.out
              have HQ4 := Lib.hid ((hM2.block hQ (Array.getElem?_eq_some_iff.1 HQ3.out).1 (fun hk => by have := HQN.out _ (.inr hk); omega)).trans HQ3.out)
              have HIS := Lib.hid (stE_is B M ⟨ka, ca, aa, xa, na, da⟩)
              have HC10 := Lib.hid (stC_10 B M ⟨ka, ca, aa, xa, na, da⟩)
              have q1 := cell_of hX4 1
              simp only [List.getElem?_toArray, List.getElem?_cons_zero, List.getElem?_cons_succ] at q1
              have hX4l := (Array.getElem?_eq_some_iff.1 hX4).1
              generalize hSE : stepE B M ⟨ka, ca, aa, xa, na, da⟩ = SE at *
              generalize hSC : stC B M ⟨ka, ca, aa, xa, na, da⟩ = SC at *
              clear hSE hSC hX4 hr hM2 hF2 HX3 HQ3 HP HM1 HF1 HR0 HB3
              go_wp2_with fail
              change Calls Tryd.prog _ #[SE.val A, .int .i64 (SC : Int), .string tsT, .int .i64 ca] _ _
              refine (is_c A SE (SC : Int) tsT ca w4 (HS.out.below HEND.out.bel) HIS.out.1 (by omega) (by have := HC10.out; omega)).mono ?_
              rintro ev w5 ⟨rfl, hb5⟩
              rw [show isK SE (SC : Int) tsT ca = true from HIS.out.2.1]
              have HEND := Lib.hid (HEND.out.below hb5)
              have HQ5 := Lib.hid ((hb5.block hQ (Array.getElem?_eq_some_iff.1 HQ4.out).1).trans HQ4.out)
              clear hb5 q1 hX4l HQ4
              go_wp2_with fail
              refine (only_c A SE (SC : Int) w5 (HS.out.below HEND.out.bel) HIS.out.1 (by omega) (by have := HC10.out; omega)).mono ?_
              rintro ev w6 ⟨rfl, hb6⟩
              rw [show onlyK SE (SC : Int) = true from HIS.out.2.2]
              have HEND := Lib.hid (HEND.out.below hb6)
              have HQ6 := Lib.hid ((hb6.block hQ (Array.getElem?_eq_some_iff.1 HQ5.out).1).trans HQ5.out)
              clear hb6 HQ5
              go_wp2_with fail
              go_meet
              case rel => exact ⟨F1', F2', _, _, rfl, HEND.out, HQ6.out⟩
          · have hk1b : (kd == 1) = false := by simpa using hk1
            by_cases hk3 : kd = 3
            · subst hk3
              have d0 := cell_of HQQ.out 0
              have d1 := cell_of HQQ.out 1
              have d2 := cell_of HQQ.out 2
              have d3 := cell_of HQQ.out 3
              have d4 := cell_of HQQ.out 4
              have d5 := cell_of HQQ.out 5
              have d6 := cell_of HQQ.out 6
              have d7 := cell_of HQQ.out 7
              have d8 := cell_of HQQ.out 8
              have d9 := cell_of HQQ.out 9
              simp only [List.getElem?_toArray, List.getElem?_cons_zero, List.getElem?_cons_succ] at d0 d1 d2 d3 d4 d5 d6 d7 d8 d9
              have hQl := (Array.getElem?_eq_some_iff.1 HQQ.out).1
              go_wp2_with fail
              refine (twin_c w.heap.size b1 F1 B M W1 HO.out.p (fun k => by have := HO.out.len k; omega) (by have := HO.out.lenB; have := HNM.out; omega) (by have := HO.out.lenM; have := HNM.out; omega)).mono ?_
              rintro ev w2 ⟨tb, rfl, ⟨Ft, hFt⟩, hb2⟩
              have HFT := Lib.hid hFt
              have HT1 := Lib.hid (show ∀ k, Ft k → ((¬ F1 k) ∧ (¬ F2 k) ∧ w.heap.size ≤ k) ∧ k ≠ hQ from fun k hk => ⟨⟨fun h => by have := HQN.out k (.inl h); have := (hFt.lt k hk).1; omega, fun h => by have := HQN.out k (.inr h); have := (hFt.lt k hk).1; omega, by have := HQL.out; have := (hFt.lt k hk).1; omega⟩, by have := (hFt.lt k hk).1; omega⟩)
              have HO2 := Lib.hid (HO.out.below hb2)
              have HQ2 := Lib.hid ((hb2.block hQ hQl).trans HQQ.out)
              clear hFt hb2 HO HQQ hQl d0 d1 d2 d3 d4 d5 d6 d7 d8 d9
              have d0 := cell_of HQ2.out 0
              have d1 := cell_of HQ2.out 1
              have d2 := cell_of HQ2.out 2
              have d3 := cell_of HQ2.out 3
              have d4 := cell_of HQ2.out 4
              have d5 := cell_of HQ2.out 5
              have d6 := cell_of HQ2.out 6
              have d7 := cell_of HQ2.out 7
              have d8 := cell_of HQ2.out 8
              have d9 := cell_of HQ2.out 9
              simp only [List.getElem?_toArray, List.getElem?_cons_zero, List.getElem?_cons_succ] at d0 d1 d2 d3 d4 d5 d6 d7 d8 d9
              have hQl := (Array.getElem?_eq_some_iff.1 HQ2.out).1
              go_wp2_with fail
              refine (fit_c lo2 b2 F2 B M ⟨ka, ca, aa, xa, na, da⟩ w2 HO2.out.r).mono ?_
              rintro ev w3 ⟨rfl, hb3⟩
              have HO3 := Lib.hid (HO2.out.below hb3)
              have HQ3 := Lib.hid ((hb3.block hQ hQl).trans HQ2.out)
              have HFT3 := Lib.hid (HFT.out.below hb3)
              generalize fitE B M ⟨ka, ca, aa, xa, na, da⟩ = x at *
              obtain ⟨kx, cx, ax, vx, nx, dx⟩ := x
              simp only [Ev.v]
              clear hb3 HO2 HQ2 HFT hQl d0 d1 d2 d3 d4 d5 d6 d7 d8 d9
              go_wp2_with fail
              refine (tstep_c A W1.heap.size tb Ft B M ⟨kx, cx, ax, vx, nx, dx⟩ w3 (HS.out.below HO3.out.bel) HFT3.out (by rw [HO3.out.lenM]; have := HNM.out; omega) (fun k => by have := HO3.out.len k; omega)).mono ?_
              rintro ev w4 ⟨rfl, Ft', hp, hM, hF⟩
              have HO4 := Lib.hid (HO3.out.aside hM fun k hk => (HT1.out k hk).1)
              have HQ4 := Lib.hid ((hM.block hQ (Array.getElem?_eq_some_iff.1 HQ3.out).1 (fun h => (HT1.out _ h).2 rfl)).trans HQ3.out)
              have HT4 := Lib.hid (show ∀ k, Ft' k → ((¬ F1 k) ∧ (¬ F2 k) ∧ w.heap.size ≤ k) ∧ k ≠ hQ from fun k hk => (hF k hk).elim (HT1.out k) fun h3 => by
                have hq3 := (Array.getElem?_eq_some_iff.1 HQ3.out).1
                exact ⟨⟨fun h => by have := HQN.out k (.inl h); omega, fun h => by have := HQN.out k (.inr h); omega, by have := HQL.out; omega⟩, by omega⟩)
              have HP4 := Lib.hid hp
              have HLB4 := Lib.hid (nxB_le (M := M) (e := ⟨kx, cx, ax, vx, nx, dx⟩) HO3.out.len)
              have HLM4 := Lib.hid (show (nxM B M ⟨kx, cx, ax, vx, nx, dx⟩).length = m0 by rw [nxM_length]; exact HO3.out.lenM)
              generalize nxB B M ⟨kx, cx, ax, vx, nx, dx⟩ = B4 at *
              generalize nxM B M ⟨kx, cx, ax, vx, nx, dx⟩ = M4 at *
              generalize stepE B M ⟨kx, cx, ax, vx, nx, dx⟩ = E4 at *
              clear hp hM hF HO3 HQ3 HFT3 HT1
              go_wp2_with fail
              refine (tstep_c A W1.heap.size tb Ft' B4 M4 ⟨2, 0, 0, 0, 0, false⟩ w4 (HS.out.below HO4.out.bel) HP4.out (by rw [HLM4.out]; have := HNM.out; omega) (fun k => by have := HLB4.out k; omega)).mono ?_
              rintro ev w5 ⟨rfl, Ft2, hp, hM, hF⟩
              have HO5 := Lib.hid (HO4.out.aside hM fun k hk => (HT4.out k hk).1)
              have HQ5 := Lib.hid ((hM.block hQ (Array.getElem?_eq_some_iff.1 HQ4.out).1 (fun h => (HT4.out _ h).2 rfl)).trans HQ4.out)
              clear hp hM hF HO4 HQ4 HP4 HT4
              go_wp2_with fail
              go_meet
              case rel => exact ⟨F1, F2, B, M, rfl, HO5.out.up, HQ5.out⟩
            · have hk3b : (kd == 3) = false := by simpa using hk3
              clear hk1 hk3
              have d0 := cell_of HQQ.out 0
              have d1 := cell_of HQQ.out 1
              have d2 := cell_of HQQ.out 2
              have d3 := cell_of HQQ.out 3
              have d4 := cell_of HQQ.out 4
              have d5 := cell_of HQQ.out 5
              have d6 := cell_of HQQ.out 6
              have d7 := cell_of HQQ.out 7
              have d8 := cell_of HQQ.out 8
              have d9 := cell_of HQQ.out 9
              simp only [List.getElem?_toArray, List.getElem?_cons_zero, List.getElem?_cons_succ] at d0 d1 d2 d3 d4 d5 d6 d7 d8 d9
              have hQl := (Array.getElem?_eq_some_iff.1 HQQ.out).1
              go_wp2_with fail
              go_meet
              case rel => exact ⟨F1, F2, B, M, rfl, HO.out.up, HQQ.out⟩
        case rest => as_aux_lemma =>
          obtain ⟨F1, F2, B, M, rfl, hO, hQQ⟩ := hcut
          have HO := Lib.hid hO
          have HQQ := Lib.hid hQQ
          clear hO hQQ
          generalize wc = X1 at *
          have d0 := cell_of HQQ.out 0
          have d1 := cell_of HQQ.out 1
          have d2 := cell_of HQQ.out 2
          have d3 := cell_of HQQ.out 3
          have d4 := cell_of HQQ.out 4
          have d5 := cell_of HQQ.out 5
          have d6 := cell_of HQQ.out 6
          have d7 := cell_of HQQ.out 7
          have d8 := cell_of HQQ.out 8
          have d9 := cell_of HQQ.out 9
          simp only [List.getElem?_toArray, List.getElem?_cons_zero, List.getElem?_cons_succ] at d0 d1 d2 d3 d4 d5 d6 d7 d8 d9
          have hQl := (Array.getElem?_eq_some_iff.1 HQQ.out).1
          go_wp2_with fail
          refine (trd_c w.heap.size b1 F1 B M qc qa X1 HO.out.p).mono ?_
          rintro ev w' ⟨rfl, hww⟩
          obtain rfl := hww
          obtain ⟨V, hV⟩ : ∃ V, (if okC B qc ∧ okA M qa then rdS B M qc qa else 0) = V := ⟨_, rfl⟩
          obtain ⟨P, hP⟩ : ∃ P : Bool, decide (okC B qc ∧ okA M qa) = P := ⟨_, rfl⟩
          rw [hV, hP]
          have HV := Lib.hid hV
          have HP := Lib.hid hP
          obtain ⟨vB, vM, vs, hA, hF2⟩ := HO.out.r
          have HA0 := Lib.hid hA
          have HF2 := Lib.hid hF2
          obtain ⟨aB, kB, rfl⟩ := hA.rowB.len
          obtain ⟨aM, kM, rfl⟩ := hA.rowM.len
          have HA := HA0
          clear hV hP hA hF2 HA0
          go_wp2_with fail
          go_cut [20] from 66 to 222 (fun s20 wx => s20 = .bool P ∧ Below X1.heap.size X1 wx)
          case first =>
            have c0 := cell_of HA.out.blk 0
            have c1 := cell_of HA.out.blk 1
            simp only [List.getElem?_toArray, List.getElem?_cons_zero, List.getElem?_cons_succ] at c0 c1
            have hbl := (Array.getElem?_eq_some_iff.1 HA.out.blk).1
            by_cases h1 : qc < 0
            · have g4 : decide (qc ≥ 0) = false := by simp; omega
              have g5 : decide (0 ≤ qc) = false := by simp; omega
              obtain rfl : P = false := by rw [← HP.out]; exact decide_eq_false fun h => by have := h.1.1; omega
              clear HV
              refine wp_region_lexA ⟨[], []⟩ (fun x => Below X1.heap.size X1 x) (by kernel_rfl) (by kernel_rfl) (Below.refl _ _).drew ?_
              intro S hto hof hne
              have y1 : ∀ z : Wd S, z.w.cell? ⟨hQ, 1, none⟩ = some (.int .i64 qc) := fun z => ((hto z).cell (p := ⟨hQ, 1, none⟩) hQl).trans d1
              have y2 : ∀ z : Wd S, z.w.cell? ⟨hQ, 2, none⟩ = some (.int .i64 qa) := fun z => ((hto z).cell (p := ⟨hQ, 2, none⟩) hQl).trans d2
              have y3 : ∀ z : Wd S, z.w.cell? ⟨b2, 0, none⟩ = some (.slice aB B.length kB) := fun z => ((hto z).cell (p := ⟨b2, 0, none⟩) hbl).trans c0
              have y4 : ∀ z : Wd S, z.w.cell? ⟨b2, 1, none⟩ = some (.slice aM M.length kM) := fun z => ((hto z).cell (p := ⟨b2, 1, none⟩) hbl).trans c1
              clear hto hof d0 d1 d2 d3 d4 d5 d6 d7 d8 d9 c0 c1
              refine lexW_light 29 (by kernel_rfl) ?_
              simp only [List.take_succ_cons, List.take_zero, List.drop_succ_cons, List.drop_zero]
              repeat (first | go_big_quiet_skip | (go_big_quiet_want; go_big_quiet_op; go_big_quiet_on))
              refine wpQuiet_nil ?_
              refine lexW_done ?_
              clear y1 y2 y3 y4
              go_wp2_with fail
              go_meet
              case rel => exact ⟨rfl, (Below.refl _ _).drew⟩
            · have g4 : decide (qc ≥ 0) = true := by simp; omega
              have g5 : decide (0 ≤ qc) = true := by simp; omega
              by_cases h2 : qc < (B.length : Int)
              · have g6 : decide (qc < (B.length : Int)) = true := by simp; omega
                by_cases h3 : qa < 0
                · have g7 : decide (qa ≥ 0) = false := by simp; omega
                  have g8 : decide (0 ≤ qa) = false := by simp; omega
                  obtain rfl : P = false := by rw [← HP.out]; exact decide_eq_false fun h => by have := h.2.1; omega
                  clear HV
                  refine wp_region_lexA ⟨[], []⟩ (fun x => Below X1.heap.size X1 x) (by kernel_rfl) (by kernel_rfl) (Below.refl _ _).drew ?_
                  intro S hto hof hne
                  have y1 : ∀ z : Wd S, z.w.cell? ⟨hQ, 1, none⟩ = some (.int .i64 qc) := fun z => ((hto z).cell (p := ⟨hQ, 1, none⟩) hQl).trans d1
                  have y2 : ∀ z : Wd S, z.w.cell? ⟨hQ, 2, none⟩ = some (.int .i64 qa) := fun z => ((hto z).cell (p := ⟨hQ, 2, none⟩) hQl).trans d2
                  have y3 : ∀ z : Wd S, z.w.cell? ⟨b2, 0, none⟩ = some (.slice aB B.length kB) := fun z => ((hto z).cell (p := ⟨b2, 0, none⟩) hbl).trans c0
                  have y4 : ∀ z : Wd S, z.w.cell? ⟨b2, 1, none⟩ = some (.slice aM M.length kM) := fun z => ((hto z).cell (p := ⟨b2, 1, none⟩) hbl).trans c1
                  clear hto hof d0 d1 d2 d3 d4 d5 d6 d7 d8 d9 c0 c1
                  refine lexW_light 29 (by kernel_rfl) ?_
                  simp only [List.take_succ_cons, List.take_zero, List.drop_succ_cons, List.drop_zero]
                  repeat (first | go_big_quiet_skip | (go_big_quiet_want; go_big_quiet_op; go_big_quiet_on))
                  refine wpQuiet_nil ?_
                  refine lexW_done ?_
                  clear y1 y2 y3 y4
                  go_wp2_with fail
                  go_meet
                  case rel => exact ⟨rfl, (Below.refl _ _).drew⟩
                · have g7 : decide (qa ≥ 0) = true := by simp; omega
                  have g8 : decide (0 ≤ qa) = true := by simp; omega
                  by_cases h4 : qa < (M.length : Int)
                  · have g9 : decide (qa < (M.length : Int)) = true := by simp; omega
                    obtain rfl : P = true := by rw [← HP.out]; exact decide_eq_true ⟨⟨by omega, by omega⟩, ⟨by omega, by omega⟩⟩
                    clear HV
                    refine wp_region_lexA ⟨[], []⟩ (fun x => Below X1.heap.size X1 x) (by kernel_rfl) (by kernel_rfl) (Below.refl _ _).drew ?_
                    intro S hto hof hne
                    have y1 : ∀ z : Wd S, z.w.cell? ⟨hQ, 1, none⟩ = some (.int .i64 qc) := fun z => ((hto z).cell (p := ⟨hQ, 1, none⟩) hQl).trans d1
                    have y2 : ∀ z : Wd S, z.w.cell? ⟨hQ, 2, none⟩ = some (.int .i64 qa) := fun z => ((hto z).cell (p := ⟨hQ, 2, none⟩) hQl).trans d2
                    have y3 : ∀ z : Wd S, z.w.cell? ⟨b2, 0, none⟩ = some (.slice aB B.length kB) := fun z => ((hto z).cell (p := ⟨b2, 0, none⟩) hbl).trans c0
                    have y4 : ∀ z : Wd S, z.w.cell? ⟨b2, 1, none⟩ = some (.slice aM M.length kM) := fun z => ((hto z).cell (p := ⟨b2, 1, none⟩) hbl).trans c1
                    clear hto hof d0 d1 d2 d3 d4 d5 d6 d7 d8 d9 c0 c1
                    refine lexW_light 29 (by kernel_rfl) ?_
                    simp only [List.take_succ_cons, List.take_zero, List.drop_succ_cons, List.drop_zero]
                    repeat (first | go_big_quiet_skip | (go_big_quiet_want; go_big_quiet_op; go_big_quiet_on))
                    refine wpQuiet_nil ?_
                    refine lexW_done ?_
                    clear y1 y2 y3 y4
                    go_wp2_with fail
                    go_meet
                    case rel => exact ⟨rfl, (Below.refl _ _).drew⟩
                  · have g9 : decide (qa < (M.length : Int)) = false := by simp; omega
                    obtain rfl : P = false := by rw [← HP.out]; exact decide_eq_false fun h => by have := h.2.2; omega
                    clear HV
                    refine wp_region_lexA ⟨[], []⟩ (fun x => Below X1.heap.size X1 x) (by kernel_rfl) (by kernel_rfl) (Below.refl _ _).drew ?_
                    intro S hto hof hne
                    have y1 : ∀ z : Wd S, z.w.cell? ⟨hQ, 1, none⟩ = some (.int .i64 qc) := fun z => ((hto z).cell (p := ⟨hQ, 1, none⟩) hQl).trans d1
                    have y2 : ∀ z : Wd S, z.w.cell? ⟨hQ, 2, none⟩ = some (.int .i64 qa) := fun z => ((hto z).cell (p := ⟨hQ, 2, none⟩) hQl).trans d2
                    have y3 : ∀ z : Wd S, z.w.cell? ⟨b2, 0, none⟩ = some (.slice aB B.length kB) := fun z => ((hto z).cell (p := ⟨b2, 0, none⟩) hbl).trans c0
                    have y4 : ∀ z : Wd S, z.w.cell? ⟨b2, 1, none⟩ = some (.slice aM M.length kM) := fun z => ((hto z).cell (p := ⟨b2, 1, none⟩) hbl).trans c1
                    clear hto hof d0 d1 d2 d3 d4 d5 d6 d7 d8 d9 c0 c1
                    refine lexW_light 29 (by kernel_rfl) ?_
                    simp only [List.take_succ_cons, List.take_zero, List.drop_succ_cons, List.drop_zero]
                    repeat (first | go_big_quiet_skip | (go_big_quiet_want; go_big_quiet_op; go_big_quiet_on))
                    refine wpQuiet_nil ?_
                    refine lexW_done ?_
                    clear y1 y2 y3 y4
                    go_wp2_with fail
                    go_meet
                    case rel => exact ⟨rfl, (Below.refl _ _).drew⟩
              · have g6 : decide (qc < (B.length : Int)) = false := by simp; omega
                obtain rfl : P = false := by rw [← HP.out]; exact decide_eq_false fun h => by have := h.1.2; omega
                clear HV
                refine wp_region_lexA ⟨[], []⟩ (fun x => Below X1.heap.size X1 x) (by kernel_rfl) (by kernel_rfl) (Below.refl _ _).drew ?_
                intro S hto hof hne
                have y1 : ∀ z : Wd S, z.w.cell? ⟨hQ, 1, none⟩ = some (.int .i64 qc) := fun z => ((hto z).cell (p := ⟨hQ, 1, none⟩) hQl).trans d1
                have y2 : ∀ z : Wd S, z.w.cell? ⟨hQ, 2, none⟩ = some (.int .i64 qa) := fun z => ((hto z).cell (p := ⟨hQ, 2, none⟩) hQl).trans d2
                have y3 : ∀ z : Wd S, z.w.cell? ⟨b2, 0, none⟩ = some (.slice aB B.length kB) := fun z => ((hto z).cell (p := ⟨b2, 0, none⟩) hbl).trans c0
                have y4 : ∀ z : Wd S, z.w.cell? ⟨b2, 1, none⟩ = some (.slice aM M.length kM) := fun z => ((hto z).cell (p := ⟨b2, 1, none⟩) hbl).trans c1
                clear hto hof d0 d1 d2 d3 d4 d5 d6 d7 d8 d9 c0 c1
                refine lexW_light 29 (by kernel_rfl) ?_
                simp only [List.take_succ_cons, List.take_zero, List.drop_succ_cons, List.drop_zero]
                repeat (first | go_big_quiet_skip | (go_big_quiet_want; go_big_quiet_op; go_big_quiet_on))
                refine wpQuiet_nil ?_
                refine lexW_done ?_
                clear y1 y2 y3 y4
                go_wp2_with fail
                go_meet
                case rel => exact ⟨rfl, (Below.refl _ _).drew⟩
          case rest =>
            obtain ⟨rfl, hbw⟩ := hcut
            have HO2 := Lib.hid (HO.out.below hbw)
            have HQ2 := Lib.hid ((hbw.block hQ hQl).trans HQQ.out)
            have HA2 := Lib.hid (HA.out.below hbw)
            clear hbw hQl d0 d1 d2 d3 d4 d5 d6 d7 d8 d9 HO HQQ HA
            generalize wc = X2 at *
            have HO := HO2
            have HQQ := HQ2
            have HA := HA2
            clear HO2 HQ2 HA2
            go_upto_if 165 with fail
            go_cut [21] from 66 to 222 (fun s21 wx => s21 = .int .u32 V ∧ X2 = wx)
            case first =>
              have d0 := cell_of HQQ.out 0
              have d1 := cell_of HQQ.out 1
              have d2 := cell_of HQQ.out 2
              have d3 := cell_of HQQ.out 3
              have d4 := cell_of HQQ.out 4
              have d5 := cell_of HQQ.out 5
              have d6 := cell_of HQQ.out 6
              have d7 := cell_of HQQ.out 7
              have d8 := cell_of HQQ.out 8
              have d9 := cell_of HQQ.out 9
              simp only [List.getElem?_toArray, List.getElem?_cons_zero, List.getElem?_cons_succ] at d0 d1 d2 d3 d4 d5 d6 d7 d8 d9
              have hQl := (Array.getElem?_eq_some_iff.1 HQQ.out).1
              by_cases hok : okC B qc ∧ okA M qa
              · obtain rfl : P = true := by rw [← HP.out]; exact decide_eq_true hok
                have HVV := Lib.hid (HV.out.symm.trans (if_pos hok))
                have HOK := Lib.hid hok
                clear hok
                go_wp2_with fail
                refine (rread_c lo2 b2 (.slice aB B.length kB) (.slice aM M.length kM) vs B M qc qa X2 HA.out HOK.out.1 HOK.out.2).mono ?_
                rintro ev w' ⟨rfl, hww⟩
                obtain rfl := hww
                rw [← HVV.out]
                go_wp2_with fail
                go_meet
                case rel => exact ⟨rfl, rfl⟩
              · obtain rfl : P = false := by rw [← HP.out]; exact decide_eq_false hok
                obtain rfl : V = 0 := HV.out.symm.trans (if_neg hok)
                clear hok
                go_wp2_with fail
                go_meet
                case rel => exact ⟨rfl, rfl⟩
            case rest =>
              obtain ⟨rfl, rfl⟩ := hcut
              have c0 := cell_of HA.out.blk 0
              have c1 := cell_of HA.out.blk 1
              simp only [List.getElem?_toArray, List.getElem?_cons_zero, List.getElem?_cons_succ] at c0 c1
              have hbl := (Array.getElem?_eq_some_iff.1 HA.out.blk).1
              have gv : (V != V) = false := by simp
              have gp : (P != P) = false := by simp
              clear HV HP
              go_upto_region 32 with fail
              refine wp_region_lexA ⟨[], []⟩ (fun x => Below X2.heap.size X2 x) (by kernel_rfl) (by kernel_rfl) (Below.refl _ _).drew ?_
              intro S hto hof hne
              have y4 : ∀ z : Wd S, z.w.cell? ⟨b2, 1, none⟩ = some (.slice aM M.length kM) := fun z => ((hto z).cell (p := ⟨b2, 1, none⟩) hbl).trans c1
              have Hof := Lib.hid hof
              clear hto hof c0 c1 hbl
              refine lexW_light 10 (by kernel_rfl) ?_
              simp only [List.take_succ_cons, List.take_zero, List.drop_succ_cons, List.drop_zero]
              repeat (first | go_big_quiet_skip | (go_big_quiet_want; go_big_quiet_op; go_big_quiet_on))
              refine wpQuiet_nil ?_
              refine lexW_heavy (by kernel_rfl) ?_
              go_wp2_with fail
              refine (tmem_c w.heap.size b1 F1 B M _ (HO.out.p.below (Below.refl _ _).drew) (by rw [HO.out.lenM]; have := HNM.out; omega)).mono ?_
              rintro ev w3 ⟨u3, rfl, hu3, hb3⟩
              have HB3 := Lib.hid ((Below.refl X2.heap.size X2).drew.trans hb3)
              obtain ⟨a3, c3, rfl⟩ := hu3.len
              have HU3 := Lib.hid hu3.slc
              clear hu3 hb3
              go_wp2_with fail
              refine lexQ_more (Hof.out _ HB3.out) ?_
              refine lexW_light 4 (by kernel_rfl) ?_
              simp only [List.take_succ_cons, List.take_zero, List.drop_succ_cons, List.drop_zero]
              repeat (first | go_big_quiet_skip | (go_big_quiet_want; go_big_quiet_op; go_big_quiet_on))
              refine wpQuiet_nil ?_
              refine lexW_heavy (by kernel_rfl) ?_
              go_wp2_with fail
              refine (sameU_c M M _ _ w3 HU3.out (HA.out.rowM.below HB3.out).slc (by rw [HO.out.lenM]; have := HNM.out; omega) (by rw [HO.out.lenM]; have := HNM.out; omega)).mono ?_
              rintro ev w4 ⟨rfl, hb4⟩
              rw [decide_eq_true (rfl : M = M)]
              have HB4 := Lib.hid (HB3.out.trans (hb4.mono HB3.out.size))
              clear hb4 HU3
              go_wp2_with fail
              refine lexQ_more (Hof.out _ HB4.out) ?_
              refine lexW_light 2 (by kernel_rfl) ?_
              simp only [List.take_succ_cons, List.take_zero, List.drop_succ_cons, List.drop_zero]
              repeat (first | go_big_quiet_skip | (go_big_quiet_want; go_big_quiet_op; go_big_quiet_on))
              refine wpQuiet_nil ?_
              refine lexW_done ?_
              clear y4
              have HO4 := Lib.hid (HO.out.below HB4.out)
              have HA4 := Lib.hid (HA.out.below HB4.out)
              clear HO HA HQQ HB3 HB4 Hof
              have HO := HO4
              have HA := HA4
              clear HO4 HA4
              go_wp2_with fail
              go_loopw [22] (fun s22 wq => ∃ j : Nat, j ≤ n0 + 2 ∧ s22 = .int .i64 ((j : Int) - 1) ∧ w4 = wq) (fun s22 _ => (n0 + 2) - (intOf s22 + 1).toNat)
              case atStart => exact ⟨0, by omega, rfl, rfl⟩
              case round =>
                obtain ⟨j, hj, rfl, rfl⟩ := hrel
                have c0 := cell_of HA.out.blk 0
                simp only [List.getElem?_toArray, List.getElem?_cons_zero] at c0
                have hbl := (Array.getElem?_eq_some_iff.1 HA.out.blk).1
                have HLB := Lib.hid HO.out.lenB
                rw [HLB.out] at c0
                cases j with
                | zero =>
                  rw [show ((0 : Nat) : Int) - 1 = -1 from rfl]
                  have g4 : decide ((-1 : Int) ≤ (n0 : Int)) = true := by simp <;> omega
                  have hno : ¬ okC B (-1) := fun h => by have := h.1; omega
                  have HNO := Lib.hid hno
                  clear hno
                  go_wp2_with fail
                  refine (twt_c w.heap.size b1 F1 B M (-1) w4 HO.out.p (by rw [HO.out.lenM]; have := HNM.out; omega)).mono ?_
                  rintro ev w' ⟨rfl, hww⟩
                  obtain rfl := hww
                  rw [if_neg HNO.out]
                  go_wp2_with fail
                  go_roundw
                  case rel => exact ⟨1, by omega, by go_num, trivial⟩
                  case measure => simp [intOf] <;> omega
                | succ c =>
                  rw [show ((c + 1 : Nat) : Int) - 1 = (c : Int) by omega]
                  have hcb : c ≤ 70 := by have := HNM.out; omega
                  by_cases hc : c < n0
                  · have g4 : decide ((c : Int) ≤ (n0 : Int)) = true := by simp; omega
                    have g5 : decide (c < n0) = true := by simp; omega
                    have g6 : decide (c ≤ n0) = true := by simp; omega
                    obtain ⟨gB, oB, kB', ad, cp', hvB, hgB, e0, _, hrow⟩ := HA.out.buf (show c < B.length by rw [HLB.out]; exact hc)
                    simp only [Value.slice.injEq] at hvB
                    obtain ⟨hab, _, hkb⟩ := hvB
                    rw [hab] at c0
                    have hok := Lib.hid (show okC B (c : Int) from ⟨by omega, by rw [HLB.out]; omega⟩)
                    clear hrow hab hkb
                    obtain ⟨wl, hwl⟩ : ∃ wl, (B.getD c []).length = wl := ⟨_, rfl⟩
                    rw [hwl] at e0
                    have HWL := Lib.hid hwl
                    clear hwl
                    have gx : ∀ x : Int, (x != x) = false := fun x => by simp
                    have gw := gx (wl : Int)
                    clear gx
                    go_wp2_with fail
                    refine (twt_c w.heap.size b1 F1 B M (c : Int) w4 HO.out.p (by rw [HO.out.lenM]; have := HNM.out; omega)).mono ?_
                    rintro ev w' ⟨rfl, hww⟩
                    obtain rfl := hww
                    rw [if_pos hok.out, Int.toNat_natCast, HWL.out]
                    go_wp2_with fail
                    go_roundw
                    case rel => exact ⟨c + 2, by omega, by go_num, trivial⟩
                    case measure => simp [intOf] <;> omega
                  · by_cases hc2 : c = n0
                    · have g4 : decide ((c : Int) ≤ (n0 : Int)) = true := by simp; omega
                      have g5 : decide (c < n0) = false := by simp; omega
                      have g6 : decide (c ≤ n0) = true := by simp; omega
                      have hno : ¬ okC B (c : Int) := fun h => by have := h.2; have := HLB.out; omega
                      have HNO := Lib.hid hno
                      have HC2 := Lib.hid hc2
                      clear hno hc2
                      go_wp2_with fail
                      refine (twt_c w.heap.size b1 F1 B M (c : Int) w4 HO.out.p (by rw [HO.out.lenM]; have := HNM.out; omega)).mono ?_
                      rintro ev w' ⟨rfl, hww⟩
                      obtain rfl := hww
                      rw [if_neg HNO.out]
                      go_wp2_with fail
                      go_roundw
                      case rel => exact ⟨c + 2, by have := HC2.out; omega, by go_num, trivial⟩
                      case measure => simp [intOf] <;> have := HC2.out <;> omega
                    · have g4 : decide ((c : Int) ≤ (n0 : Int)) = false := by simp; omega
                      have g6 : decide (c ≤ n0) = false := by simp; omega
                      go_wp2_with fail
                      go_roundw
                      case rel => exact ⟨i + 1, F1, F2, B, M, by omega, by omega, by go_num, HO.out⟩
                      case measure => simp [intOf] <;> omega
      · by_cases hi1 : i < n
        · have g1 : decide (i < n) = true := by simp; omega
          have g2 : decide ((i : Int) < 60) = false := by simp; omega
          go_wp2_with fail
          refine (tsoRuns A _ (HS.out.below HO.out.bel)).mono ?_
          rintro ev w4 ⟨rfl, hb4⟩
          go_wp2_with fail
          go_ret
          exact ⟨rfl, HO.out.bel.trans (hb4.mono HO.out.bel.size)⟩
        · have g1 : decide (i < n) = false := by simp; omega
          go_wp2_with fail
          refine (tsoRuns A _ (HS.out.below HO.out.bel)).mono ?_
          rintro ev w4 ⟨rfl, hb4⟩
          go_wp2_with fail
          go_ret
          exact ⟨rfl, HO.out.bel.trans (hb4.mono HO.out.bel.size)⟩
  · exact plays_bad A z0 z1 n ap cp w HS.out hn hok

end Go.Proofs.YtamklohnmbgklaaDoor
