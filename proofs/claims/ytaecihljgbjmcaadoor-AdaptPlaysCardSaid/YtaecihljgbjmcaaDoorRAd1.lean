/- The reference's Adapt: up, down, Note. -/
import Derived.Test.YtaecihljgbjmcaaDoorA7
import Derived.Test.YtaecihljgbjmcaaDoorLexN
import Derived.Deep.Cut
import Derived.Deep.CutRange
import Derived.Deep.CutBlock
namespace Go.Proofs.YtaecihljgbjmcaaDoor
open Go.RowKit Go.Extern.Stop Go.Stop Go.Extern

theorem up_c (n : Int) (w : World) (h0 : 0 ≤ n) (h1 : n ≤ 15) : Calls Tryd.prog 44 #[.int .i64 n] w fun ev w' => ev = .returned (.int .i64 (cntF true n)) ∧ w = w' := by
  have hw : IntKind.i64.wrap (n + 1) = n + 1 := IntWalk.i64_in _ (by omega)
  go_enter Tryd.func44, Tryd.ntmps44
  go_wp2_with fail
  all_goals
    go_ret
    exact ⟨ret_int (by simp only [cntF, if_true]), rfl⟩
theorem down_c (n : Int) (w : World) (h0 : 0 ≤ n) (h1 : n ≤ 15) : Calls Tryd.prog 45 #[.int .i64 n] w fun ev w' => ev = .returned (.int .i64 (cntF false n)) ∧ w = w' := by
  go_enter Tryd.func45, Tryd.ntmps45
  go_wp2_with fail
  all_goals
    go_ret
    exact ⟨ret_int (by simp only [cntF, if_false, Bool.false_eq_true]), rfl⟩
/-- Does the line move on? -/
def rmvT (R : Nat → Int) (i : Nat) (core : Int) : Bool := decide (R (2 + i * 5) = core) && decide (0 ≤ R (2 + i * 5 + 1)) && !decide (R (2 + i * 5 + 1) = core)
def rmvC (R : Nat → Int) (i : Nat) (core : Int) : Nat → Int := updC R (2 + i * 5 + 2) (cntF (rmvT R i core) (R (2 + i * 5 + 2)))
def rreadC (R : Nat → Int) (i : Nat) (core holders : Int) : Nat → Int :=
  if holders < 2 then updC R (2 + i * 5) core else updC (updC R (2 + i * 5) core) (2 + i * 5 + 4) (cntF true (R (2 + i * 5 + 4)))
def rupdC (R : Nat → Int) (i : Nat) (core : Int) : Nat → Int := updC (rmvC (updC R (2 + i * 5 + 3) (cntF true (R (2 + i * 5 + 3)))) i core) (2 + i * 5 + 1) core
def rwr3C (R : Nat → Int) (i : Nat) (core : Int) : Nat → Int := updC (updC (rmvC R i core) (2 + i * 5 + 3) (cntF true (rmvC R i core (2 + i * 5 + 3)))) (2 + i * 5 + 1) core
def rwrC (R : Nat → Int) (i : Nat) (core : Int) : Nat → Int := updC (updC (updC (rmvC R i core) (2 + i * 5 + 3) (cntF false (rmvC R i core (2 + i * 5 + 3)))) (2 + i * 5 + 4) (cntF false (rmvC R i core (2 + i * 5 + 4)))) (2 + i * 5 + 1) core
theorem cntF_in (t : Bool) {n : Int} (h : 0 ≤ n ∧ n ≤ 15) : 0 ≤ cntF t n ∧ cntF t n ≤ 15 := cntF_b t h.1 h.2
/-- The counters are within their bounds. -/
def ROk (R : Nat → Int) (i : Nat) : Prop := ∀ j, 2 ≤ j → j < 5 → 0 ≤ R (2 + i * 5 + j) ∧ R (2 + i * 5 + j) ≤ 15
theorem ROk.upd {R : Nat → Int} {i j : Nat} (h : ROk R i) {v : Int} (hv : 2 ≤ j → 0 ≤ v ∧ v ≤ 15) : ROk (updC R (2 + i * 5 + j) v) i := fun k h2 h5 => by
  unfold updC
  split
  · exact hv (by omega)
  · exact h k h2 h5
theorem ROk.mv {R : Nat → Int} {i : Nat} (h : ROk R i) (core : Int) : ROk (rmvC R i core) i := h.upd fun _ => cntF_in _ (h 2 (by omega) (by omega))
theorem updC_at {R : Nat → Int} {k : Nat} {v : Int} : updC R k v k = v := by simp [updC]
theorem updC_off {R : Nat → Int} {k j : Nat} {v : Int} (h : j ≠ k) : updC R k v j = R j := by simp [updC, h]
theorem rmvT_eq {R : Nat → Int} {i : Nat} {core : Int} {t1 t2 t3 : Bool} (h1 : (R (2 + i * 5) == core) = t1) (h2 : decide (0 ≤ R (2 + i * 5 + 1)) = t2) (h3 : (R (2 + i * 5 + 1) != core) = t3) : rmvT R i core = (t1 && t2 && t3) := by
  subst h1 h2 h3
  rfl
/-- An Adapt, its block alone is turned. -/
structure AG (w : World) (b : Nat) (R : Nat → Int) (wx : World) : Prop where
  at_ : AdaptAt wx b R
  gr : w.grownBy wx (some b)
theorem AG.set {w wx : World} {b : Nat} {R : Nat → Int} (h : AG w b R wx) {k : Nat} (hk : k < 42) (v : Int) : AG w b (updC R k v) (wx.setCell ⟨b, k, none⟩ (.int .i64 v)) := ⟨h.at_.set hk v, grown_set h.gr⟩
theorem AG.drew {w wx : World} {b : Nat} {R : Nat → Int} (h : AG w b R wx) : AG w b R wx.drew := ⟨h.at_.drewN 1, grown_drewN h.gr 1⟩

set_option maxHeartbeats 1000000 in
theorem rnote_read (b : Nat) (R : Nat → Int) (line core holders : Int) (w : World) (h : AdaptAt w b R) (hb : (line / 4).toNat < 8 → ROk R (line / 4).toNat) (h0 : 0 ≤ line) (h31 : line ≤ 31) (h3 : 0 ≤ core) (h4 : core < 64) (h5 : 0 ≤ holders) :
    Calls Tryd.prog 32 #[.pointer (some ⟨b, 0, none⟩), .int .i64 line, .int .i64 1, .int .i64 core, .int .i64 holders] w (AdaptPost b (rreadC R (line / 4).toNat core holders) w true) := by
  go_enter Tryd.func32, Tryd.ntmps32
  go_upto_region 4 with fail
  have hi8 : (line / 4).toNat < 8 := by omega
  generalize (line / 4).toNat = i at *
  have HA := Lib.hid (show AG w b R w from ⟨h, World.grownBy.refl _ _⟩)
  have HB := Lib.hid (hb hi8)
  clear h hb
  by_cases hh : holders < 2
  · have HS := Lib.hid (HA.out.set (k := 2 + i * 5) (by omega) core)
    have c0 := HA.out.at_.cell (2 + i * 5) (by omega)
    have f0 := HA.out.at_.froz (2 + i * 5) (by omega)
    go_wp2_with fail
    go_ret
    rw [rreadC, if_pos hh]
    exact ⟨rfl, HS.out.at_, HS.out.gr⟩
  · have HS := Lib.hid (HA.out.set (k := 2 + i * 5) (by omega) core)
    have c0 := HA.out.at_.cell (2 + i * 5) (by omega)
    have f0 := HA.out.at_.froz (2 + i * 5) (by omega)
    go_upto_region 9 with fail
    clear c0 f0
    generalize w.setCell ⟨b, 2 + i * 5, none⟩ (.int .i64 core) = w1 at *
    have e4 : updC R (2 + i * 5) core (2 + i * 5 + 4) = R (2 + i * 5 + 4) := updC_off (by omega)
    have c4 := HS.out.at_.cell (2 + i * 5 + 4) (by omega)
    have f4 := HS.out.at_.froz (2 + i * 5 + 4) (by omega)
    rw [e4] at c4
    clear e4
    go_wp2_with fail
    refine (up_c (R (2 + i * 5 + 4)) w1 (HB.out 4 (by omega) (by omega)).1 (HB.out 4 (by omega) (by omega)).2).mono ?_
    rintro ev w' ⟨rfl, hww⟩
    obtain rfl := hww
    have HT := Lib.hid (HS.out.set (k := 2 + i * 5 + 4) (by omega) (cntF true (R (2 + i * 5 + 4))))
    go_wp2_with fail
    go_ret
    rw [rreadC, if_neg (by omega)]
    exact ⟨rfl, HT.out.at_, HT.out.gr⟩

set_option maxHeartbeats 1000000 in
theorem rnote_update (b : Nat) (R : Nat → Int) (line core holders : Int) (w : World) (h : AdaptAt w b R) (hb : (line / 4).toNat < 8 → ROk R (line / 4).toNat) (h0 : 0 ≤ line) (h31 : line ≤ 31) (h3 : 0 ≤ core) (h4 : core < 64) (h5 : 0 ≤ holders) :
    Calls Tryd.prog 32 #[.pointer (some ⟨b, 0, none⟩), .int .i64 line, .int .i64 3, .int .i64 core, .int .i64 holders] w (AdaptPost b (rupdC R (line / 4).toNat core) w true) := by
  go_enter Tryd.func32, Tryd.ntmps32
  go_upto_region 4 with fail
  have hi8 : (line / 4).toNat < 8 := by omega
  generalize (line / 4).toNat = i at *
  have HA := Lib.hid (show AG w b R w from ⟨h, World.grownBy.refl _ _⟩)
  have HB := Lib.hid (hb hi8)
  clear h hb
  have c3 := HA.out.at_.cell (2 + i * 5 + 3) (by omega)
  have f3 := HA.out.at_.froz (2 + i * 5 + 3) (by omega)
  go_wp2_with fail
  refine (up_c (R (2 + i * 5 + 3)) w (HB.out 3 (by omega) (by omega)).1 (HB.out 3 (by omega) (by omega)).2).mono ?_
  rintro ev w' ⟨rfl, hww⟩
  obtain rfl := hww
  have HS := Lib.hid (HA.out.set (k := 2 + i * 5 + 3) (by omega) (cntF true (R (2 + i * 5 + 3))))
  have HC := Lib.hid (HB.out.upd (j := 3) (v := cntF true (R (2 + i * 5 + 3))) fun _ => cntF_in _ (HB.out 3 (by omega) (by omega)))
  go_upto_region 12 with fail
  clear c3 f3
  generalize w.setCell ⟨b, 2 + i * 5 + 3, none⟩ (.int .i64 (cntF true (R (2 + i * 5 + 3)))) = w1 at *
  obtain ⟨R1, hR1⟩ : ∃ R1, R1 = updC R (2 + i * 5 + 3) (cntF true (R (2 + i * 5 + 3))) := ⟨_, rfl⟩
  have HR1 := Lib.hid hR1
  rw [← hR1] at HS HC
  clear hR1 HA HB
  go_upto_region 12 with fail
  obtain ⟨T, hT⟩ : ∃ T, rmvT R1 i core = T := ⟨_, rfl⟩
  have HT := Lib.hid hT
  clear hT
  go_cut [85] from 65 to 84 (fun s85 wx => s85 = .bool T ∧ wx = w1)
  case first =>
    have c0 := HS.out.at_.cell (2 + i * 5) (by omega)
    have c1 := HS.out.at_.cell (2 + i * 5 + 1) (by omega)
    cases k1 : (R1 (2 + i * 5) == core) <;> cases k2 : decide (0 ≤ R1 (2 + i * 5 + 1)) <;> cases k3 : (R1 (2 + i * 5 + 1) != core)
    all_goals
      have KT := Lib.hid (rmvT_eq k1 k2 k3)
      go_wp2_with fail
      go_meet
      case rel => exact ⟨by rw [← HT.out, KT.out]; rfl, rfl⟩
  case rest =>
    obtain ⟨rfl, hww⟩ := hcut
    obtain rfl := hww.symm
    go_upto_if 85 with fail
    go_cut [99] from 86 to 98 (fun _ wx => wx = w1.setCell ⟨b, 2 + i * 5 + 2, none⟩ (.int .i64 (cntF T (R1 (2 + i * 5 + 2)))))
    case first =>
      have c2 := HS.out.at_.cell (2 + i * 5 + 2) (by omega)
      have f2 := HS.out.at_.froz (2 + i * 5 + 2) (by omega)
      have b2 := HC.out 2 (by omega) (by omega)
      cases T with
      | true =>
        go_wp2_with fail
        refine (up_c (R1 (2 + i * 5 + 2)) w1 b2.1 b2.2).mono ?_
        rintro ev w' ⟨rfl, hww⟩
        obtain rfl := hww
        go_wp2_with fail
        go_meet
        case rel => rfl
      | false =>
        go_wp2_with fail
        refine (down_c (R1 (2 + i * 5 + 2)) w1 b2.1 b2.2).mono ?_
        rintro ev w' ⟨rfl, hww⟩
        obtain rfl := hww
        go_wp2_with fail
        go_meet
        case rel => rfl
    case rest =>
      subst hcut
      have HM := Lib.hid (show AG w b (rmvC R1 i core) (w1.setCell ⟨b, 2 + i * 5 + 2, none⟩ (.int .i64 (cntF T (R1 (2 + i * 5 + 2))))) from by rw [← HT.out]; exact HS.out.set (by omega) _)
      generalize w1.setCell ⟨b, 2 + i * 5 + 2, none⟩ (.int .i64 (cntF T (R1 (2 + i * 5 + 2)))) = w2 at *
      clear HT HS
      have HU := Lib.hid (HM.out.set (k := 2 + i * 5 + 1) (by omega) core)
      have c1 := HM.out.at_.cell (2 + i * 5 + 1) (by omega)
      have f1 := HM.out.at_.froz (2 + i * 5 + 1) (by omega)
      go_wp2_with fail
      go_ret
      rw [rupdC, ← HR1.out]
      exact ⟨rfl, HU.out.at_, HU.out.gr⟩

set_option maxHeartbeats 1000000 in
theorem rnote_write3 (b : Nat) (R : Nat → Int) (line core holders : Int) (w : World) (h : AdaptAt w b R) (hb : (line / 4).toNat < 8 → ROk R (line / 4).toNat) (h0 : 0 ≤ line) (h31 : line ≤ 31) (h3 : 0 ≤ core) (h4 : core < 64) (_h5 : 0 ≤ holders) (h6 : 3 ≤ holders) :
    Calls Tryd.prog 32 #[.pointer (some ⟨b, 0, none⟩), .int .i64 line, .int .i64 2, .int .i64 core, .int .i64 holders] w (AdaptPost b (rwr3C R (line / 4).toNat core) w true) := by
  go_enter Tryd.func32, Tryd.ntmps32
  go_upto_region 4 with fail
  have hi8 : (line / 4).toNat < 8 := by omega
  generalize (line / 4).toNat = i at *
  have HA := Lib.hid (show AG w b R w from ⟨h, World.grownBy.refl _ _⟩)
  have HB := Lib.hid (hb hi8)
  clear h hb
  go_upto_region 12 with fail
  obtain ⟨T, hT⟩ : ∃ T, rmvT R i core = T := ⟨_, rfl⟩
  have HT := Lib.hid hT
  clear hT
  go_cut [85] from 65 to 84 (fun s85 wx => s85 = .bool T ∧ wx = w)
  case first =>
    have c0 := HA.out.at_.cell (2 + i * 5) (by omega)
    have c1 := HA.out.at_.cell (2 + i * 5 + 1) (by omega)
    cases k1 : (R (2 + i * 5) == core) <;> cases k2 : decide (0 ≤ R (2 + i * 5 + 1)) <;> cases k3 : (R (2 + i * 5 + 1) != core)
    all_goals
      have KT := Lib.hid (rmvT_eq k1 k2 k3)
      go_wp2_with fail
      go_meet
      case rel => exact ⟨by rw [← HT.out, KT.out]; rfl, rfl⟩
  case rest =>
    obtain ⟨rfl, hww⟩ := hcut
    obtain rfl := hww.symm
    go_upto_if 85 with fail
    go_cut [99] from 86 to 98 (fun _ wx => wx = w.setCell ⟨b, 2 + i * 5 + 2, none⟩ (.int .i64 (cntF T (R (2 + i * 5 + 2)))))
    case first =>
      have c2 := HA.out.at_.cell (2 + i * 5 + 2) (by omega)
      have f2 := HA.out.at_.froz (2 + i * 5 + 2) (by omega)
      have b2 := HB.out 2 (by omega) (by omega)
      cases T with
      | true =>
        go_wp2_with fail
        refine (up_c (R (2 + i * 5 + 2)) w b2.1 b2.2).mono ?_
        rintro ev w' ⟨rfl, hww⟩
        obtain rfl := hww
        go_wp2_with fail
        go_meet
        case rel => rfl
      | false =>
        go_wp2_with fail
        refine (down_c (R (2 + i * 5 + 2)) w b2.1 b2.2).mono ?_
        rintro ev w' ⟨rfl, hww⟩
        obtain rfl := hww
        go_wp2_with fail
        go_meet
        case rel => rfl
    case rest =>
      subst hcut
      have HM := Lib.hid (show AG w b (rmvC R i core) (w.setCell ⟨b, 2 + i * 5 + 2, none⟩ (.int .i64 (cntF T (R (2 + i * 5 + 2))))) from by rw [← HT.out]; exact HA.out.set (by omega) _)
      generalize w.setCell ⟨b, 2 + i * 5 + 2, none⟩ (.int .i64 (cntF T (R (2 + i * 5 + 2)))) = w2 at *
      clear HT HA
      obtain ⟨R1, hR1⟩ : ∃ R1, R1 = rmvC R i core := ⟨_, rfl⟩
      have HR1 := Lib.hid hR1
      have HC := Lib.hid (HB.out.mv core)
      rw [← hR1] at HM HC
      clear hR1 HB
      have c3 := HM.out.at_.cell (2 + i * 5 + 3) (by omega)
      have f3 := HM.out.at_.froz (2 + i * 5 + 3) (by omega)
      go_wp2_with fail
      refine (up_c (R1 (2 + i * 5 + 3)) w2 (HC.out 3 (by omega) (by omega)).1 (HC.out 3 (by omega) (by omega)).2).mono ?_
      rintro ev w' ⟨rfl, hww⟩
      obtain rfl := hww
      have HS := Lib.hid (HM.out.set (k := 2 + i * 5 + 3) (by omega) (cntF true (R1 (2 + i * 5 + 3))))
      go_upto_region 19 with fail
      clear c3 f3
      generalize w2.setCell ⟨b, 2 + i * 5 + 3, none⟩ (.int .i64 (cntF true (R1 (2 + i * 5 + 3)))) = w3 at *
      have HU := Lib.hid (HS.out.set (k := 2 + i * 5 + 1) (by omega) core)
      have c1 := HS.out.at_.cell (2 + i * 5 + 1) (by omega)
      have f1 := HS.out.at_.froz (2 + i * 5 + 1) (by omega)
      go_wp2_with fail
      go_ret
      rw [rwr3C, ← HR1.out]
      exact ⟨rfl, HU.out.at_, HU.out.gr⟩

set_option maxRecDepth 100000 in
set_option maxHeartbeats 1000000 in
theorem rnote_write (b : Nat) (R : Nat → Int) (line core holders : Int) (w : World) (h : AdaptAt w b R) (hb : (line / 4).toNat < 8 → ROk R (line / 4).toNat) (h0 : 0 ≤ line) (h31 : line ≤ 31) (h3 : 0 ≤ core) (h4 : core < 64) (h5 : 0 ≤ holders) (h6 : holders < 3) :
    Calls Tryd.prog 32 #[.pointer (some ⟨b, 0, none⟩), .int .i64 line, .int .i64 2, .int .i64 core, .int .i64 holders] w (AdaptPost b (rwrC R (line / 4).toNat core) w true) := by
  go_enter Tryd.func32, Tryd.ntmps32
  go_upto_region 4 with fail
  have hi8 : (line / 4).toNat < 8 := by omega
  generalize (line / 4).toNat = i at *
  have HA := Lib.hid (show AG w b R w from ⟨h, World.grownBy.refl _ _⟩)
  have HB := Lib.hid (hb hi8)
  clear h hb
  go_upto_region 12 with fail
  obtain ⟨T, hT⟩ : ∃ T, rmvT R i core = T := ⟨_, rfl⟩
  have HT := Lib.hid hT
  clear hT
  go_cut [85] from 65 to 84 (fun s85 wx => s85 = .bool T ∧ wx = w)
  case first =>
    have c0 := HA.out.at_.cell (2 + i * 5) (by omega)
    have c1 := HA.out.at_.cell (2 + i * 5 + 1) (by omega)
    cases k1 : (R (2 + i * 5) == core) <;> cases k2 : decide (0 ≤ R (2 + i * 5 + 1)) <;> cases k3 : (R (2 + i * 5 + 1) != core)
    all_goals
      have KT := Lib.hid (rmvT_eq k1 k2 k3)
      go_wp2_with fail
      go_meet
      case rel => exact ⟨by rw [← HT.out, KT.out]; rfl, rfl⟩
  case rest =>
    obtain ⟨rfl, hww⟩ := hcut
    obtain rfl := hww.symm
    go_upto_if 85 with fail
    go_cut [99] from 86 to 98 (fun _ wx => wx = w.setCell ⟨b, 2 + i * 5 + 2, none⟩ (.int .i64 (cntF T (R (2 + i * 5 + 2)))))
    case first =>
      have c2 := HA.out.at_.cell (2 + i * 5 + 2) (by omega)
      have f2 := HA.out.at_.froz (2 + i * 5 + 2) (by omega)
      have b2 := HB.out 2 (by omega) (by omega)
      cases T with
      | true =>
        go_wp2_with fail
        refine (up_c (R (2 + i * 5 + 2)) w b2.1 b2.2).mono ?_
        rintro ev w' ⟨rfl, hww⟩
        obtain rfl := hww
        go_wp2_with fail
        go_meet
        case rel => rfl
      | false =>
        go_wp2_with fail
        refine (down_c (R (2 + i * 5 + 2)) w b2.1 b2.2).mono ?_
        rintro ev w' ⟨rfl, hww⟩
        obtain rfl := hww
        go_wp2_with fail
        go_meet
        case rel => rfl
    case rest =>
      subst hcut
      have HM := Lib.hid (show AG w b (rmvC R i core) (w.setCell ⟨b, 2 + i * 5 + 2, none⟩ (.int .i64 (cntF T (R (2 + i * 5 + 2))))) from by rw [← HT.out]; exact HA.out.set (by omega) _)
      generalize w.setCell ⟨b, 2 + i * 5 + 2, none⟩ (.int .i64 (cntF T (R (2 + i * 5 + 2)))) = w2 at *
      clear HT HA
      obtain ⟨R1, hR1⟩ : ∃ R1, R1 = rmvC R i core := ⟨_, rfl⟩
      have HR1 := Lib.hid hR1
      have HC := Lib.hid (HB.out.mv core)
      rw [← hR1] at HM HC
      clear hR1 HB
      go_upto_region 18 with fail
      have c3 := HM.out.at_.cell (2 + i * 5 + 3) (by omega)
      have f3 := HM.out.at_.froz (2 + i * 5 + 3) (by omega)
      have c4 := HM.out.at_.cell (2 + i * 5 + 4) (by omega)
      have f4 := HM.out.at_.froz (2 + i * 5 + 4) (by omega)
      have b3 := HC.out 3 (by omega) (by omega)
      have b4 := HC.out 4 (by omega) (by omega)
      refine wp_region_lexN ⟨[45], []⟩ (fun n x => if n = 0 then x.cell? ⟨b, 2 + i * 5 + 3, none⟩ = some (.int .i64 (R1 (2 + i * 5 + 3))) ∧ x.cell? ⟨b, 2 + i * 5 + 4, none⟩ = some (.int .i64 (R1 (2 + i * 5 + 4))) else True) (by kernel_rfl) (by kernel_rfl) (by rw [if_pos rfl]; exact ⟨c3, c4⟩) ?_
      intro S hto hof hne
      have hto0 : ∀ z : Wd (upS S 0), z.w.cell? ⟨b, 2 + i * 5 + 3, none⟩ = some (.int .i64 (R1 (2 + i * 5 + 3))) ∧ z.w.cell? ⟨b, 2 + i * 5 + 4, none⟩ = some (.int .i64 (R1 (2 + i * 5 + 4))) := fun z => by
        obtain ⟨m, hm, hx⟩ := hto 0 z
        obtain rfl : m = 0 := by omega
        rw [if_pos rfl] at hx
        exact hx
      have y3 : ∀ z : Wd (upS S 0), z.w.cell? ⟨b, 2 + i * 5 + 3, none⟩ = some (.int .i64 (R1 (2 + i * 5 + 3))) := fun z => (hto0 z).1
      have y4 : ∀ z : Wd (upS S 0), z.w.cell? ⟨b, 2 + i * 5 + 4, none⟩ = some (.int .i64 (R1 (2 + i * 5 + 4))) := fun z => (hto0 z).2
      have Hof := Lib.hid hof
      have hne0 := hne 0
      have hne1 := hne 1
      clear hto hof hto0 hne
      refine lexM_light 1 0 (by kernel_rfl) (by kernel_rfl) ?_
      simp only [List.take_succ_cons, List.take_zero, List.drop_succ_cons, List.drop_zero]
      repeat (first | go_big_quiet_skip | (go_big_quiet_want; go_big_quiet_op; go_big_quiet_on))
      refine wpQuiet_nil ?_
      refine lexM_light 1 1 (by kernel_rfl) (by kernel_rfl) ?_
      simp only [List.take_succ_cons, List.take_zero, List.drop_succ_cons, List.drop_zero]
      repeat (first | go_big_quiet_skip | (go_big_quiet_want; go_big_quiet_op; go_big_quiet_on))
      refine wpQuiet_nil ?_
      refine lexM_light 4 0 (by kernel_rfl) (by kernel_rfl) ?_
      simp only [List.take_succ_cons, List.take_zero, List.drop_succ_cons, List.drop_zero]
      repeat (first | go_big_quiet_skip | (go_big_quiet_want; go_big_quiet_op; go_big_quiet_on))
      refine wpQuiet_nil ?_
      refine lexM_pure 0 (by kernel_rfl) (by kernel_rfl) (by rfl) rfl Tryd.func45 rfl (by kernel_rfl) (fun x => down_c (R1 (2 + i * 5 + 3)) x.w b3.1 b3.2) (by go_simp) ?_
      simp only [Act.put, List.setIfInBounds_toArray, List.set_cons_zero, List.set_cons_succ]
      refine lexM_light 4 0 (by kernel_rfl) (by kernel_rfl) ?_
      simp only [List.take_succ_cons, List.take_zero, List.drop_succ_cons, List.drop_zero]
      repeat (first | go_big_quiet_skip | (go_big_quiet_want; go_big_quiet_op; go_big_quiet_on))
      refine wpQuiet_nil ?_
      refine lexM_pure 0 (by kernel_rfl) (by kernel_rfl) (by rfl) rfl Tryd.func45 rfl (by kernel_rfl) (fun x => down_c (R1 (2 + i * 5 + 4)) x.w b4.1 b4.2) (by go_simp) ?_
      simp only [Act.put, List.setIfInBounds_toArray, List.set_cons_zero, List.set_cons_succ]
      refine lexM_light 2 0 (by kernel_rfl) (by kernel_rfl) ?_
      simp only [List.take_succ_cons, List.take_zero, List.drop_succ_cons, List.drop_zero]
      repeat (first | go_big_quiet_skip | (go_big_quiet_want; go_big_quiet_op; go_big_quiet_on))
      refine wpQuiet_nil ?_
      refine lexM_heavy (by kernel_rfl) ?_
      go_wp2_with fail
      refine lexMQ_more (Hof.out 1 _ (by rw [if_neg (by omega)]; trivial)) ?_
      refine lexM_light 2 1 (by kernel_rfl) (by kernel_rfl) ?_
      simp only [List.take_succ_cons, List.take_zero, List.drop_succ_cons, List.drop_zero]
      repeat (first | go_big_quiet_skip | (go_big_quiet_want; go_big_quiet_op; go_big_quiet_on))
      refine wpQuiet_nil ?_
      refine lexM_heavy (by kernel_rfl) ?_
      go_wp2_with fail
      refine lexMQ_more (Hof.out 2 _ (by rw [if_neg (by omega)]; trivial)) ?_
      refine lexM_done ?_
      clear y3 y4 Hof hne0 hne1
      have HS := Lib.hid ((HM.out.set (k := 2 + i * 5 + 3) (by omega) (cntF false (R1 (2 + i * 5 + 3)))).set (k := 2 + i * 5 + 4) (by omega) (cntF false (R1 (2 + i * 5 + 4)))).drew
      clear c3 f3 c4 f4 b3 b4 HM
      generalize ((w2.setCell ⟨b, 2 + i * 5 + 3, none⟩ (.int .i64 (cntF false (R1 (2 + i * 5 + 3))))).setCell ⟨b, 2 + i * 5 + 4, none⟩ (.int .i64 (cntF false (R1 (2 + i * 5 + 4))))).drew = w3 at *
      have HU := Lib.hid (HS.out.set (k := 2 + i * 5 + 1) (by omega) core)
      have c1 := HS.out.at_.cell (2 + i * 5 + 1) (by omega)
      have f1 := HS.out.at_.froz (2 + i * 5 + 1) (by omega)
      go_wp2_with fail
      go_ret
      rw [rwrC, ← HR1.out]
      exact ⟨rfl, HU.out.at_, HU.out.gr⟩


theorem rnote_bad (b : Nat) (line kind core holders : Int) (w : World) (h : ¬ (0 ≤ line ∧ line ≤ 31 ∧ 0 ≤ core ∧ core < 64 ∧ 0 ≤ holders)) :
    Calls Tryd.prog 32 #[.pointer (some ⟨b, 0, none⟩), .int .i64 line, .int .i64 kind, .int .i64 core, .int .i64 holders] w (fun e w' => e = .returned (.bool false) ∧ w = w') := by
  have ht : (decide (line < 0) || decide (32 ≤ line) || decide (core < 0) || decide (64 ≤ core) || decide (holders < 0)) = true := by
    simp only [Bool.or_eq_true, decide_eq_true_eq]
    omega
  go_enter Tryd.func32, Tryd.ntmps32
  go_upto_region 2 with fail
  all_goals
    go_wp2_with fail
    go_ret
    exact ⟨rfl, rfl⟩
theorem rnote_none (b : Nat) (line kind core holders : Int) (w : World) (h0 : 0 ≤ line) (h31 : line ≤ 31) (h3 : 0 ≤ core) (h4 : core < 64) (h5 : 0 ≤ holders) (k1 : (kind == 1) = false) (k2 : (kind == 2) = false) (k3 : (kind == 3) = false) :
    Calls Tryd.prog 32 #[.pointer (some ⟨b, 0, none⟩), .int .i64 line, .int .i64 kind, .int .i64 core, .int .i64 holders] w (fun e w' => e = .returned (.bool false) ∧ w = w') := by
  go_enter Tryd.func32, Tryd.ntmps32
  go_upto_region 4 with fail
  have hi8 : (line / 4).toNat < 8 := by omega
  generalize (line / 4).toNat = i at *
  go_wp2_with fail
  go_ret
  exact ⟨rfl, rfl⟩

end Go.Proofs.YtaecihljgbjmcaaDoor
