/- PackOne: true; no condition but what a start gives. -/
import Derived.Test.YthmgccakhhggjaaDoorLPk1
import Derived.Test.YthmgccakhhggjaaDoorPk5
namespace Go.Proofs.YthmgccakhhggjaaDoor
open Go.RowKit Go.Extern.Stop Go.Stop Go.Extern

theorem enc_byt : ∀ (u : Nat), ∀ c ∈ enc u, c < 256 := by
  intro u
  induction u using Nat.strongRecOn with
  | _ u ih =>
    intro c hc
    by_cases h : u < 128
    · rw [enc_small h] at hc
      simp at hc
      omega
    · rw [enc_more h, List.mem_cons] at hc
      rcases hc with rfl | hc
      · omega
      · exact ih (u / 128) (by omega) c hc
theorem nxt_enc {m : Int} (h : -9223372036854775808 ≤ m ∧ m ≤ 9223372036854775807) (l r : List Nat) : nxt (l ++ (enc (zig m) ++ r)) l.length = (m, l.length + (enc (zig m)).length, .nil) := by
  unfold nxt
  rw [List.drop_left, dec_zig h r]
  simp only [unzig_zig]

set_option maxRecDepth 100000 in
set_option maxHeartbeats 8000000 in
theorem packOne (A : Nat → Addr) (m n lo hi : Int) (w : World) (hs : SentAt w A) (bm : -9223372036854775808 ≤ m ∧ m ≤ 9223372036854775807) (bn : -9223372036854775808 ≤ n ∧ n ≤ 9223372036854775807) (_ : -9223372036854775808 ≤ lo ∧ lo ≤ 9223372036854775807) (_ : -9223372036854775808 ≤ hi ∧ hi ≤ 9223372036854775807) :
    Calls Tryd.prog 8 #[.int .i64 m, .int .i64 n, .int .i64 lo, .int .i64 hi] w (TruePost w) := by
  have HS := Lib.hid hs
  have HM := Lib.hid bm
  have HN := Lib.hid bn
  have hlen := enc_len10 (zig_lt bm)
  have hlen2 := enc_len10 (zig_lt bn)
  have hsame : decide (enc (zig m) = enc (zig n)) = (m == n) := by
    by_cases h : m = n
    · subst h
      simp
    · rw [decide_eq_false fun he => h (enc_zig_inj bm bn he)]
      simpa using h
  have HSAME := Lib.hid hsame
  have hnx := nxt_enc bm [] []
  simp only [List.nil_append, List.append_nil, List.length_nil, Nat.zero_add] at hnx
  have hstep : stepR (enc (zig m)) 0 .nil (inOk lo hi) = if inOk lo hi m then (m, (enc (zig m)).length, .nil) else (0, 0, .wrap prT 0 (.sent 3)) := by
    simp only [stepR, ErrT.isNil, hnx]
    cases inOk lo hi m <;> simp
  have HBY := Lib.hid (enc_byt (zig m))
  clear hs bm bn hsame hnx
  generalize hq : (m == n) = q at *
  have HLEN := Lib.hid hlen
  have HLEN2 := Lib.hid hlen2
  clear hlen hlen2
  by_cases h1 : lo ≤ m
  · by_cases h2 : m ≤ hi
    · rw [show inOk lo hi m = true by simp [inOk]; omega] at hstep
      rw [if_pos rfl] at hstep
      have HST := Lib.hid hstep
      have g1 : decide (m ≥ lo) = true := by simp; omega
      have g2 : decide (m ≤ hi) = true := by simp; omega
      clear hstep
      clear h1 h2
      go_enter Tryd.func8, Tryd.ntmps8
      go_wp2_with fail
      refine (num_c _ [] m w (slc_nilB w) HM.out (by simp)).mono ?_
      rintro ev w1 ⟨u1, rfl, hu1, hb1⟩
      simp only [List.nil_append, List.length_nil, Nat.zero_add] at hu1
      have HU1 := Lib.hid hu1.slc
      obtain ⟨ad1, cap1, rfl⟩ := hu1.len
      have HB1 := Lib.hid hb1
      clear hu1 hb1
      go_wp2_with fail
      refine (read_c A _ (enc (zig m)) w1 HU1.out (by have := HLEN.out; omega) HBY.out).mono ?_
      rintro ev w2 ⟨b2, v2, rfl, hR2, hb2, ho2, hB2⟩
      have HR2 := Lib.hid hR2
      have HB2 := Lib.hid (HB1.out.trans (hB2.mono HB1.out.size))
      have HLT := Lib.hid (Nat.le_trans HB1.out.size hb2)
      clear hR2 hb2 ho2 hB2
      go_wp2_with fail
      refine (rin_c A b2 v2 _ 0 .nil lo hi w2 (HS.out.below HB2.out) HR2.out).mono ?_
      rintro ev w3 ⟨rfl, hR3, hM3⟩
      rw [HST.out] at hR3 ⊢
      simp only at hR3 ⊢
      have HB3 := Lib.hid (HB2.out.trans (hM3.onlyB HLT.out HR2.out.lt))
      have HR3 := Lib.hid hR3
      clear hR3 hM3
      go_wp2_with fail
      refine (num_c _ [] m w3 (slc_nilB w3) HM.out (by simp)).mono ?_
      rintro ev w4 ⟨u4, rfl, hu4, hb4⟩
      simp only [List.nil_append, List.length_nil, Nat.zero_add] at hu4
      have HU4 := Lib.hid hu4.slc
      obtain ⟨ad4, cap4, rfl⟩ := hu4.len
      have HR4 := Lib.hid (HR3.out.below hb4)
      have HB4 := Lib.hid (HB3.out.trans (hb4.mono HB3.out.size))
      clear hu4 hb4
      go_wp2_with fail
      refine (num_c _ [] n w4 (slc_nilB w4) HN.out (by simp)).mono ?_
      rintro ev w5 ⟨u5, rfl, hu5, hb5⟩
      simp only [List.nil_append, List.length_nil, Nat.zero_add] at hu5
      have HU5 := Lib.hid hu5.slc
      obtain ⟨ad5, cap5, rfl⟩ := hu5.len
      have HU4' := Lib.hid (HU4.out.below hb5)
      have HR5 := Lib.hid (HR4.out.below hb5)
      have HB5 := Lib.hid (HB4.out.trans (hb5.mono HB4.out.size))
      clear hu5 hb5
      go_wp2_with fail
      refine (sameG_c (enc (zig m)) (enc (zig n)) _ _ w5 HU4'.out HU5.out (by have := HLEN.out; omega) (by have := HLEN2.out; omega)).mono ?_
      rintro ev w6 ⟨rfl, hb6⟩
      rw [HSAME.out]
      have HR6 := Lib.hid (HR5.out.below hb6)
      have HB6 := Lib.hid (HB5.out.trans (hb6.mono HB5.out.size))
      clear hb6
      have gq : (q == q) = true := by cases q <;> rfl
      go_wp2_with fail
      refine (wrong_c A b2 v2 _ _ _ w6 HR6.out).mono ?_
      rintro ev w' ⟨rfl, hww⟩
      obtain rfl := hww
      rw [show (ErrT.nil).val A = .nilIface from rfl]
      go_wp2_with fail
      refine (packRuns A w6 (HS.out.below HB6.out)).mono ?_
      rintro ev w7 ⟨rfl, hb7⟩
      go_wp2_with fail
      go_ret
      exact ⟨rfl, HB6.out.trans (hb7.mono HB6.out.size)⟩
    · rw [show inOk lo hi m = false by simp [inOk]; omega] at hstep
      rw [if_neg (by simp)] at hstep
      have HST := Lib.hid hstep
      have g1 : decide (m ≥ lo) = true := by simp; omega
      have g2 : decide (m ≤ hi) = false := by simp; omega
      clear hstep
      clear h1 h2
      go_enter Tryd.func8, Tryd.ntmps8
      go_wp2_with fail
      refine (num_c _ [] m w (slc_nilB w) HM.out (by simp)).mono ?_
      rintro ev w1 ⟨u1, rfl, hu1, hb1⟩
      simp only [List.nil_append, List.length_nil, Nat.zero_add] at hu1
      have HU1 := Lib.hid hu1.slc
      obtain ⟨ad1, cap1, rfl⟩ := hu1.len
      have HB1 := Lib.hid hb1
      clear hu1 hb1
      go_wp2_with fail
      refine (read_c A _ (enc (zig m)) w1 HU1.out (by have := HLEN.out; omega) HBY.out).mono ?_
      rintro ev w2 ⟨b2, v2, rfl, hR2, hb2, ho2, hB2⟩
      have HR2 := Lib.hid hR2
      have HB2 := Lib.hid (HB1.out.trans (hB2.mono HB1.out.size))
      have HLT := Lib.hid (Nat.le_trans HB1.out.size hb2)
      clear hR2 hb2 ho2 hB2
      go_wp2_with fail
      refine (rin_c A b2 v2 _ 0 .nil lo hi w2 (HS.out.below HB2.out) HR2.out).mono ?_
      rintro ev w3 ⟨rfl, hR3, hM3⟩
      rw [HST.out] at hR3 ⊢
      simp only at hR3 ⊢
      have HB3 := Lib.hid (HB2.out.trans (hM3.onlyB HLT.out HR2.out.lt))
      have HR3 := Lib.hid hR3
      clear hR3 hM3
      go_wp2_with fail
      refine (num_c _ [] m w3 (slc_nilB w3) HM.out (by simp)).mono ?_
      rintro ev w4 ⟨u4, rfl, hu4, hb4⟩
      simp only [List.nil_append, List.length_nil, Nat.zero_add] at hu4
      have HU4 := Lib.hid hu4.slc
      obtain ⟨ad4, cap4, rfl⟩ := hu4.len
      have HR4 := Lib.hid (HR3.out.below hb4)
      have HB4 := Lib.hid (HB3.out.trans (hb4.mono HB3.out.size))
      clear hu4 hb4
      go_wp2_with fail
      refine (num_c _ [] n w4 (slc_nilB w4) HN.out (by simp)).mono ?_
      rintro ev w5 ⟨u5, rfl, hu5, hb5⟩
      simp only [List.nil_append, List.length_nil, Nat.zero_add] at hu5
      have HU5 := Lib.hid hu5.slc
      obtain ⟨ad5, cap5, rfl⟩ := hu5.len
      have HU4' := Lib.hid (HU4.out.below hb5)
      have HR5 := Lib.hid (HR4.out.below hb5)
      have HB5 := Lib.hid (HB4.out.trans (hb5.mono HB4.out.size))
      clear hu5 hb5
      go_wp2_with fail
      refine (sameG_c (enc (zig m)) (enc (zig n)) _ _ w5 HU4'.out HU5.out (by have := HLEN.out; omega) (by have := HLEN2.out; omega)).mono ?_
      rintro ev w6 ⟨rfl, hb6⟩
      rw [HSAME.out]
      have HR6 := Lib.hid (HR5.out.below hb6)
      have HB6 := Lib.hid (HB5.out.trans (hb6.mono HB5.out.size))
      clear hb6
      have gq : (q == q) = true := by cases q <;> rfl
      go_wp2_with fail
      refine (wrong_c A b2 v2 _ _ _ w6 HR6.out).mono ?_
      rintro ev w' ⟨rfl, hww⟩
      obtain rfl := hww
      rw [show (ErrT.wrap prT 0 (.sent 3)).val A = .iface 61 (.agg #[.string prT, .int .i64 0, .iface 97 (.pointer (some (A 3)))]) from rfl]
      go_wp2_with fail
      refine (at_c A b2 v2 _ _ _ w6 HR6.out).mono ?_
      rintro ev w' ⟨rfl, hww⟩
      obtain rfl := hww
      go_wp2_with fail
      refine (packRuns A w6 (HS.out.below HB6.out)).mono ?_
      rintro ev w7 ⟨rfl, hb7⟩
      go_wp2_with fail
      go_ret
      exact ⟨rfl, HB6.out.trans (hb7.mono HB6.out.size)⟩
  · rw [show inOk lo hi m = false by simp [inOk]; omega] at hstep
    rw [if_neg (by simp)] at hstep
    have HST := Lib.hid hstep
    have g1 : decide (m ≥ lo) = false := by simp; omega
    clear hstep
    clear h1
    go_enter Tryd.func8, Tryd.ntmps8
    go_wp2_with fail
    refine (num_c _ [] m w (slc_nilB w) HM.out (by simp)).mono ?_
    rintro ev w1 ⟨u1, rfl, hu1, hb1⟩
    simp only [List.nil_append, List.length_nil, Nat.zero_add] at hu1
    have HU1 := Lib.hid hu1.slc
    obtain ⟨ad1, cap1, rfl⟩ := hu1.len
    have HB1 := Lib.hid hb1
    clear hu1 hb1
    go_wp2_with fail
    refine (read_c A _ (enc (zig m)) w1 HU1.out (by have := HLEN.out; omega) HBY.out).mono ?_
    rintro ev w2 ⟨b2, v2, rfl, hR2, hb2, ho2, hB2⟩
    have HR2 := Lib.hid hR2
    have HB2 := Lib.hid (HB1.out.trans (hB2.mono HB1.out.size))
    have HLT := Lib.hid (Nat.le_trans HB1.out.size hb2)
    clear hR2 hb2 ho2 hB2
    go_wp2_with fail
    refine (rin_c A b2 v2 _ 0 .nil lo hi w2 (HS.out.below HB2.out) HR2.out).mono ?_
    rintro ev w3 ⟨rfl, hR3, hM3⟩
    rw [HST.out] at hR3 ⊢
    simp only at hR3 ⊢
    have HB3 := Lib.hid (HB2.out.trans (hM3.onlyB HLT.out HR2.out.lt))
    have HR3 := Lib.hid hR3
    clear hR3 hM3
    go_wp2_with fail
    refine (num_c _ [] m w3 (slc_nilB w3) HM.out (by simp)).mono ?_
    rintro ev w4 ⟨u4, rfl, hu4, hb4⟩
    simp only [List.nil_append, List.length_nil, Nat.zero_add] at hu4
    have HU4 := Lib.hid hu4.slc
    obtain ⟨ad4, cap4, rfl⟩ := hu4.len
    have HR4 := Lib.hid (HR3.out.below hb4)
    have HB4 := Lib.hid (HB3.out.trans (hb4.mono HB3.out.size))
    clear hu4 hb4
    go_wp2_with fail
    refine (num_c _ [] n w4 (slc_nilB w4) HN.out (by simp)).mono ?_
    rintro ev w5 ⟨u5, rfl, hu5, hb5⟩
    simp only [List.nil_append, List.length_nil, Nat.zero_add] at hu5
    have HU5 := Lib.hid hu5.slc
    obtain ⟨ad5, cap5, rfl⟩ := hu5.len
    have HU4' := Lib.hid (HU4.out.below hb5)
    have HR5 := Lib.hid (HR4.out.below hb5)
    have HB5 := Lib.hid (HB4.out.trans (hb5.mono HB4.out.size))
    clear hu5 hb5
    go_wp2_with fail
    refine (sameG_c (enc (zig m)) (enc (zig n)) _ _ w5 HU4'.out HU5.out (by have := HLEN.out; omega) (by have := HLEN2.out; omega)).mono ?_
    rintro ev w6 ⟨rfl, hb6⟩
    rw [HSAME.out]
    have HR6 := Lib.hid (HR5.out.below hb6)
    have HB6 := Lib.hid (HB5.out.trans (hb6.mono HB5.out.size))
    clear hb6
    have gq : (q == q) = true := by cases q <;> rfl
    go_wp2_with fail
    refine (wrong_c A b2 v2 _ _ _ w6 HR6.out).mono ?_
    rintro ev w' ⟨rfl, hww⟩
    obtain rfl := hww
    rw [show (ErrT.wrap prT 0 (.sent 3)).val A = .iface 61 (.agg #[.string prT, .int .i64 0, .iface 97 (.pointer (some (A 3)))]) from rfl]
    go_wp2_with fail
    refine (at_c A b2 v2 _ _ _ w6 HR6.out).mono ?_
    rintro ev w' ⟨rfl, hww⟩
    obtain rfl := hww
    go_wp2_with fail
    refine (packRuns A w6 (HS.out.below HB6.out)).mono ?_
    rintro ev w7 ⟨rfl, hb7⟩
    go_wp2_with fail
    go_ret
    exact ⟨rfl, HB6.out.trans (hb7.mono HB6.out.size)⟩

end Go.Proofs.YthmgccakhhggjaaDoor
