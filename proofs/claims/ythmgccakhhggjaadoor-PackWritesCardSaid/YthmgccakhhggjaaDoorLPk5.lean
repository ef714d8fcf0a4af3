/- PackIn: true; no condition but what a start gives. -/
import Derived.Test.YthmgccakhhggjaaDoorLPk3
import Derived.Test.YthmgccakhhggjaaDoorWin2
import Derived.Test.YthmgccakhhggjaaDoorInts2
namespace Go.Proofs.YthmgccakhhggjaaDoor
open Go.RowKit Go.Extern.Stop Go.Stop Go.Extern

/-- The bytes of the first k numbers. -/
def cat (g : Nat → Int) : Nat → List Nat
  | 0 => []
  | k + 1 => cat g k ++ enc (zig (g k))
def lens (g : Nat → Int) (k : Nat) : List Value := (List.range k).map fun i => .int .i64 ((cat g i).length : Int)
theorem lens_length (g : Nat → Int) (k : Nat) : (lens g k).length = k := by simp [lens]
theorem lens_next (g : Nat → Int) (k : Nat) : lens g (k + 1) = lens g k ++ [.int .i64 ((cat g k).length : Int)] := by simp [lens, List.range_succ]
theorem lens_at (g : Nat → Int) {k i : Nat} (h : i < k) : (lens g k)[i]? = some (.int .i64 ((cat g i).length : Int)) := by simp [lens, h]
theorem cat_len (g : Nat → Int) : ∀ (k : Nat), (∀ i, i < k → -9223372036854775808 ≤ g i ∧ g i ≤ 9223372036854775807) → (cat g k).length ≤ 10 * k
  | 0, _ => by simp [cat]
  | k + 1, h => by
    have h1 := cat_len g k fun i hi => h i (by omega)
    have h2 := enc_len10 (zig_lt (h k (by omega)))
    simp only [cat, List.length_append]
    omega
theorem cat_byt (g : Nat → Int) : ∀ (k : Nat), ∀ c ∈ cat g k, c < 256
  | 0, c, h => by simp [cat] at h
  | k + 1, c, h => by
    simp only [cat] at h
    rcases List.mem_append.1 h with h | h
    · exact cat_byt g k c h
    · exact enc_byt _ c h
theorem cat_split (g : Nat → Int) (i : Nat) : ∀ (d : Nat), ∃ r, cat g (i + d) = cat g i ++ r
  | 0 => ⟨[], by simp⟩
  | d + 1 => by
    obtain ⟨r, hr⟩ := cat_split g i d
    exact ⟨r ++ enc (zig (g (i + d))), by rw [← Nat.add_assoc, cat, hr, List.append_assoc]⟩
theorem cat_nxt (g : Nat → Int) {i M : Nat} (h : i < M) (hb : -9223372036854775808 ≤ g i ∧ g i ≤ 9223372036854775807) : nxt (cat g M) (cat g i).length = (g i, (cat g (i + 1)).length, .nil) := by
  obtain ⟨r, hr⟩ := cat_split g (i + 1) (M - (i + 1))
  rw [show i + 1 + (M - (i + 1)) = M by omega] at hr
  rw [hr, cat, List.append_assoc, nxt_enc hb, List.length_append]
theorem slc_one (w : World) (u : Value) (T : TypeId) : slc (w.alloc (.cells #[u] T)) 1 (.slice (some ⟨w.heap.size, 0, none⟩) 1 1) 1 [u] :=
  ⟨rfl, _, _, rfl, fun _ => ⟨w.heap.size, 0, rfl, by simp, fun j x hj => by
    rw [Nat.zero_add, World.cell?_alloc_new]
    simpa using hj⟩⟩
theorem winRow.other {w : World} {b1 b2 s1 s2 n1 n2 : Nat} {e1 e2 : TypeId} {v1 v2 : Value} {x1 x2 : List Value} (h1 : winRow w b1 e1 s1 v1 n1 x1) (h2 : winRow w b2 e2 s2 v2 n2 x2) (hne : e1 ≠ e2) : ∀ q, v1.ownBlock = some q → v2.ownBlock ≠ some q := by
  intro q hq hq2
  rcases h1.2 with ⟨rfl, _⟩ | ⟨g, off, cap, cur, rfl, _, hg, _⟩
  · cases hq
  · rcases h2.2 with ⟨rfl, _⟩ | ⟨g2, off2, cap2, cur2, rfl, _, hg2, _⟩
    · cases hq2
    · simp only [Value.ownBlock, Option.some.injEq] at hq hq2
      subst hq
      subst hq2
      rw [hg] at hg2
      simp only [Option.some.injEq, Obj.cells.injEq] at hg2
      exact hne hg2.2.1
theorem nInfoI : (Tryd.prog.info? 3).map (fun i => (i.zero, i.size, i.bytes)) = some (some (.int .i64 0), 1, 8) := by kernel_rfl

set_option maxRecDepth 100000 in
set_option maxHeartbeats 16000000 in
theorem packIn (A : Nat → Addr) (v : Value) (n : Nat) (g : Nat → Int) (lo hi : Int) (w : World) (hs : SentAt w A) (ha : IntsC w v n g) (_ : -9223372036854775808 ≤ lo ∧ lo ≤ 9223372036854775807) (_ : -9223372036854775808 ≤ hi ∧ hi ≤ 9223372036854775807) :
    Calls Tryd.prog 10 #[v, .int .i64 lo, .int .i64 hi] w (TruePost w) := by
  obtain ⟨i0, hi0, hi1⟩ := Option.map_eq_some_iff.1 nInfoI
  simp only [Prod.mk.injEq] at hi1
  obtain ⟨hz0, hz1, hz2⟩ := hi1
  have HI := Lib.hid hi0
  have HZ0 := Lib.hid hz0
  have HZ1 := Lib.hid hz1
  have HZ2 := Lib.hid hz2
  clear hi0 hz0 hz1 hz2
  have HS := Lib.hid hs
  have HBD := Lib.hid fun i (h : i < n) => Go.bounds_i64 (ha.row.num i h)
  obtain ⟨pa, capa, rfl, hel⟩ := ha.row.form
  have hcap := ha.cap _ _ _ rfl
  have HEL := Lib.hid hel
  have HMAX := Lib.hid ha.row.len
  clear hs ha hel
  by_cases hn20 : 20 < n
  · have g1 : decide ((n : Int) > 20) = true := by simp; omega
    have g2 : (20 : Nat) ≤ capa := by omega
    have HNM := Lib.hid (show 20 ≤ n by omega)
    have HM := Lib.hid (show 20 ≤ 20 by omega)
    clear hn20 hcap
    go_enter Tryd.func10, Tryd.ntmps10
    go_wp2_with fail
    go_loopw [7, 8, 9] (fun s7 s8 s9 wr => ∃ k : Nat, k ≤ 20 ∧ s9 = .int .i64 k ∧ winRow wr w.heap.size 5 1 s7 (cat g k).length (byteV (cat g k)) ∧ winRow wr w.heap.size 3 1 s8 k (lens g k) ∧ Below w.heap.size w wr) (fun _ _ s9 _ => 20 - (intOf s9).toNat)
    case atStart => exact ⟨0, by omega, rfl, winRow_nil .., winRow_nil .., Below.refl _ _⟩
    case round =>
      obtain ⟨k, hk, rfl, h7, h8, hB⟩ := hrel
      clear g1 g2
      have H7 := Lib.hid h7
      have H8 := Lib.hid h8
      have HB := Lib.hid hB
      obtain ⟨ad7, cap7, rfl⟩ := h7.len
      obtain ⟨ad8, cap8, rfl⟩ := h8.len
      clear h7 h8 hB
      by_cases hkm : k < 20
      · have g3 : decide ((k : Int) < 20) = true := by simp; omega
        obtain ⟨bq, oq, rfl, hbq, hcq⟩ := HEL.out k (by have := HNM.out; omega)
        have HBQ := Lib.hid hbq
        have HCQ := Lib.hid hcq
        have HKM := Lib.hid hkm
        have hk20 : k < 20 := by have := HM.out; omega
        have HBK := Lib.hid (HBD.out k (by have := HNM.out; omega))
        have HCL := Lib.hid (cat_len g k fun i hi => HBD.out i (by have := HNM.out; omega))
        clear hcq hbq hk
        generalize hc : (cat g k).length = c at *
        have HC := Lib.hid hc
        clear hc
        go_wp2_with (at_builtin; refine wpList_append_slc _ rfl _ _ 34 rfl w.heap.size 3 i0 (.int .i64 0) 1 8 Tryd.underlying34 HI.out HZ0.out HZ1.out HZ2.out rfl (by decide) _ _ _ rfl (H8.out.below ((Below.refl _ _).alloc (Nat.le_refl _) _)) _ 1 [.int .i64 (c : Int)] rfl (slc_one _ _ _) (by simp [Value.oneCell']) (by have := HKM.out; have := HM.out; unfold maxLen; omega) (by have := HKM.out; have := HM.out; omega) (by have := HB.out.size; simp; omega) ?_; intro v1 w1 hrow1 hgrow1 hown1; have hB1 : Below w.heap.size w w1 := (HB.out.alloc HB.out.size _).grown hgrow1 (by have := HB.out.size; simp; omega) fun q hq => (H8.out.lt q hq).1; have HB1 := Lib.hid hB1; have H71 := Lib.hid (H7.out.keep (w' := w1) fun q hq => (hgrow1.block q (by have := (H7.out.lt q hq).2; simp; omega) fun e => H7.out.other H8.out (by decide) q hq e.symm).trans (heap_alloc_old _ _ (H7.out.lt q hq).2)); have H81 := Lib.hid hrow1; obtain ⟨ad81, cap81, rfl⟩ := hrow1.len; have e1 := (HB1.out.cell (p := ⟨bq, oq + k, none⟩) HBQ.out).trans HCQ.out; clear hrow1 hgrow1 hown1 hB1)
        refine (num_c _ (cat g k) (g k) w1 (HC.out.symm ▸ H71.out.slc) HBK.out (by have := HC.out; have := HCL.out; have := HM.out; omega)).mono ?_
        rintro ev w2 ⟨u2, rfl, hu2, hb2⟩
        have HB2 := Lib.hid (HB1.out.trans (hb2.mono HB1.out.size))
        have H82 := Lib.hid (H81.out.below hb2)
        have H72 := Lib.hid (hu2.base_le fun q hq => Nat.le_trans HB1.out.size (hu2.lt q hq).1)
        obtain ⟨ad2, cap2, rfl⟩ := hu2.len
        clear hu2 hb2 e1
        go_wp2_with fail
        go_roundw
        case rel =>
          have h20 := HM.out
          have hkM := HKM.out
          refine ⟨k + 1, by omega, by go_num, ?_, ?_, HB2.out⟩
          · simp only [cat, List.length_append]
            exact H72.out
          · have h := H82.out
            rw [lens_next, HC.out]
            exact h
        case measure =>
          have h20 := HM.out
          have hkM := HKM.out
          simp [intOf]
          omega
      · have hkM : k = 20 := by omega
        have g3 : decide ((k : Int) < 20) = false := by simp; omega
        have HKM := Lib.hid hkM
        have HCL := Lib.hid (cat_len g k fun i hi => HBD.out i (by have := HNM.out; omega))
        clear hkm hk hkM
        go_wp2_with fail
        rename World => wm
        clear g3
        refine (read_c A _ (cat g k) wm H7.out.slc (by have := HCL.out; have := HKM.out; have := HM.out; omega) (cat_byt g k)).mono ?_
        rintro ev w3 ⟨b, vr, rfl, hR3, hb3, ho3, hB3⟩
        have HR3 := Lib.hid hR3
        have HBM := Lib.hid hB3
        have HLT := Lib.hid hb3
        clear hR3 hb3 ho3 hB3
        go_wp2_with fail
        go_loopw [11] (fun s11 wr => ∃ i : Nat, i ≤ k ∧ s11 = .int .i64 i ∧ RdAt wr A b vr (cat g k) (cat g i).length .nil ∧ Below wm.heap.size wm wr) (fun s11 _ => k - (intOf s11).toNat)
        case atStart => exact ⟨0, by omega, rfl, HR3.out, HBM.out⟩
        case round =>
          clear HR3 HBM
          obtain ⟨i, hi2, rfl, hrd, hBr⟩ := hrel
          have HRD := Lib.hid hrd
          have HBR := Lib.hid hBr
          have HBW := Lib.hid (HB.out.trans (hBr.mono HB.out.size))
          clear hrd hBr
          by_cases hik : i < k
          · have g3 : decide ((i : Int) < 20) = true := by have := HKM.out; simp; omega
            obtain ⟨bq, oq, rfl, hbq, hcq⟩ := HEL.out i (by have := HNM.out; have := HKM.out; omega)
            have HBI := HBD.out i (by have := HNM.out; have := HKM.out; omega)
            have hnx := cat_nxt g hik HBI
            have HBQ := Lib.hid hbq
            have HCQ := Lib.hid hcq
            have HIK := Lib.hid hik
            have hiM : i < 20 := by have := HKM.out; omega
            have hi20 : i < 20 := by have := HM.out; omega
            clear hbq hcq hik hi2 HBI
            by_cases h1 : lo ≤ g i
            · by_cases h2 : g i ≤ hi
              · have hst : stepR (cat g k) (cat g i).length .nil (inOk lo hi) = (g i, (cat g (i + 1)).length, .nil) := by simp [stepR, ErrT.isNil, hnx, inOk, h1, h2]
                have g4 : decide (g i < lo) = false := by simp; omega
                have g5 : decide (g i > hi) = false := by simp; omega
                have g6 : (g i != g i) = false := by simp
                have HST := Lib.hid hst
                clear hst hnx h1 h2
                go_wp2_with fail
                refine (rin_c A b vr (cat g k) (cat g i).length .nil lo hi wr (HS.out.below HBW.out) HRD.out).mono ?_
                rintro ev w4 ⟨rfl, hR4, hM4⟩
                rw [HST.out] at hR4 ⊢
                simp only at hR4 ⊢
                have HR4 := Lib.hid hR4
                have HB4 := Lib.hid (HBR.out.trans (hM4.onlyB HLT.out HRD.out.lt))
                have HW4 := Lib.hid (HB.out.trans (HB4.out.mono HB.out.size))
                have e1 := (HW4.out.cell (p := ⟨bq, oq + i, none⟩) HBQ.out).trans HCQ.out
                clear hR4 hM4
                go_wp2_with fail
                refine (wrong_c A b vr _ _ .nil w4 HR4.out).mono ?_
                rintro ev w' ⟨rfl, hww⟩
                obtain rfl := hww
                rw [show ErrT.nil.val A = .nilIface from rfl]
                go_wp2_with fail
                go_roundw
                case rel =>
                  have h20 := HM.out
                  have hkM := HKM.out
                  have hik := HIK.out
                  exact ⟨i + 1, by omega, by go_num, HR4.out, HB4.out⟩
                case measure =>
                  have h20 := HM.out
                  have hkM := HKM.out
                  have hik := HIK.out
                  simp [intOf]
                  omega
              · have hst : stepR (cat g k) (cat g i).length .nil (inOk lo hi) = (0, (cat g i).length, .wrap prT (cat g i).length (.sent 3)) := by
                  have : inOk lo hi (g i) = false := by simp [inOk]; omega
                  simp [stepR, ErrT.isNil, hnx, this]
                have g4 : decide (g i < lo) = false := by simp; omega
                have g5 : decide (g i > hi) = true := by simp; omega
                have HST := Lib.hid hst
                clear hst hnx h1 h2
                go_wp2_with fail
                refine (rin_c A b vr (cat g k) (cat g i).length .nil lo hi wr (HS.out.below HBW.out) HRD.out).mono ?_
                rintro ev w4 ⟨rfl, hR4, hM4⟩
                rw [HST.out] at hR4 ⊢
                simp only at hR4 ⊢
                have HR4 := Lib.hid hR4
                have HB4 := Lib.hid (HBR.out.trans (hM4.onlyB HLT.out HRD.out.lt))
                have HW4 := Lib.hid (HB.out.trans (HB4.out.mono HB.out.size))
                have e1 := (HW4.out.cell (p := ⟨bq, oq + i, none⟩) HBQ.out).trans HCQ.out
                clear hR4 hM4
                go_wp2_with fail
                have hik := HIK.out
                obtain ⟨g8, o8, c8, he8, _, _, hg8, hc8⟩ := H8.out.form (by have := HIK.out; omega)
                simp only [Value.slice.injEq, true_and] at he8
                obtain ⟨rfl, rfl⟩ := he8
                have hx8 := hc8 i _ (lens_at g HIK.out)
                have e8 := (HB4.out.cell (p := ⟨g8, o8 + i, none⟩) hg8).trans hx8
                have hl8 := Nat.lt_of_lt_of_le hg8 HB4.out.size
                have hlq := Nat.lt_of_lt_of_le HBQ.out HW4.out.size
                have g7 : (((cat g i).length : Int) == ((cat g i).length : Int)) = true := by simp
                have HISK := Lib.hid (show isK (.wrap prT ((cat g i).length : Int) (.sent 3)) 4 prT ((cat g i).length : Int) = true by simp [isK, ErrT.code])
                clear hc8 hx8 hg8
                generalize (cat g i).length = c at *
                refine wp_region_lexA ⟨[], []⟩ (fun x => Below w4.heap.size w4 x) (by kernel_rfl) (by kernel_rfl) (Below.refl _ _).drew ?_
                intro S hto hof hne
                have x8 : ∀ z : Wd S, z.w.cell? ⟨g8, o8 + i, none⟩ = some (.int .i64 (c : Int)) := fun z => ((hto z).cell (p := ⟨g8, o8 + i, none⟩) hl8).trans e8
                have Hof := Lib.hid hof
                clear hto hof e8 e1
                refine lexW_light 4 (by kernel_rfl) ?_
                simp only [List.take_succ_cons, List.take_zero, List.drop_succ_cons, List.drop_zero]
                repeat (first | go_big_quiet_skip | (go_big_quiet_want; go_big_quiet_op; go_big_quiet_on))
                refine wpQuiet_nil ?_
                refine lexW_heavy (by kernel_rfl) ?_
                go_wp2_with fail
                refine (at_c A b vr _ _ _ _ (HR4.out.below (Below.refl _ _).drew)).mono ?_
                rintro ev w' ⟨rfl, hww⟩
                obtain rfl := hww
                go_wp2_with fail
                refine lexQ_more (Hof.out _ (Below.refl _ _).drew) ?_
                refine lexW_light 8 (by kernel_rfl) ?_
                simp only [List.take_succ_cons, List.take_zero, List.drop_succ_cons, List.drop_zero]
                repeat (first | go_big_quiet_skip | (go_big_quiet_want; go_big_quiet_op; go_big_quiet_on))
                refine wpQuiet_nil ?_
                refine lexW_heavy (by kernel_rfl) ?_
                go_wp2_with fail
                refine (wrong_c A b vr _ _ _ _ (HR4.out.below (Below.refl _ _).drew)).mono ?_
                rintro ev w' ⟨rfl, hww⟩
                obtain rfl := hww
                rw [show (ErrT.wrap prT (c : Int) (.sent 3)).val A = .iface 61 (.agg #[.string prT, .int .i64 c, .iface 97 (.pointer (some (A 3)))]) from rfl]
                go_wp2_with fail
                refine lexQ_more (Hof.out _ (Below.refl _ _).drew) ?_
                refine lexW_light 4 (by kernel_rfl) ?_
                simp only [List.take_succ_cons, List.take_zero, List.drop_succ_cons, List.drop_zero]
                repeat (first | go_big_quiet_skip | (go_big_quiet_want; go_big_quiet_op; go_big_quiet_on))
                refine wpQuiet_nil ?_
                refine lexW_heavy (by kernel_rfl) ?_
                go_wp2_with fail
                change Calls Tryd.prog _ #[(ErrT.wrap prT (c : Int) (.sent 3)).val A, _, _, _] _ _
                refine (is_c A (.wrap prT c (.sent 3)) 4 prT c _ (HS.out.below HW4.out.drew) ⟨rfl, show (3 : Nat) < 10 by omega⟩ (by omega) (by omega)).mono ?_
                rintro ev w13 ⟨rfl, hb13⟩
                rw [HISK.out]
                have HB13 := Lib.hid ((Below.refl w4.heap.size w4).drew.trans hb13)
                clear hb13
                go_wp2_with fail
                refine lexQ_more (Hof.out _ HB13.out) ?_
                clear x8
                refine lexW_light 2 (by kernel_rfl) ?_
                simp only [List.take_succ_cons, List.take_zero, List.drop_succ_cons, List.drop_zero]
                repeat (first | go_big_quiet_skip | (go_big_quiet_want; go_big_quiet_op; go_big_quiet_on))
                refine wpQuiet_nil ?_
                refine lexW_heavy (by kernel_rfl) ?_
                go_wp2_with fail
                refine (packRuns A _ (HS.out.below (HW4.out.trans (HB13.out.mono HW4.out.size)))).mono ?_
                rintro ev w14 ⟨rfl, hb14⟩
                have HB14 := Lib.hid (HB13.out.trans (hb14.mono HB13.out.size))
                clear hb14
                go_wp2_with fail
                refine lexQ_more (Hof.out _ HB14.out) ?_
                refine lexW_light 2 (by kernel_rfl) ?_
                simp only [List.take_succ_cons, List.take_zero, List.drop_succ_cons, List.drop_zero]
                repeat (first | go_big_quiet_skip | (go_big_quiet_want; go_big_quiet_op; go_big_quiet_on))
                refine wpQuiet_nil ?_
                refine lexW_done ?_
                go_wp2_with fail
                go_ret
                exact ⟨rfl, HW4.out.trans (HB14.out.mono HW4.out.size)⟩
            · have hst : stepR (cat g k) (cat g i).length .nil (inOk lo hi) = (0, (cat g i).length, .wrap prT (cat g i).length (.sent 3)) := by
                have : inOk lo hi (g i) = false := by simp [inOk]; omega
                simp [stepR, ErrT.isNil, hnx, this]
              have g4 : decide (g i < lo) = true := by simp; omega
              have HST := Lib.hid hst
              clear hst hnx h1
              go_wp2_with fail
              refine (rin_c A b vr (cat g k) (cat g i).length .nil lo hi wr (HS.out.below HBW.out) HRD.out).mono ?_
              rintro ev w4 ⟨rfl, hR4, hM4⟩
              rw [HST.out] at hR4 ⊢
              simp only at hR4 ⊢
              have HR4 := Lib.hid hR4
              have HB4 := Lib.hid (HBR.out.trans (hM4.onlyB HLT.out HRD.out.lt))
              have HW4 := Lib.hid (HB.out.trans (HB4.out.mono HB.out.size))
              have e1 := (HW4.out.cell (p := ⟨bq, oq + i, none⟩) HBQ.out).trans HCQ.out
              clear hR4 hM4
              go_wp2_with fail
              have hik := HIK.out
              obtain ⟨g8, o8, c8, he8, _, _, hg8, hc8⟩ := H8.out.form (by have := HIK.out; omega)
              simp only [Value.slice.injEq, true_and] at he8
              obtain ⟨rfl, rfl⟩ := he8
              have hx8 := hc8 i _ (lens_at g HIK.out)
              have e8 := (HB4.out.cell (p := ⟨g8, o8 + i, none⟩) hg8).trans hx8
              have hl8 := Nat.lt_of_lt_of_le hg8 HB4.out.size
              have hlq := Nat.lt_of_lt_of_le HBQ.out HW4.out.size
              have g7 : (((cat g i).length : Int) == ((cat g i).length : Int)) = true := by simp
              have HISK := Lib.hid (show isK (.wrap prT ((cat g i).length : Int) (.sent 3)) 4 prT ((cat g i).length : Int) = true by simp [isK, ErrT.code])
              clear hc8 hx8 hg8
              generalize (cat g i).length = c at *
              refine wp_region_lexA ⟨[], []⟩ (fun x => Below w4.heap.size w4 x) (by kernel_rfl) (by kernel_rfl) (Below.refl _ _).drew ?_
              intro S hto hof hne
              have x8 : ∀ z : Wd S, z.w.cell? ⟨g8, o8 + i, none⟩ = some (.int .i64 (c : Int)) := fun z => ((hto z).cell (p := ⟨g8, o8 + i, none⟩) hl8).trans e8
              have Hof := Lib.hid hof
              clear hto hof e8 e1
              refine lexW_light 4 (by kernel_rfl) ?_
              simp only [List.take_succ_cons, List.take_zero, List.drop_succ_cons, List.drop_zero]
              repeat (first | go_big_quiet_skip | (go_big_quiet_want; go_big_quiet_op; go_big_quiet_on))
              refine wpQuiet_nil ?_
              refine lexW_heavy (by kernel_rfl) ?_
              go_wp2_with fail
              refine (at_c A b vr _ _ _ _ (HR4.out.below (Below.refl _ _).drew)).mono ?_
              rintro ev w' ⟨rfl, hww⟩
              obtain rfl := hww
              go_wp2_with fail
              refine lexQ_more (Hof.out _ (Below.refl _ _).drew) ?_
              refine lexW_light 8 (by kernel_rfl) ?_
              simp only [List.take_succ_cons, List.take_zero, List.drop_succ_cons, List.drop_zero]
              repeat (first | go_big_quiet_skip | (go_big_quiet_want; go_big_quiet_op; go_big_quiet_on))
              refine wpQuiet_nil ?_
              refine lexW_heavy (by kernel_rfl) ?_
              go_wp2_with fail
              refine (wrong_c A b vr _ _ _ _ (HR4.out.below (Below.refl _ _).drew)).mono ?_
              rintro ev w' ⟨rfl, hww⟩
              obtain rfl := hww
              rw [show (ErrT.wrap prT (c : Int) (.sent 3)).val A = .iface 61 (.agg #[.string prT, .int .i64 c, .iface 97 (.pointer (some (A 3)))]) from rfl]
              go_wp2_with fail
              refine lexQ_more (Hof.out _ (Below.refl _ _).drew) ?_
              refine lexW_light 4 (by kernel_rfl) ?_
              simp only [List.take_succ_cons, List.take_zero, List.drop_succ_cons, List.drop_zero]
              repeat (first | go_big_quiet_skip | (go_big_quiet_want; go_big_quiet_op; go_big_quiet_on))
              refine wpQuiet_nil ?_
              refine lexW_heavy (by kernel_rfl) ?_
              go_wp2_with fail
              change Calls Tryd.prog _ #[(ErrT.wrap prT (c : Int) (.sent 3)).val A, _, _, _] _ _
              refine (is_c A (.wrap prT c (.sent 3)) 4 prT c _ (HS.out.below HW4.out.drew) ⟨rfl, show (3 : Nat) < 10 by omega⟩ (by omega) (by omega)).mono ?_
              rintro ev w13 ⟨rfl, hb13⟩
              rw [HISK.out]
              have HB13 := Lib.hid ((Below.refl w4.heap.size w4).drew.trans hb13)
              clear hb13
              go_wp2_with fail
              refine lexQ_more (Hof.out _ HB13.out) ?_
              clear x8
              refine lexW_light 2 (by kernel_rfl) ?_
              simp only [List.take_succ_cons, List.take_zero, List.drop_succ_cons, List.drop_zero]
              repeat (first | go_big_quiet_skip | (go_big_quiet_want; go_big_quiet_op; go_big_quiet_on))
              refine wpQuiet_nil ?_
              refine lexW_heavy (by kernel_rfl) ?_
              go_wp2_with fail
              refine (packRuns A _ (HS.out.below (HW4.out.trans (HB13.out.mono HW4.out.size)))).mono ?_
              rintro ev w14 ⟨rfl, hb14⟩
              have HB14 := Lib.hid (HB13.out.trans (hb14.mono HB13.out.size))
              clear hb14
              go_wp2_with fail
              refine lexQ_more (Hof.out _ HB14.out) ?_
              refine lexW_light 2 (by kernel_rfl) ?_
              simp only [List.take_succ_cons, List.take_zero, List.drop_succ_cons, List.drop_zero]
              repeat (first | go_big_quiet_skip | (go_big_quiet_want; go_big_quiet_op; go_big_quiet_on))
              refine wpQuiet_nil ?_
              refine lexW_done ?_
              go_wp2_with fail
              go_ret
              exact ⟨rfl, HW4.out.trans (HB14.out.mono HW4.out.size)⟩
          · obtain rfl : i = k := by omega
            have hend : endE (cat g i) (cat g i).length .nil = .nil := by simp [endE, ErrT.isNil]
            have g3 : decide ((i : Int) < 20) = false := by have := HKM.out; simp; omega
            have g4 : (((cat g i).length : Int) == ((cat g i).length : Int)) = true := by simp
            have HEND := Lib.hid hend
            clear hend hik
            go_wp2_with fail
            refine (rend_c A b vr (cat g i) (cat g i).length .nil wr (HS.out.below HBW.out) HRD.out).mono ?_
            rintro ev w5 ⟨rfl, hR5, hM5⟩
            rw [HEND.out] at hR5 ⊢
            rw [show ErrT.nil.val A = .nilIface from rfl]
            have HR5 := Lib.hid hR5
            have HB5 := Lib.hid (HBW.out.trans (hM5.onlyB (Nat.le_trans HB.out.size HLT.out) HRD.out.lt))
            clear hR5 hM5
            go_wp2_with fail
            refine (at_c A b vr _ _ .nil w5 HR5.out).mono ?_
            rintro ev w' ⟨rfl, hww⟩
            obtain rfl := hww
            go_wp2_with fail
            refine (packRuns A w5 (HS.out.below HB5.out)).mono ?_
            rintro ev w7 ⟨rfl, hb7⟩
            go_wp2_with fail
            go_ret
            exact ⟨rfl, HB5.out.trans (hb7.mono HB5.out.size)⟩
  · have g1 : decide ((n : Int) > 20) = false := by simp; omega
    have HNM := Lib.hid (show n ≤ n by omega)
    have HM := Lib.hid (show n ≤ 20 by omega)
    clear hn20 hcap
    go_enter Tryd.func10, Tryd.ntmps10
    go_wp2_with fail
    go_loopw [7, 8, 9] (fun s7 s8 s9 wr => ∃ k : Nat, k ≤ n ∧ s9 = .int .i64 k ∧ winRow wr w.heap.size 5 1 s7 (cat g k).length (byteV (cat g k)) ∧ winRow wr w.heap.size 3 1 s8 k (lens g k) ∧ Below w.heap.size w wr) (fun _ _ s9 _ => n - (intOf s9).toNat)
    case atStart => exact ⟨0, by omega, rfl, winRow_nil .., winRow_nil .., Below.refl _ _⟩
    case round =>
      obtain ⟨k, hk, rfl, h7, h8, hB⟩ := hrel
      clear g1
      have H7 := Lib.hid h7
      have H8 := Lib.hid h8
      have HB := Lib.hid hB
      obtain ⟨ad7, cap7, rfl⟩ := h7.len
      obtain ⟨ad8, cap8, rfl⟩ := h8.len
      clear h7 h8 hB
      by_cases hkm : k < n
      · have g3 : decide (k < n) = true := by simp; omega
        obtain ⟨bq, oq, rfl, hbq, hcq⟩ := HEL.out k (by have := HNM.out; omega)
        have HBQ := Lib.hid hbq
        have HCQ := Lib.hid hcq
        have HKM := Lib.hid hkm
        have hk20 : k < 20 := by have := HM.out; omega
        have HBK := Lib.hid (HBD.out k (by have := HNM.out; omega))
        have HCL := Lib.hid (cat_len g k fun i hi => HBD.out i (by have := HNM.out; omega))
        clear hcq hbq hk
        generalize hc : (cat g k).length = c at *
        have HC := Lib.hid hc
        clear hc
        go_wp2_with (at_builtin; refine wpList_append_slc _ rfl _ _ 34 rfl w.heap.size 3 i0 (.int .i64 0) 1 8 Tryd.underlying34 HI.out HZ0.out HZ1.out HZ2.out rfl (by decide) _ _ _ rfl (H8.out.below ((Below.refl _ _).alloc (Nat.le_refl _) _)) _ 1 [.int .i64 (c : Int)] rfl (slc_one _ _ _) (by simp [Value.oneCell']) (by have := HKM.out; have := HM.out; unfold maxLen; omega) (by have := HKM.out; have := HM.out; omega) (by have := HB.out.size; simp; omega) ?_; intro v1 w1 hrow1 hgrow1 hown1; have hB1 : Below w.heap.size w w1 := (HB.out.alloc HB.out.size _).grown hgrow1 (by have := HB.out.size; simp; omega) fun q hq => (H8.out.lt q hq).1; have HB1 := Lib.hid hB1; have H71 := Lib.hid (H7.out.keep (w' := w1) fun q hq => (hgrow1.block q (by have := (H7.out.lt q hq).2; simp; omega) fun e => H7.out.other H8.out (by decide) q hq e.symm).trans (heap_alloc_old _ _ (H7.out.lt q hq).2)); have H81 := Lib.hid hrow1; obtain ⟨ad81, cap81, rfl⟩ := hrow1.len; have e1 := (HB1.out.cell (p := ⟨bq, oq + k, none⟩) HBQ.out).trans HCQ.out; clear hrow1 hgrow1 hown1 hB1)
        refine (num_c _ (cat g k) (g k) w1 (HC.out.symm ▸ H71.out.slc) HBK.out (by have := HC.out; have := HCL.out; have := HM.out; omega)).mono ?_
        rintro ev w2 ⟨u2, rfl, hu2, hb2⟩
        have HB2 := Lib.hid (HB1.out.trans (hb2.mono HB1.out.size))
        have H82 := Lib.hid (H81.out.below hb2)
        have H72 := Lib.hid (hu2.base_le fun q hq => Nat.le_trans HB1.out.size (hu2.lt q hq).1)
        obtain ⟨ad2, cap2, rfl⟩ := hu2.len
        clear hu2 hb2 e1
        go_wp2_with fail
        go_roundw
        case rel =>
          have h20 := HM.out
          have hkM := HKM.out
          refine ⟨k + 1, by omega, by go_num, ?_, ?_, HB2.out⟩
          · simp only [cat, List.length_append]
            exact H72.out
          · have h := H82.out
            rw [lens_next, HC.out]
            exact h
        case measure =>
          have h20 := HM.out
          have hkM := HKM.out
          simp [intOf]
          omega
      · have hkM : k = n := by omega
        have g3 : decide (k < n) = false := by simp; omega
        have HKM := Lib.hid hkM
        have HCL := Lib.hid (cat_len g k fun i hi => HBD.out i (by have := HNM.out; omega))
        clear hkm hk hkM
        go_wp2_with fail
        rename World => wm
        clear g3
        refine (read_c A _ (cat g k) wm H7.out.slc (by have := HCL.out; have := HKM.out; have := HM.out; omega) (cat_byt g k)).mono ?_
        rintro ev w3 ⟨b, vr, rfl, hR3, hb3, ho3, hB3⟩
        have HR3 := Lib.hid hR3
        have HBM := Lib.hid hB3
        have HLT := Lib.hid hb3
        clear hR3 hb3 ho3 hB3
        go_wp2_with fail
        go_loopw [11] (fun s11 wr => ∃ i : Nat, i ≤ k ∧ s11 = .int .i64 i ∧ RdAt wr A b vr (cat g k) (cat g i).length .nil ∧ Below wm.heap.size wm wr) (fun s11 _ => k - (intOf s11).toNat)
        case atStart => exact ⟨0, by omega, rfl, HR3.out, HBM.out⟩
        case round =>
          clear HR3 HBM
          obtain ⟨i, hi2, rfl, hrd, hBr⟩ := hrel
          have HRD := Lib.hid hrd
          have HBR := Lib.hid hBr
          have HBW := Lib.hid (HB.out.trans (hBr.mono HB.out.size))
          clear hrd hBr
          by_cases hik : i < k
          · have g3 : decide (i < n) = true := by have := HKM.out; simp; omega
            obtain ⟨bq, oq, rfl, hbq, hcq⟩ := HEL.out i (by have := HNM.out; have := HKM.out; omega)
            have HBI := HBD.out i (by have := HNM.out; have := HKM.out; omega)
            have hnx := cat_nxt g hik HBI
            have HBQ := Lib.hid hbq
            have HCQ := Lib.hid hcq
            have HIK := Lib.hid hik
            have hiM : i < n := by have := HKM.out; omega
            have hi20 : i < 20 := by have := HM.out; omega
            clear hbq hcq hik hi2 HBI
            by_cases h1 : lo ≤ g i
            · by_cases h2 : g i ≤ hi
              · have hst : stepR (cat g k) (cat g i).length .nil (inOk lo hi) = (g i, (cat g (i + 1)).length, .nil) := by simp [stepR, ErrT.isNil, hnx, inOk, h1, h2]
                have g4 : decide (g i < lo) = false := by simp; omega
                have g5 : decide (g i > hi) = false := by simp; omega
                have g6 : (g i != g i) = false := by simp
                have HST := Lib.hid hst
                clear hst hnx h1 h2
                go_wp2_with fail
                refine (rin_c A b vr (cat g k) (cat g i).length .nil lo hi wr (HS.out.below HBW.out) HRD.out).mono ?_
                rintro ev w4 ⟨rfl, hR4, hM4⟩
                rw [HST.out] at hR4 ⊢
                simp only at hR4 ⊢
                have HR4 := Lib.hid hR4
                have HB4 := Lib.hid (HBR.out.trans (hM4.onlyB HLT.out HRD.out.lt))
                have HW4 := Lib.hid (HB.out.trans (HB4.out.mono HB.out.size))
                have e1 := (HW4.out.cell (p := ⟨bq, oq + i, none⟩) HBQ.out).trans HCQ.out
                clear hR4 hM4
                go_wp2_with fail
                refine (wrong_c A b vr _ _ .nil w4 HR4.out).mono ?_
                rintro ev w' ⟨rfl, hww⟩
                obtain rfl := hww
                rw [show ErrT.nil.val A = .nilIface from rfl]
                go_wp2_with fail
                go_roundw
                case rel =>
                  have h20 := HM.out
                  have hkM := HKM.out
                  have hik := HIK.out
                  exact ⟨i + 1, by omega, by go_num, HR4.out, HB4.out⟩
                case measure =>
                  have h20 := HM.out
                  have hkM := HKM.out
                  have hik := HIK.out
                  simp [intOf]
                  omega
              · have hst : stepR (cat g k) (cat g i).length .nil (inOk lo hi) = (0, (cat g i).length, .wrap prT (cat g i).length (.sent 3)) := by
                  have : inOk lo hi (g i) = false := by simp [inOk]; omega
                  simp [stepR, ErrT.isNil, hnx, this]
                have g4 : decide (g i < lo) = false := by simp; omega
                have g5 : decide (g i > hi) = true := by simp; omega
                have HST := Lib.hid hst
                clear hst hnx h1 h2
                go_wp2_with fail
                refine (rin_c A b vr (cat g k) (cat g i).length .nil lo hi wr (HS.out.below HBW.out) HRD.out).mono ?_
                rintro ev w4 ⟨rfl, hR4, hM4⟩
                rw [HST.out] at hR4 ⊢
                simp only at hR4 ⊢
                have HR4 := Lib.hid hR4
                have HB4 := Lib.hid (HBR.out.trans (hM4.onlyB HLT.out HRD.out.lt))
                have HW4 := Lib.hid (HB.out.trans (HB4.out.mono HB.out.size))
                have e1 := (HW4.out.cell (p := ⟨bq, oq + i, none⟩) HBQ.out).trans HCQ.out
                clear hR4 hM4
                go_wp2_with fail
                have hik := HIK.out
                obtain ⟨g8, o8, c8, he8, _, _, hg8, hc8⟩ := H8.out.form (by have := HIK.out; omega)
                simp only [Value.slice.injEq, true_and] at he8
                obtain ⟨rfl, rfl⟩ := he8
                have hx8 := hc8 i _ (lens_at g HIK.out)
                have e8 := (HB4.out.cell (p := ⟨g8, o8 + i, none⟩) hg8).trans hx8
                have hl8 := Nat.lt_of_lt_of_le hg8 HB4.out.size
                have hlq := Nat.lt_of_lt_of_le HBQ.out HW4.out.size
                have g7 : (((cat g i).length : Int) == ((cat g i).length : Int)) = true := by simp
                have HISK := Lib.hid (show isK (.wrap prT ((cat g i).length : Int) (.sent 3)) 4 prT ((cat g i).length : Int) = true by simp [isK, ErrT.code])
                clear hc8 hx8 hg8
                generalize (cat g i).length = c at *
                refine wp_region_lexA ⟨[], []⟩ (fun x => Below w4.heap.size w4 x) (by kernel_rfl) (by kernel_rfl) (Below.refl _ _).drew ?_
                intro S hto hof hne
                have x8 : ∀ z : Wd S, z.w.cell? ⟨g8, o8 + i, none⟩ = some (.int .i64 (c : Int)) := fun z => ((hto z).cell (p := ⟨g8, o8 + i, none⟩) hl8).trans e8
                have Hof := Lib.hid hof
                clear hto hof e8 e1
                refine lexW_light 4 (by kernel_rfl) ?_
                simp only [List.take_succ_cons, List.take_zero, List.drop_succ_cons, List.drop_zero]
                repeat (first | go_big_quiet_skip | (go_big_quiet_want; go_big_quiet_op; go_big_quiet_on))
                refine wpQuiet_nil ?_
                refine lexW_heavy (by kernel_rfl) ?_
                go_wp2_with fail
                refine (at_c A b vr _ _ _ _ (HR4.out.below (Below.refl _ _).drew)).mono ?_
                rintro ev w' ⟨rfl, hww⟩
                obtain rfl := hww
                go_wp2_with fail
                refine lexQ_more (Hof.out _ (Below.refl _ _).drew) ?_
                refine lexW_light 8 (by kernel_rfl) ?_
                simp only [List.take_succ_cons, List.take_zero, List.drop_succ_cons, List.drop_zero]
                repeat (first | go_big_quiet_skip | (go_big_quiet_want; go_big_quiet_op; go_big_quiet_on))
                refine wpQuiet_nil ?_
                refine lexW_heavy (by kernel_rfl) ?_
                go_wp2_with fail
                refine (wrong_c A b vr _ _ _ _ (HR4.out.below (Below.refl _ _).drew)).mono ?_
                rintro ev w' ⟨rfl, hww⟩
                obtain rfl := hww
                rw [show (ErrT.wrap prT (c : Int) (.sent 3)).val A = .iface 61 (.agg #[.string prT, .int .i64 c, .iface 97 (.pointer (some (A 3)))]) from rfl]
                go_wp2_with fail
                refine lexQ_more (Hof.out _ (Below.refl _ _).drew) ?_
                refine lexW_light 4 (by kernel_rfl) ?_
                simp only [List.take_succ_cons, List.take_zero, List.drop_succ_cons, List.drop_zero]
                repeat (first | go_big_quiet_skip | (go_big_quiet_want; go_big_quiet_op; go_big_quiet_on))
                refine wpQuiet_nil ?_
                refine lexW_heavy (by kernel_rfl) ?_
                go_wp2_with fail
                change Calls Tryd.prog _ #[(ErrT.wrap prT (c : Int) (.sent 3)).val A, _, _, _] _ _
                refine (is_c A (.wrap prT c (.sent 3)) 4 prT c _ (HS.out.below HW4.out.drew) ⟨rfl, show (3 : Nat) < 10 by omega⟩ (by omega) (by omega)).mono ?_
                rintro ev w13 ⟨rfl, hb13⟩
                rw [HISK.out]
                have HB13 := Lib.hid ((Below.refl w4.heap.size w4).drew.trans hb13)
                clear hb13
                go_wp2_with fail
                refine lexQ_more (Hof.out _ HB13.out) ?_
                clear x8
                refine lexW_light 2 (by kernel_rfl) ?_
                simp only [List.take_succ_cons, List.take_zero, List.drop_succ_cons, List.drop_zero]
                repeat (first | go_big_quiet_skip | (go_big_quiet_want; go_big_quiet_op; go_big_quiet_on))
                refine wpQuiet_nil ?_
                refine lexW_heavy (by kernel_rfl) ?_
                go_wp2_with fail
                refine (packRuns A _ (HS.out.below (HW4.out.trans (HB13.out.mono HW4.out.size)))).mono ?_
                rintro ev w14 ⟨rfl, hb14⟩
                have HB14 := Lib.hid (HB13.out.trans (hb14.mono HB13.out.size))
                clear hb14
                go_wp2_with fail
                refine lexQ_more (Hof.out _ HB14.out) ?_
                refine lexW_light 2 (by kernel_rfl) ?_
                simp only [List.take_succ_cons, List.take_zero, List.drop_succ_cons, List.drop_zero]
                repeat (first | go_big_quiet_skip | (go_big_quiet_want; go_big_quiet_op; go_big_quiet_on))
                refine wpQuiet_nil ?_
                refine lexW_done ?_
                go_wp2_with fail
                go_ret
                exact ⟨rfl, HW4.out.trans (HB14.out.mono HW4.out.size)⟩
            · have hst : stepR (cat g k) (cat g i).length .nil (inOk lo hi) = (0, (cat g i).length, .wrap prT (cat g i).length (.sent 3)) := by
                have : inOk lo hi (g i) = false := by simp [inOk]; omega
                simp [stepR, ErrT.isNil, hnx, this]
              have g4 : decide (g i < lo) = true := by simp; omega
              have HST := Lib.hid hst
              clear hst hnx h1
              go_wp2_with fail
              refine (rin_c A b vr (cat g k) (cat g i).length .nil lo hi wr (HS.out.below HBW.out) HRD.out).mono ?_
              rintro ev w4 ⟨rfl, hR4, hM4⟩
              rw [HST.out] at hR4 ⊢
              simp only at hR4 ⊢
              have HR4 := Lib.hid hR4
              have HB4 := Lib.hid (HBR.out.trans (hM4.onlyB HLT.out HRD.out.lt))
              have HW4 := Lib.hid (HB.out.trans (HB4.out.mono HB.out.size))
              have e1 := (HW4.out.cell (p := ⟨bq, oq + i, none⟩) HBQ.out).trans HCQ.out
              clear hR4 hM4
              go_wp2_with fail
              have hik := HIK.out
              obtain ⟨g8, o8, c8, he8, _, _, hg8, hc8⟩ := H8.out.form (by have := HIK.out; omega)
              simp only [Value.slice.injEq, true_and] at he8
              obtain ⟨rfl, rfl⟩ := he8
              have hx8 := hc8 i _ (lens_at g HIK.out)
              have e8 := (HB4.out.cell (p := ⟨g8, o8 + i, none⟩) hg8).trans hx8
              have hl8 := Nat.lt_of_lt_of_le hg8 HB4.out.size
              have hlq := Nat.lt_of_lt_of_le HBQ.out HW4.out.size
              have g7 : (((cat g i).length : Int) == ((cat g i).length : Int)) = true := by simp
              have HISK := Lib.hid (show isK (.wrap prT ((cat g i).length : Int) (.sent 3)) 4 prT ((cat g i).length : Int) = true by simp [isK, ErrT.code])
              clear hc8 hx8 hg8
              generalize (cat g i).length = c at *
              refine wp_region_lexA ⟨[], []⟩ (fun x => Below w4.heap.size w4 x) (by kernel_rfl) (by kernel_rfl) (Below.refl _ _).drew ?_
              intro S hto hof hne
              have x8 : ∀ z : Wd S, z.w.cell? ⟨g8, o8 + i, none⟩ = some (.int .i64 (c : Int)) := fun z => ((hto z).cell (p := ⟨g8, o8 + i, none⟩) hl8).trans e8
              have Hof := Lib.hid hof
              clear hto hof e8 e1
              refine lexW_light 4 (by kernel_rfl) ?_
              simp only [List.take_succ_cons, List.take_zero, List.drop_succ_cons, List.drop_zero]
              repeat (first | go_big_quiet_skip | (go_big_quiet_want; go_big_quiet_op; go_big_quiet_on))
              refine wpQuiet_nil ?_
              refine lexW_heavy (by kernel_rfl) ?_
              go_wp2_with fail
              refine (at_c A b vr _ _ _ _ (HR4.out.below (Below.refl _ _).drew)).mono ?_
              rintro ev w' ⟨rfl, hww⟩
              obtain rfl := hww
              go_wp2_with fail
              refine lexQ_more (Hof.out _ (Below.refl _ _).drew) ?_
              refine lexW_light 8 (by kernel_rfl) ?_
              simp only [List.take_succ_cons, List.take_zero, List.drop_succ_cons, List.drop_zero]
              repeat (first | go_big_quiet_skip | (go_big_quiet_want; go_big_quiet_op; go_big_quiet_on))
              refine wpQuiet_nil ?_
              refine lexW_heavy (by kernel_rfl) ?_
              go_wp2_with fail
              refine (wrong_c A b vr _ _ _ _ (HR4.out.below (Below.refl _ _).drew)).mono ?_
              rintro ev w' ⟨rfl, hww⟩
              obtain rfl := hww
              rw [show (ErrT.wrap prT (c : Int) (.sent 3)).val A = .iface 61 (.agg #[.string prT, .int .i64 c, .iface 97 (.pointer (some (A 3)))]) from rfl]
              go_wp2_with fail
              refine lexQ_more (Hof.out _ (Below.refl _ _).drew) ?_
              refine lexW_light 4 (by kernel_rfl) ?_
              simp only [List.take_succ_cons, List.take_zero, List.drop_succ_cons, List.drop_zero]
              repeat (first | go_big_quiet_skip | (go_big_quiet_want; go_big_quiet_op; go_big_quiet_on))
              refine wpQuiet_nil ?_
              refine lexW_heavy (by kernel_rfl) ?_
              go_wp2_with fail
              change Calls Tryd.prog _ #[(ErrT.wrap prT (c : Int) (.sent 3)).val A, _, _, _] _ _
              refine (is_c A (.wrap prT c (.sent 3)) 4 prT c _ (HS.out.below HW4.out.drew) ⟨rfl, show (3 : Nat) < 10 by omega⟩ (by omega) (by omega)).mono ?_
              rintro ev w13 ⟨rfl, hb13⟩
              rw [HISK.out]
              have HB13 := Lib.hid ((Below.refl w4.heap.size w4).drew.trans hb13)
              clear hb13
              go_wp2_with fail
              refine lexQ_more (Hof.out _ HB13.out) ?_
              clear x8
              refine lexW_light 2 (by kernel_rfl) ?_
              simp only [List.take_succ_cons, List.take_zero, List.drop_succ_cons, List.drop_zero]
              repeat (first | go_big_quiet_skip | (go_big_quiet_want; go_big_quiet_op; go_big_quiet_on))
              refine wpQuiet_nil ?_
              refine lexW_heavy (by kernel_rfl) ?_
              go_wp2_with fail
              refine (packRuns A _ (HS.out.below (HW4.out.trans (HB13.out.mono HW4.out.size)))).mono ?_
              rintro ev w14 ⟨rfl, hb14⟩
              have HB14 := Lib.hid (HB13.out.trans (hb14.mono HB13.out.size))
              clear hb14
              go_wp2_with fail
              refine lexQ_more (Hof.out _ HB14.out) ?_
              refine lexW_light 2 (by kernel_rfl) ?_
              simp only [List.take_succ_cons, List.take_zero, List.drop_succ_cons, List.drop_zero]
              repeat (first | go_big_quiet_skip | (go_big_quiet_want; go_big_quiet_op; go_big_quiet_on))
              refine wpQuiet_nil ?_
              refine lexW_done ?_
              go_wp2_with fail
              go_ret
              exact ⟨rfl, HW4.out.trans (HB14.out.mono HW4.out.size)⟩
          · obtain rfl : i = k := by omega
            have hend : endE (cat g i) (cat g i).length .nil = .nil := by simp [endE, ErrT.isNil]
            have g3 : decide (i < n) = false := by have := HKM.out; simp; omega
            have g4 : (((cat g i).length : Int) == ((cat g i).length : Int)) = true := by simp
            have HEND := Lib.hid hend
            clear hend hik
            go_wp2_with fail
            refine (rend_c A b vr (cat g i) (cat g i).length .nil wr (HS.out.below HBW.out) HRD.out).mono ?_
            rintro ev w5 ⟨rfl, hR5, hM5⟩
            rw [HEND.out] at hR5 ⊢
            rw [show ErrT.nil.val A = .nilIface from rfl]
            have HR5 := Lib.hid hR5
            have HB5 := Lib.hid (HBW.out.trans (hM5.onlyB (Nat.le_trans HB.out.size HLT.out) HRD.out.lt))
            clear hR5 hM5
            go_wp2_with fail
            refine (at_c A b vr _ _ .nil w5 HR5.out).mono ?_
            rintro ev w' ⟨rfl, hww⟩
            obtain rfl := hww
            go_wp2_with fail
            refine (packRuns A w5 (HS.out.below HB5.out)).mono ?_
            rintro ev w7 ⟨rfl, hb7⟩
            go_wp2_with fail
            go_ret
            exact ⟨rfl, HB5.out.trans (hb7.mono HB5.out.size)⟩

end Go.Proofs.YthmgccakhhggjaaDoor
