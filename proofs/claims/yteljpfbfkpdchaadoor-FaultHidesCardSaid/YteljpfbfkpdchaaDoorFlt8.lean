/- FaultHides: true; no condition but what a start gives. -/
import Derived.Test.YteljpfbfkpdchaaDoorFlt6
import Derived.Test.YteljpfbfkpdchaaDoorBk
namespace Go.Proofs.YteljpfbfkpdchaaDoor
open Go.RowKit Go.Extern.Stop Go.Stop Go.Extern

theorem neq_same {W : World} {A : Nat → Addr} (j : Nat) :
    (binOp .neq 24 (.iface 120 (.pointer (some (A j)))) (.iface 120 (.pointer (some (A j))))).run Tryd.prog W = .ok (.bool false) W := by
  obtain ⟨i, hi, hcmp⟩ := Option.map_eq_some_iff.1 nIsComp
  obtain ⟨z, hz, _⟩ := Option.map_eq_some_iff.1 nIsSize
  simp only [binOp]
  simp [Op.equal, Op.maxDepth, run_equalIn_iface_ptr_same W 9998 (A j) Tryd.underlying24 Tryd.underlying120 hi hcmp hz]

set_option maxRecDepth 100000 in
set_option maxHeartbeats 8000000 in
theorem faultHides (A : Nat → Addr) (z0 z1 : Int) (op : ByteArray) (z3 z4 : Int) (w : World) (hs : SentAt w A) (b0 : -9223372036854775808 ≤ z0 ∧ z0 ≤ 9223372036854775807) (b1 : -9223372036854775808 ≤ z1 ∧ z1 ≤ 9223372036854775807) (_hop : op.size ≤ maxLen)
    (_b3 : -9223372036854775808 ≤ z3 ∧ z3 ≤ 9223372036854775807) (b4 : -9223372036854775808 ≤ z4 ∧ z4 ≤ 9223372036854775807) :
    Calls Tryd.prog 10 #[.int .i64 z0, .int .i64 z1, .string op, .int .i64 z3, .int .i64 z4] w (TruePost w) := by
  go_enter Tryd.func10, Tryd.ntmps10
  go_wp2_with fail
  refine (Within_b z0 1 10 _ (by omega) (by omega) (by omega) b0.1 b0.2).mono ?_
  rintro ev w' ⟨rfl, rfl⟩
  have hc := wiF_b (n := z0) (lo := 1) (hi := 10) (by omega)
  generalize wiF z0 1 10 = c at hc ⊢
  go_wp2_with fail
  refine (error_c A _ hs c hc.1 hc.2).mono ?_
  rintro ev w' ⟨rfl, hww⟩
  obtain rfl := hww.symm
  obtain ⟨j, hj⟩ : ∃ j, j = c.toNat - 1 := ⟨_, rfl⟩
  have hj10 : j < 10 := by omega
  rw [← hj]
  clear hj
  rw [show (ErrT.sent j).val A = .iface 120 (.pointer (some (A j))) from rfl]
  go_wp2_with fail
  refine (Within_b z1 1 10 _ (by omega) (by omega) (by omega) b1.1 b1.2).mono ?_
  rintro ev w' ⟨rfl, rfl⟩
  have hd := wiF_b (n := z1) (lo := 1) (hi := 10) (by omega)
  generalize wiF z1 1 10 = d at hd ⊢
  go_wp2_with fail
  refine (error_c A _ hs d hd.1 hd.2).mono ?_
  rintro ev w' ⟨rfl, hww⟩
  obtain rfl := hww.symm
  obtain ⟨k, hk⟩ : ∃ k, k = d.toNat - 1 := ⟨_, rfl⟩
  have hk10 : k < 10 := by omega
  rw [← hk]
  clear hk hc hd
  rw [show (ErrT.sent k).val A = .iface 120 (.pointer (some (A k))) from rfl]
  go_wp2_with fail
  refine (Within_b z4 0 9 _ (by omega) (by omega) (by omega) b4.1 b4.2).mono ?_
  rintro ev w' ⟨rfl, rfl⟩
  have hn := wiF_b (n := z4) (lo := 0) (hi := 9) (by omega)
  generalize wiF z4 0 9 = n at hn ⊢
  obtain ⟨n, rfl⟩ := Int.eq_ofNat_of_zero_le hn.1
  go_wp2_with fail
  go_loopw [13, 14] (fun s13 s14 wr => ∃ (i : Nat) (E : ErrT), i ≤ 9 ∧ s14 = .int .i64 i ∧ s13 = E.val A ∧ E.wf ∧ E.isNil = false ∧ E.root = .sent j ∧ E.code = j + 1 ∧ E.depth + i ≤ 10 ∧ Below w.heap.size w wr) (fun _ s14 _ => (intOf s14).toNat)
  case atStart => exact ⟨n, .sent j, by omega, rfl, rfl, hj10, rfl, rfl, rfl, by simp [ErrT.depth]; omega, Below.refl _ _⟩
  case round =>
    obtain ⟨i, E, hi, rfl, rfl, hwf, hnn, hroot, hcode, hdep, hB⟩ := hrel
    cases i with
    | zero =>
      by_cases hjk : j = k
      · subst hjk
        have hib : isB E j = true := by simp only [isB, hcode]; simp
        have HIB := Lib.hid hib
        have HCD := Lib.hid hcode
        have HWF := Lib.hid hwf
        have HS := Lib.hid hs
        have HB := Lib.hid hB
        clear hib hcode hwf hroot hdep hnn hs hB
        go_wp2_with fail
        refine wp_region_lexA ⟨[], []⟩ (fun x => Below wr.heap.size wr x) (by kernel_rfl) (by kernel_rfl) (Below.refl _ _).drew ?_
        intro S hto hof hne
        have xe : ∀ z : Wd S, (binOp .eql 24 (.iface 120 (.pointer (some (A j)))) (.iface 120 (.pointer (some (A j))))).run Tryd.prog z.w = .ok (.bool true) z.w := fun z => by
          have := eql_sent (HS.out.below (HB.out.trans ((hto z).mono HB.out.size))) hj10 hj10
          rw [show decide (j = j) = true by simp] at this
          exact this
        have Hof := Lib.hid hof
        clear hto hof
        refine lexW_light 2 (by kernel_rfl) ?_
        simp only [List.take_succ_cons, List.take_zero, List.drop_succ_cons, List.drop_zero]
        repeat (first | go_big_quiet_skip | (go_big_quiet_want; go_big_quiet_op; go_big_quiet_on))
        refine wpQuiet_nil ?_
        refine lexW_heavy (by kernel_rfl) ?_
        go_wp2_with fail
        refine (errIs A E j _ (HS.out.below HB.out.drew) HWF.out hj10).mono ?_
        rintro ev w2 ⟨rfl, hb2⟩
        rw [show isB E j = true by simp only [isB, HCD.out]; simp]
        have H2 := Lib.hid (((Below.refl wr.heap.size wr).drew).trans hb2)
        clear hb2
        go_wp2_with fail
        refine lexQ_more (Hof.out _ H2.out) ?_
        refine lexW_light 3 (by kernel_rfl) ?_
        simp only [List.take_succ_cons, List.take_zero, List.drop_succ_cons, List.drop_zero]
        repeat (first | go_big_quiet_skip | (go_big_quiet_want; go_big_quiet_op; go_big_quiet_on))
        refine wpQuiet_nil ?_
        refine lexW_heavy (by kernel_rfl) ?_
        go_wp2_with fail
        refine (errIs A E j _ (HS.out.below (HB.out.trans (H2.out.mono HB.out.size))) HWF.out hj10).mono ?_
        rintro ev w3 ⟨rfl, hb3⟩
        rw [HIB.out]
        have H3 := Lib.hid (H2.out.trans (hb3.mono H2.out.size))
        clear hb3
        go_wp2_with fail
        refine lexQ_more (Hof.out _ H3.out) ?_
        refine lexW_light 6 (by kernel_rfl) ?_
        simp only [List.take_succ_cons, List.take_zero, List.drop_succ_cons, List.drop_zero]
        repeat (first | go_big_quiet_skip | (go_big_quiet_want; go_big_quiet_op; go_big_quiet_on))
        refine wpQuiet_nil ?_
        refine lexW_heavy (by kernel_rfl) ?_
        go_wp2_with fail
        refine (faultRuns A _ (HS.out.below (HB.out.trans (H3.out.mono HB.out.size))).runs).mono ?_
        rintro ev w4 ⟨rfl, hb4⟩
        have H4 := Lib.hid (H3.out.trans (hb4.mono H3.out.size))
        clear hb4
        go_wp2_with fail
        refine lexQ_more (Hof.out _ H4.out) ?_
        refine lexW_light 2 (by kernel_rfl) ?_
        simp only [List.take_succ_cons, List.take_zero, List.drop_succ_cons, List.drop_zero]
        repeat (first | go_big_quiet_skip | (go_big_quiet_want; go_big_quiet_op; go_big_quiet_on))
        refine wpQuiet_nil ?_
        refine lexW_done ?_
        go_wp2_with fail
        go_ret
        exact ⟨rfl, HB.out.trans (H4.out.mono HB.out.size)⟩
      · have hib : isB E k = false := by simp only [isB, hcode]; simp; omega
        have HIB := Lib.hid hib
        have HCD := Lib.hid hcode
        have HWF := Lib.hid hwf
        have HS := Lib.hid hs
        have HB := Lib.hid hB
        clear hib hcode hwf hroot hdep hnn hs hB
        go_wp2_with fail
        refine wp_region_lexA ⟨[], []⟩ (fun x => Below wr.heap.size wr x) (by kernel_rfl) (by kernel_rfl) (Below.refl _ _).drew ?_
        intro S hto hof hne
        have xe : ∀ z : Wd S, (binOp .eql 24 (.iface 120 (.pointer (some (A j)))) (.iface 120 (.pointer (some (A k))))).run Tryd.prog z.w = .ok (.bool false) z.w := fun z => by
          have := eql_sent (HS.out.below (HB.out.trans ((hto z).mono HB.out.size))) hj10 hk10
          rw [show decide (j = k) = false by simp; omega] at this
          exact this
        have Hof := Lib.hid hof
        clear hto hof
        refine lexW_light 2 (by kernel_rfl) ?_
        simp only [List.take_succ_cons, List.take_zero, List.drop_succ_cons, List.drop_zero]
        repeat (first | go_big_quiet_skip | (go_big_quiet_want; go_big_quiet_op; go_big_quiet_on))
        refine wpQuiet_nil ?_
        refine lexW_heavy (by kernel_rfl) ?_
        go_wp2_with fail
        refine (errIs A E j _ (HS.out.below HB.out.drew) HWF.out hj10).mono ?_
        rintro ev w2 ⟨rfl, hb2⟩
        rw [show isB E j = true by simp only [isB, HCD.out]; simp]
        have H2 := Lib.hid (((Below.refl wr.heap.size wr).drew).trans hb2)
        clear hb2
        go_wp2_with fail
        refine lexQ_more (Hof.out _ H2.out) ?_
        refine lexW_light 3 (by kernel_rfl) ?_
        simp only [List.take_succ_cons, List.take_zero, List.drop_succ_cons, List.drop_zero]
        repeat (first | go_big_quiet_skip | (go_big_quiet_want; go_big_quiet_op; go_big_quiet_on))
        refine wpQuiet_nil ?_
        refine lexW_heavy (by kernel_rfl) ?_
        go_wp2_with fail
        refine (errIs A E k _ (HS.out.below (HB.out.trans (H2.out.mono HB.out.size))) HWF.out hk10).mono ?_
        rintro ev w3 ⟨rfl, hb3⟩
        rw [HIB.out]
        have H3 := Lib.hid (H2.out.trans (hb3.mono H2.out.size))
        clear hb3
        go_wp2_with fail
        refine lexQ_more (Hof.out _ H3.out) ?_
        refine lexW_light 6 (by kernel_rfl) ?_
        simp only [List.take_succ_cons, List.take_zero, List.drop_succ_cons, List.drop_zero]
        repeat (first | go_big_quiet_skip | (go_big_quiet_want; go_big_quiet_op; go_big_quiet_on))
        refine wpQuiet_nil ?_
        refine lexW_heavy (by kernel_rfl) ?_
        go_wp2_with fail
        refine (faultRuns A _ (HS.out.below (HB.out.trans (H3.out.mono HB.out.size))).runs).mono ?_
        rintro ev w4 ⟨rfl, hb4⟩
        have H4 := Lib.hid (H3.out.trans (hb4.mono H3.out.size))
        clear hb4
        go_wp2_with fail
        refine lexQ_more (Hof.out _ H4.out) ?_
        refine lexW_light 2 (by kernel_rfl) ?_
        simp only [List.take_succ_cons, List.take_zero, List.drop_succ_cons, List.drop_zero]
        repeat (first | go_big_quiet_skip | (go_big_quiet_want; go_big_quiet_op; go_big_quiet_on))
        refine wpQuiet_nil ?_
        refine lexW_done ?_
        go_wp2_with fail
        go_ret
        exact ⟨rfl, HB.out.trans (H4.out.mono HB.out.size)⟩
    | succ i =>
      have HE := Lib.hid (show wrapE op (wrap64 (z3 + ((i + 1 : Nat) : Int))) E = .wrap op (wrap64 (z3 + ((i + 1 : Nat) : Int))) E by simp [wrapE, hnn])
      have hwf2 : (ErrT.wrap op (wrap64 (z3 + ((i + 1 : Nat) : Int))) E).wf := ⟨hnn, hwf⟩
      obtain ⟨t2, u2, hev⟩ := E.val_iface A hnn
      have HEV := Lib.hid hev
      rw [hev]
      clear hev
      go_wp2_with fail
      rw [← HEV.out]
      refine (wrap_c A op _ E wr).mono ?_
      rintro ev w' ⟨rfl, hww⟩
      obtain rfl := hww.symm
      rw [show ((i : Int) + 1) = ((i + 1 : Nat) : Int) from rfl]
      generalize wrap64 (z3 + ((i + 1 : Nat) : Int)) = q at *
      have HV := Lib.hid (show (ErrT.wrap op q E).val A = .iface 63 (.agg #[.string op, .int .i64 q, E.val A]) from rfl)
      have hw1 : wrap64 ((E.depth : Int) + 1) = (E.depth : Int) + 1 := IntWalk.wrap64_in _ (by omega)
      rw [HE.out, HV.out, HEV.out]
      have HR := Lib.hid hroot
      have HCD := Lib.hid hcode
      have HWF := Lib.hid hwf
      have HWF2 := Lib.hid hwf2
      have HD := Lib.hid hdep
      have HW1 := Lib.hid hw1
      clear hroot hcode hwf hwf2 hdep hw1
      go_wp2_with fail
      rw [← HEV.out]
      change Calls Tryd.prog _ #[(ErrT.wrap op q E).val A] _ _
      refine (depth_c A _ wr HWF2.out (by have := HD.out; simp only [ErrT.depth]; omega)).mono ?_
      rintro ev w2 ⟨rfl, hb2⟩
      rw [show (((ErrT.wrap op q E).depth : Nat) : Int) = (E.depth : Int) + 1 from rfl, HEV.out]
      have hB2 := hB.trans (hb2.mono hB.size)
      clear hb2
      go_wp2_with fail
      rw [← HEV.out]
      refine (depth_c A E w2 HWF.out (by have := HD.out; omega)).mono ?_
      rintro ev w3 ⟨rfl, hb3⟩
      rw [HEV.out]
      have hB3 := hB2.trans (hb3.mono hB2.size)
      clear hb3 hB2
      have hw1 := HW1.out
      go_wp2_with fail
      clear hw1
      rw [← HEV.out]
      change Calls Tryd.prog _ #[(ErrT.wrap op q E).val A] _ _
      refine (root_c A _ w3 HWF2.out (by have := HD.out; simp only [ErrT.depth]; omega)).mono ?_
      rintro ev w4 ⟨rfl, hb4⟩
      have HR2 := Lib.hid (show (ErrT.wrap op q E).root = .sent j by simp only [ErrT.root, HR.out])
      rw [HR2.out, show (ErrT.sent j).val A = .iface 120 (.pointer (some (A j))) from rfl, HEV.out]
      have hB4 := hB3.trans (hb4.mono hB3.size)
      clear hb4 hB3
      go_wp2_with fail
      rw [← HEV.out]
      refine (root_c A E w4 HWF.out (by have := HD.out; omega)).mono ?_
      rintro ev w5 ⟨rfl, hb5⟩
      rw [HR.out, show (ErrT.sent j).val A = .iface 120 (.pointer (some (A j))) from rfl, HEV.out]
      have hB5 := hB4.trans (hb5.mono hB4.size)
      clear hb5 hB4
      have hne5 := fun W => neq_same (W := W) (A := A) j
      go_wp2_with fail
      go_roundw
      case measure => simp [intOf]
      case rel => exact ⟨i, .wrap op q E, by omega, by go_num, by rw [HV.out, HEV.out], HWF2.out, rfl, HR2.out, HCD.out, by have := HD.out; simp only [ErrT.depth]; omega, hB5⟩

end Go.Proofs.YteljpfbfkpdchaaDoor
