/- PackReads: true; no condition but what a start gives. -/
import Derived.Test.YthmgccakhhggjaaDoorLPk4
import Derived.Test.YthmgccakhhggjaaDoorRPk3
import Derived.Test.YthmgccakhhggjaaDoorRmy
namespace Go.Proofs.YthmgccakhhggjaaDoor
open Go.RowKit Go.Extern.Stop Go.Stop Go.Extern

/-- The program's error, where the reference tells a code and a place. -/
def errR (code place : Nat) : ErrT := if code = 0 then .nil else .wrap prT place (.sent (code - 1))
theorem errR_zero (place : Nat) : errR 0 place = .nil := rfl
theorem errR_succ (k place : Nat) : errR (k + 1) place = .wrap prT place (.sent k) := by simp [errR]
theorem errR_wf {code place : Nat} (h : code ≤ 10) : (errR code place).wf := by
  unfold errR
  split
  · trivial
  · exact ⟨rfl, show code - 1 < 10 by omega⟩
theorem errR_is (code place : Nat) : isK (errR code place) code prT place = true := by
  unfold errR isK
  by_cases h : code = 0
  · subst h
    simp [ErrT.isNil]
  · rw [if_neg h, if_neg (by omega)]
    simp only [ErrT.code, decide_true, Bool.and_true, beq_self_eq_true, beq_iff_eq]
    omega
theorem errR_only (code place : Nat) : onlyK (errR code place) code = true := by
  unfold errR onlyK
  by_cases h : code = 0
  · subst h
    rfl
  · rw [if_neg h]
    simp only [ErrT.code, beq_iff_eq]
    omega
theorem step_link (L : List Nat) (at_ code place : Nat) (ok : Int → Bool) (hle : at_ ≤ L.length) (hc : code ≤ 10) :
    stepR L at_ (errR code place) ok = ((stepQ L at_ code place ok).1, (stepQ L at_ code place ok).2.1, errR (stepQ L at_ code place ok).2.2.1 (stepQ L at_ code place ok).2.2.2) ∧ (stepQ L at_ code place ok).2.2.1 ≤ 10 := by
  by_cases h : code = 0
  · subst h
    rcases nxt_or L at_ hle with ⟨n, a, hx, ha⟩ | ⟨s, hx, hs⟩
    · cases hok : ok n
      · simp [stepR, stepQ, errR, ErrT.isNil, hx, hok]
      · simp [stepR, stepQ, errR, ErrT.isNil, hx, hok]
    · simp [stepR, stepQ, errR, ErrT.isNil, hx]
      omega
  · simp [stepR, stepQ, errR, ErrT.isNil, h, hc]
theorem end_link (L : List Nat) (at_ code place : Nat) (hc : code ≤ 10) : endE L at_ (errR code place) = errR (endQ L at_ code place).1 (endQ L at_ code place).2 ∧ (endQ L at_ code place).1 ≤ 10 := by
  by_cases h : code = 0
  · subst h
    by_cases hal : at_ < L.length
    · simp [endE, endQ, errR, ErrT.isNil, hal]
    · simp [endE, endQ, errR, ErrT.isNil, hal]
  · simp [endE, endQ, errR, ErrT.isNil, h, hc]

theorem RdAt.keepP {S : Nat → Prop} {w w' : World} {A : Nat → Addr} {b : Nat} {v : Value} {L : List Nat} {at_ : Nat} {e : ErrT} (h : RdAt w A b v L at_ e) (hm : Mods S w w') (hb : ¬ S b) (hv : 0 < L.length → ∀ g, v.ownBlock = some g → ¬ S g) : RdAt w' A b v L at_ e :=
  ⟨(hm.block b h.lt hb).trans h.blk, h.row.keepP hm hv, h.own, h.le, h.big, h.byt, h.cap⟩
theorem Mods.wide {S T : Nat → Prop} {a b : World} (h : Mods S a b) (hT : ∀ i, S i → T i) : Mods T a b := ⟨h.os, h.tape, h.output, h.size, fun k hk hs => h.block k hk fun h1 => hs (hT k h1)⟩
/-- Both readers, apart. -/
structure RwAt (wr : World) (A : Nat → Addr) (b1 b2 : Nat) (vr v : Value) (L : List Nat) (at_ code place : Nat) : Prop where
  one : RdAt wr A b1 vr L at_ (errR code place)
  two : RRAt wr b2 v L at_ code place
  ne : b1 ≠ b2
  ow1 : 0 < L.length → ∀ g, vr.ownBlock = some g → g ≠ b2
  ow2 : 0 < L.length → ∀ g, v.ownBlock = some g → g ≠ b1
section
variable {wr wq : World} {A : Nat → Addr} {b1 b2 : Nat} {vr v : Value} {L : List Nat} {at_ code place : Nat}
theorem RwAt.below (h : RwAt wr A b1 b2 vr v L at_ code place) (hb : Below wr.heap.size wr wq) : RwAt wq A b1 b2 vr v L at_ code place := ⟨h.one.below hb, h.two.below hb, h.ne, h.ow1, h.ow2⟩
/-- A step of the one and of the other. -/
theorem RwAt.step (h : RwAt wr A b1 b2 vr v L at_ code place) {w1 w2 : World} {at2 code2 place2 : Nat} (h1 : RdAt w1 A b1 vr L at2 (errR code2 place2)) (h2 : RRAt w2 b2 v L at2 code2 place2) (m2 : Mods (onlyS b2) w1 w2) : RwAt w2 A b1 b2 vr v L at2 code2 place2 :=
  ⟨h1.keepP m2 (fun e => h.ne e) (fun hp g hg e => h.ow1 hp g hg e), h2, h.ne, h.ow1, h.ow2⟩
theorem RwAt.mid (h : RwAt wr A b1 b2 vr v L at_ code place) {w1 : World} (m1 : Mods (onlyS b1) wr w1) : RRAt w1 b2 v L at_ code place := h.two.keep m1 (fun e => h.ne e.symm) (fun hp g hg e => h.ow2 hp g hg e)
end

set_option maxRecDepth 100000 in
set_option maxHeartbeats 16000000 in
theorem packReads (A : Nat → Addr) (v : Value) (L : List Nat) (va : Value) (n : Nat) (f : Nat → Nat → Int) (w : World) (hs : SentAt w A) (hb : BytesIn w v L) (ha : ReqsAt ks3 3 w va n f) :
    Calls Tryd.prog 6 #[v, va] w (TruePost w) := by
  have HS := Lib.hid hs
  have HBY := Lib.hid hb.byt
  have HLEN := Lib.hid hb.len
  have HV := Lib.hid hb.row
  obtain ⟨_, adv, capv, rfl, hvc⟩ := hb.row
  have HVC := Lib.hid hvc
  obtain ⟨pa, capa, rfl, hel⟩ := ha.form
  have HEL := Lib.hid hel
  have HNM := Lib.hid ha.num
  clear hs hb ha hel hvc
  go_enter Tryd.func6, Tryd.ntmps6
  go_wp2_with fail
  refine (roomyB_c _ L 12 w HV.out HLEN.out).mono ?_
  rintro ev w1 ⟨gf, capf, rfl, hF, hb1⟩
  have HF := Lib.hid hF
  have HB1 := Lib.hid hb1
  have gcap : L.length ≤ capf := by have := hF.capn'; omega
  have hlen := HLEN.out
  have hF0 : slc w1 1 (.slice (some ⟨gf, 0, none⟩) L.length capf) L.length (byteV L) := by
    refine ⟨by rw [byteV_length, Nat.mul_one], _, capf, rfl, fun _ => ?_⟩
    obtain ⟨g2, o2, c2, he, _, _, hg, hc⟩ := hF.form (by omega)
    simp only [Value.slice.injEq, Option.some.injEq, Addr.mk.injEq] at he
    obtain ⟨⟨rfl, rfl, _⟩, _, _⟩ := he
    exact ⟨gf, 0, rfl, hg, fun j x hj => hc j x (by
      rw [byteV_append, List.getElem?_append_left (List.getElem?_eq_some_iff.1 hj).1]
      exact hj)⟩
  have HF0 := Lib.hid hF0
  clear hF hb1 hF0
  go_wp2_with fail
  refine (read_c A _ L w1 HF0.out (by omega) HBY.out).mono ?_
  rintro ev w2 ⟨b1, vr, rfl, hR2, hb2, ho2, hB2⟩
  have HR2 := Lib.hid hR2
  have HB2 := Lib.hid (HB1.out.trans (hB2.mono HB1.out.size))
  have HF2 := Lib.hid (HF.out.below hB2)
  have HO2 := Lib.hid ho2
  have HGE := Lib.hid (Nat.le_trans HB1.out.size hb2)
  have HFG := Lib.hid (show gf < b1 by have := (HF.out.lt gf rfl).2; omega)
  have HVL := Lib.hid (show 0 < L.length → ∀ g, vr.ownBlock = some g → g < w2.heap.size from by
    intro hp g hg
    obtain ⟨_, ad2, cp2, hvv, hcc⟩ := hR2.row
    obtain ⟨g2, off2, ha2, hg2, _⟩ := hcc hp
    rw [hvv, ha2] at hg
    simp only [Value.ownBlock, Option.some.injEq] at hg
    subst hg
    exact hg2)
  have HBL := Lib.hid (show b1 < w2.heap.size from hR2.lt)
  clear hR2 hb2 ho2 hB2
  go_wp2_with fail
  obtain ⟨b2, hb2⟩ : ∃ b2, b2 = w2.heap.size := ⟨_, rfl⟩
  have hR20 : RRAt (w2.alloc (.cells #[.slice adv L.length capv, .int .i64 0, .int .i64 0, .int .i64 0] 42)) b2 (.slice adv L.length capv) L 0 0 0 := by
    subst hb2
    refine ⟨heap_alloc_new w2 _, (HV.out.below HB2.out).below ((Below.refl _ _).alloc (Nat.le_refl _) _), fun hp g hg => ?_, Nat.zero_le _, by omega, HBY.out⟩
    obtain ⟨g2, off2, ha2, hg2, _⟩ := HVC.out hp
    rw [ha2] at hg
    simp only [Value.ownBlock, Option.some.injEq] at hg
    subst hg
    have := HB2.out.size
    omega
  have hRw : RwAt (w2.alloc (.cells #[.slice adv L.length capv, .int .i64 0, .int .i64 0, .int .i64 0] 42)) A b1 b2 vr (.slice adv L.length capv) L 0 0 0 := by
    refine ⟨HR2.out.below ((Below.refl _ _).alloc (Nat.le_refl _) _), hR20, by have := HBL.out; omega, fun hp g hg => by have := HVL.out hp g hg; omega, fun hp g hg => ?_⟩
    obtain ⟨g2, off2, ha2, hg2, _⟩ := HVC.out hp
    rw [ha2] at hg
    simp only [Value.ownBlock, Option.some.injEq] at hg
    subst hg
    have := HGE.out
    omega
  have hBx : Below w.heap.size w (w2.alloc (.cells #[.slice adv L.length capv, .int .i64 0, .int .i64 0, .int .i64 0] 42)) := HB2.out.alloc HB2.out.size _
  have hFx := HF2.out.below ((Below.refl w2.heap.size w2).alloc (Nat.le_refl _) (.cells #[.slice adv L.length capv, .int .i64 0, .int .i64 0, .int .i64 0] 42))
  rw [← hb2]
  have HGE2 := Lib.hid (show w.heap.size ≤ b2 ∧ gf < b2 by
    have := HB2.out.size
    have := (HF2.out.lt gf rfl).2
    omega)
  clear hR20 hb2
  generalize w2.alloc (.cells #[.slice adv L.length capv, .int .i64 0, .int .i64 0, .int .i64 0] 42) = w3 at *
  have HRW := Lib.hid hRw
  have HBX := Lib.hid hBx
  have HFX := Lib.hid hFx
  clear hRw hBx hFx HF2
  go_loopw [8] (fun s8 wr => ∃ (i at_ code place : Nat), i ≤ 60 ∧ s8 = .int .i64 i ∧ code ≤ 10 ∧ RwAt wr A b1 b2 vr (.slice adv L.length capv) L at_ code place ∧ winRow wr w.heap.size 5 1 (.slice (some ⟨gf, 0, none⟩) (L.length + 80) capf) (L.length + 80) (byteV (L ++ List.replicate 80 12)) ∧ Below w.heap.size w wr) (fun s8 _ => 60 - (intOf s8).toNat)
  case atStart => exact ⟨0, 0, 0, 0, by omega, rfl, by omega, HRW.out, HFX.out, HBX.out⟩
  case round =>
    clear HRW HFX HBX
    obtain ⟨i, at_, code, place, hi, rfl, hcode, hRw, hF, hB⟩ := hrel
    have HRW := Lib.hid hRw
    have HFX := Lib.hid hF
    have HBX := Lib.hid hB
    have HCD := Lib.hid hcode
    clear hRw hF hB hcode
    by_cases hi1 : i < n
    · by_cases hi60 : i < 60
      · obtain ⟨ba, oa, rfl, hba, hca⟩ := HEL.out i hi1
        have a0 := (HBX.out.cell (p := ⟨ba, _, none⟩) hba).trans (hca 0 (by omega))
        have a1 := (HBX.out.cell (p := ⟨ba, _, none⟩) hba).trans (hca 1 (by omega))
        have a2 := (HBX.out.cell (p := ⟨ba, _, none⟩) hba).trans (hca 2 (by omega))
        simp only [ks3, Nat.add_zero] at a0 a1 a2
        generalize f i 0 = kd at *
        generalize f i 1 = lo at *
        generalize f i 2 = hiv at *
        have HBA := Lib.hid hba
        have hbr : ba < wr.heap.size := Nat.lt_of_lt_of_le hba HBX.out.size
        clear hca hba
        by_cases k1 : kd = 1
        · subst k1
          have hlk := step_link L at_ code place (fun _ => true) HRW.out.two.le HCD.out
          have HLK := Lib.hid hlk
          clear hlk
          go_wp2_with fail
          refine (rnum_c A b1 vr L at_ (errR code place) wr (HS.out.below HBX.out) HRW.out.one).mono ?_
          rintro ev w4 ⟨rfl, hR4, hM4⟩
          rw [HLK.out.1] at hR4 ⊢
          simp only at hR4 ⊢
          have HR4 := Lib.hid hR4
          have HM4 := Lib.hid hM4
          clear hR4 hM4
          go_wp2_with fail
          refine (rrnum_c b2 _ L at_ code place w4 (HRW.out.mid HM4.out)).mono ?_
          rintro ev w5 ⟨rfl, hR5, hM5⟩
          have HRW5 := Lib.hid (HRW.out.step HR4.out hR5 hM5)
          have HCD5 := Lib.hid HLK.out.2
          have HM5 := Lib.hid hM5
          clear hR5 hM5
          obtain ⟨nn, at5, code5, place5, hq⟩ : ∃ nn at5 code5 place5, stepQ L at_ code place (fun _ => true) = (nn, at5, code5, place5) := ⟨_, _, _, _, rfl⟩
          rw [hq] at HRW5 HCD5 ⊢
          simp only at HRW5 HCD5 ⊢
          clear hq HLK HR4
          have hMM : Mods (fun k => k = b1 ∨ k = b2) wr w5 := (HM4.out.wide fun _ h => .inl h).trans (HM5.out.wide fun _ h => .inr h) fun _ _ h => h
          have HBX5 := Lib.hid (HBX.out.trans (hMM.below HBX.out.size fun k hk => by have := HGE.out; have := HGE2.out.1; rcases hk with rfl | rfl <;> assumption))
          have HFX5 := Lib.hid (HFX.out.keep fun g hg => hMM.block g (HFX.out.lt g hg).2 (by
            have h1 := HFG.out
            have h2 := HGE2.out.2
            have hg : some gf = some g := hg
            have := Option.some.inj hg
            omega))
          clear hMM HM4 HM5
          go_wp2_with fail
          refine wp_region_lexA ⟨[17, 26], []⟩ (fun x => Below w5.heap.size w5 x) (by kernel_rfl) (by kernel_rfl) (Below.refl _ _).drew ?_
          intro S hto hof hne
          have q1 := cell_of HRW5.out.two.blk 1
          have q2 := cell_of HRW5.out.two.blk 2
          have q3 := cell_of HRW5.out.two.blk 3
          simp only [List.getElem?_toArray, List.getElem?_cons_zero, List.getElem?_cons_succ] at q1 q2 q3
          have hbl := HRW5.out.two.lt
          have y1 : ∀ z : Wd S, z.w.cell? ⟨b2, 1, none⟩ = some (.int .i64 at5) := fun z => ((hto z).cell (p := ⟨b2, 1, none⟩) hbl).trans q1
          have y2 : ∀ z : Wd S, z.w.cell? ⟨b2, 2, none⟩ = some (.int .i64 code5) := fun z => ((hto z).cell (p := ⟨b2, 2, none⟩) hbl).trans q2
          have y3 : ∀ z : Wd S, z.w.cell? ⟨b2, 3, none⟩ = some (.int .i64 place5) := fun z => ((hto z).cell (p := ⟨b2, 3, none⟩) hbl).trans q3
          have HR := Lib.hid (fun z : Wd S => HRW5.out.one.below (hto z))
          have Hof := Lib.hid hof
          obtain ⟨ve, hve⟩ : ∃ ve, (errR code5 place5).val A = ve := ⟨_, rfl⟩
          have HVE := Lib.hid hve
          clear hto hof q1 q2 q3 hve
          refine lexW_light 4 (by kernel_rfl) ?_
          simp only [List.take_succ_cons, List.take_zero, List.drop_succ_cons, List.drop_zero]
          repeat (first | go_big_quiet_skip | (go_big_quiet_want; go_big_quiet_op; go_big_quiet_on))
          refine wpQuiet_nil ?_
          refine lexW_pure (by kernel_rfl) (by rfl) rfl Tryd.func17 rfl (by kernel_rfl) (fun x => (wrong_c A b1 vr L at5 (errR code5 place5) x.w (HR.out x)).mono fun _ _ h => ⟨h.1.trans (by rw [HVE.out]), h.2⟩) (by go_simp) ?_
          simp only [Act.put, List.setIfInBounds_toArray, List.set_cons_zero, List.set_cons_succ]
          refine lexW_light 8 (by kernel_rfl) ?_
          simp only [List.take_succ_cons, List.take_zero, List.drop_succ_cons, List.drop_zero]
          repeat (first | go_big_quiet_skip | (go_big_quiet_want; go_big_quiet_op; go_big_quiet_on))
          refine wpQuiet_nil ?_
          refine lexW_heavy (by kernel_rfl) ?_
          go_wp2_with fail
          rw [← HVE.out]
          refine (is_c A (errR code5 place5) code5 prT place5 _ (HS.out.below HBX5.out.drew) (errR_wf HCD5.out) (by omega) (by have := HCD5.out; omega)).mono ?_
          rintro ev w7 ⟨rfl, hb7⟩
          rw [errR_is, HVE.out]
          have HB7 := Lib.hid ((Below.refl w5.heap.size w5).drew.trans hb7)
          clear hb7
          go_wp2_with fail
          refine lexQ_more (Hof.out _ HB7.out) ?_
          refine lexW_light 4 (by kernel_rfl) ?_
          simp only [List.take_succ_cons, List.take_zero, List.drop_succ_cons, List.drop_zero]
          repeat (first | go_big_quiet_skip | (go_big_quiet_want; go_big_quiet_op; go_big_quiet_on))
          refine wpQuiet_nil ?_
          refine lexW_pure (by kernel_rfl) (by rfl) rfl Tryd.func17 rfl (by kernel_rfl) (fun x => (wrong_c A b1 vr L at5 (errR code5 place5) x.w (HR.out x)).mono fun _ _ h => ⟨h.1.trans (by rw [HVE.out]), h.2⟩) (by go_simp) ?_
          simp only [Act.put, List.setIfInBounds_toArray, List.set_cons_zero, List.set_cons_succ]
          refine lexW_light 4 (by kernel_rfl) ?_
          simp only [List.take_succ_cons, List.take_zero, List.drop_succ_cons, List.drop_zero]
          repeat (first | go_big_quiet_skip | (go_big_quiet_want; go_big_quiet_op; go_big_quiet_on))
          refine wpQuiet_nil ?_
          refine lexW_heavy (by kernel_rfl) ?_
          go_wp2_with fail
          rw [← HVE.out]
          refine (only_c A (errR code5 place5) code5 _ (HS.out.below (HBX5.out.trans (HB7.out.mono HBX5.out.size))) (errR_wf HCD5.out) (by omega) (by have := HCD5.out; omega)).mono ?_
          rintro ev w8 ⟨rfl, hb8⟩
          rw [errR_only]
          have HB8 := Lib.hid (HB7.out.trans (hb8.mono HB7.out.size))
          clear hb8
          go_wp2_with fail
          refine lexQ_more (Hof.out _ HB8.out) ?_
          refine lexW_light 4 (by kernel_rfl) ?_
          simp only [List.take_succ_cons, List.take_zero, List.drop_succ_cons, List.drop_zero]
          repeat (first | go_big_quiet_skip | (go_big_quiet_want; go_big_quiet_op; go_big_quiet_on))
          refine wpQuiet_nil ?_
          refine lexW_pure (by kernel_rfl) (by rfl) rfl Tryd.func26 rfl (by kernel_rfl) (fun x => at_c A b1 vr L at5 (errR code5 place5) x.w (HR.out x)) (by go_simp) ?_
          simp only [Act.put, List.setIfInBounds_toArray, List.set_cons_zero, List.set_cons_succ]
          refine lexW_light 6 (by kernel_rfl) ?_
          simp only [List.take_succ_cons, List.take_zero, List.drop_succ_cons, List.drop_zero]
          repeat (first | go_big_quiet_skip | (go_big_quiet_want; go_big_quiet_op; go_big_quiet_on))
          refine wpQuiet_nil ?_
          refine lexW_done ?_
          clear y1 y2 y3
          go_wp2_with fail
          go_roundw
          case rel => exact ⟨i + 1, at5, code5, place5, by omega, by go_num, HCD5.out, HRW5.out.below HB8.out, HFX5.out.below HB8.out, HBX5.out.trans (HB8.out.mono HBX5.out.size)⟩
          case measure => simp [intOf]; omega
        · by_cases k2 : kd = 2
          · subst k2
            have hlk := step_link L at_ code place (inOk lo hiv) HRW.out.two.le HCD.out
            have HLK := Lib.hid hlk
            clear hlk k1
            go_wp2_with fail
            refine wp_region_lexA ⟨[], []⟩ (fun x => Mods (fun k => k = b1 ∨ k = b2) wr x) (by kernel_rfl) (by kernel_rfl) (Mods.refl _ _).drew ?_
            intro S hto hof hne
            have x1 : ∀ z : Wd S, z.w.cell? ⟨ba, oa + i * 3 + 1, none⟩ = some (.int .i64 lo) := fun z => ((hto z).cell (p := ⟨ba, oa + i * 3 + 1, none⟩) hbr (fun h => by have := HBA.out; have := HGE.out; have := HGE2.out.1; simp only at h; omega)).trans a1
            have x2 : ∀ z : Wd S, z.w.cell? ⟨ba, oa + i * 3 + 2, none⟩ = some (.int .i64 hiv) := fun z => ((hto z).cell (p := ⟨ba, oa + i * 3 + 2, none⟩) hbr (fun h => by have := HBA.out; have := HGE.out; have := HGE2.out.1; simp only at h; omega)).trans a2
            have Hof := Lib.hid hof
            clear hto hof a0 a1 a2
            refine lexW_light 11 (by kernel_rfl) ?_
            simp only [List.take_succ_cons, List.take_zero, List.drop_succ_cons, List.drop_zero]
            repeat (first | go_big_quiet_skip | (go_big_quiet_want; go_big_quiet_op; go_big_quiet_on))
            refine wpQuiet_nil ?_
            refine lexW_heavy (by kernel_rfl) ?_
            go_wp2_with fail
            have hBd : Below wr.heap.size wr wr.drew := (Below.refl _ _).drew
            refine (rin_c A b1 vr L at_ (errR code place) lo hiv _ ((HS.out.below HBX.out).below hBd) (HRW.out.one.below hBd)).mono ?_
            rintro ev w4 ⟨rfl, hR4, hM4⟩
            rw [HLK.out.1] at hR4 ⊢
            simp only at hR4 ⊢
            have HR4 := Lib.hid hR4
            have HM4 := Lib.hid ((Mods.of_below (S := onlyS b1) hBd).trans hM4 fun _ _ h => h)
            clear hR4 hM4 hBd
            go_wp2_with fail
            refine lexQ_more (Hof.out _ (HM4.out.wide fun _ h => .inl h)) ?_
            refine lexW_light 11 (by kernel_rfl) ?_
            simp only [List.take_succ_cons, List.take_zero, List.drop_succ_cons, List.drop_zero]
            repeat (first | go_big_quiet_skip | (go_big_quiet_want; go_big_quiet_op; go_big_quiet_on))
            refine wpQuiet_nil ?_
            refine lexW_heavy (by kernel_rfl) ?_
            go_wp2_with fail
            refine (rrin_c b2 _ L at_ code place lo hiv w4 (HRW.out.mid HM4.out)).mono ?_
            rintro ev w5 ⟨rfl, hR5, hM5⟩
            have HRW5 := Lib.hid (HRW.out.step HR4.out hR5 hM5)
            have HCD5 := Lib.hid HLK.out.2
            have HM5 := Lib.hid hM5
            clear hR5 hM5
            obtain ⟨nn, at5, code5, place5, hq⟩ : ∃ nn at5 code5 place5, stepQ L at_ code place (inOk lo hiv) = (nn, at5, code5, place5) := ⟨_, _, _, _, rfl⟩
            rw [hq] at HRW5 HCD5 ⊢
            simp only at HRW5 HCD5 ⊢
            clear hq HLK HR4
            go_wp2_with fail
            refine lexQ_more (Hof.out _ ((HM4.out.wide fun _ h => .inl h).trans (HM5.out.wide fun _ h => .inr h) fun _ _ h => h)) ?_
            refine lexW_light 2 (by kernel_rfl) ?_
            simp only [List.take_succ_cons, List.take_zero, List.drop_succ_cons, List.drop_zero]
            repeat (first | go_big_quiet_skip | (go_big_quiet_want; go_big_quiet_op; go_big_quiet_on))
            refine wpQuiet_nil ?_
            refine lexW_done ?_
            clear x1 x2
            have hMM : Mods (fun k => k = b1 ∨ k = b2) wr w5 := (HM4.out.wide fun _ h => .inl h).trans (HM5.out.wide fun _ h => .inr h) fun _ _ h => h
            have HBX5 := Lib.hid (HBX.out.trans (hMM.below HBX.out.size fun k hk => by have := HGE.out; have := HGE2.out.1; rcases hk with rfl | rfl <;> assumption))
            have HFX5 := Lib.hid (HFX.out.keep fun g hg => hMM.block g (HFX.out.lt g hg).2 (by
              have h1 := HFG.out
              have h2 := HGE2.out.2
              have hg : some gf = some g := hg
              have := Option.some.inj hg
              omega))
            clear hMM HM4 HM5
            go_wp2_with fail
            refine wp_region_lexA ⟨[17, 26], []⟩ (fun x => Below w5.heap.size w5 x) (by kernel_rfl) (by kernel_rfl) (Below.refl _ _).drew ?_
            intro S hto hof hne
            have q1 := cell_of HRW5.out.two.blk 1
            have q2 := cell_of HRW5.out.two.blk 2
            have q3 := cell_of HRW5.out.two.blk 3
            simp only [List.getElem?_toArray, List.getElem?_cons_zero, List.getElem?_cons_succ] at q1 q2 q3
            have hbl := HRW5.out.two.lt
            have y1 : ∀ z : Wd S, z.w.cell? ⟨b2, 1, none⟩ = some (.int .i64 at5) := fun z => ((hto z).cell (p := ⟨b2, 1, none⟩) hbl).trans q1
            have y2 : ∀ z : Wd S, z.w.cell? ⟨b2, 2, none⟩ = some (.int .i64 code5) := fun z => ((hto z).cell (p := ⟨b2, 2, none⟩) hbl).trans q2
            have y3 : ∀ z : Wd S, z.w.cell? ⟨b2, 3, none⟩ = some (.int .i64 place5) := fun z => ((hto z).cell (p := ⟨b2, 3, none⟩) hbl).trans q3
            have HR := Lib.hid (fun z : Wd S => HRW5.out.one.below (hto z))
            have Hof := Lib.hid hof
            obtain ⟨ve, hve⟩ : ∃ ve, (errR code5 place5).val A = ve := ⟨_, rfl⟩
            have HVE := Lib.hid hve
            clear hto hof q1 q2 q3 hve
            refine lexW_light 4 (by kernel_rfl) ?_
            simp only [List.take_succ_cons, List.take_zero, List.drop_succ_cons, List.drop_zero]
            repeat (first | go_big_quiet_skip | (go_big_quiet_want; go_big_quiet_op; go_big_quiet_on))
            refine wpQuiet_nil ?_
            refine lexW_pure (by kernel_rfl) (by rfl) rfl Tryd.func17 rfl (by kernel_rfl) (fun x => (wrong_c A b1 vr L at5 (errR code5 place5) x.w (HR.out x)).mono fun _ _ h => ⟨h.1.trans (by rw [HVE.out]), h.2⟩) (by go_simp) ?_
            simp only [Act.put, List.setIfInBounds_toArray, List.set_cons_zero, List.set_cons_succ]
            refine lexW_light 8 (by kernel_rfl) ?_
            simp only [List.take_succ_cons, List.take_zero, List.drop_succ_cons, List.drop_zero]
            repeat (first | go_big_quiet_skip | (go_big_quiet_want; go_big_quiet_op; go_big_quiet_on))
            refine wpQuiet_nil ?_
            refine lexW_heavy (by kernel_rfl) ?_
            go_wp2_with fail
            rw [← HVE.out]
            refine (is_c A (errR code5 place5) code5 prT place5 _ (HS.out.below HBX5.out.drew) (errR_wf HCD5.out) (by omega) (by have := HCD5.out; omega)).mono ?_
            rintro ev w7 ⟨rfl, hb7⟩
            rw [errR_is, HVE.out]
            have HB7 := Lib.hid ((Below.refl w5.heap.size w5).drew.trans hb7)
            clear hb7
            go_wp2_with fail
            refine lexQ_more (Hof.out _ HB7.out) ?_
            refine lexW_light 4 (by kernel_rfl) ?_
            simp only [List.take_succ_cons, List.take_zero, List.drop_succ_cons, List.drop_zero]
            repeat (first | go_big_quiet_skip | (go_big_quiet_want; go_big_quiet_op; go_big_quiet_on))
            refine wpQuiet_nil ?_
            refine lexW_pure (by kernel_rfl) (by rfl) rfl Tryd.func17 rfl (by kernel_rfl) (fun x => (wrong_c A b1 vr L at5 (errR code5 place5) x.w (HR.out x)).mono fun _ _ h => ⟨h.1.trans (by rw [HVE.out]), h.2⟩) (by go_simp) ?_
            simp only [Act.put, List.setIfInBounds_toArray, List.set_cons_zero, List.set_cons_succ]
            refine lexW_light 4 (by kernel_rfl) ?_
            simp only [List.take_succ_cons, List.take_zero, List.drop_succ_cons, List.drop_zero]
            repeat (first | go_big_quiet_skip | (go_big_quiet_want; go_big_quiet_op; go_big_quiet_on))
            refine wpQuiet_nil ?_
            refine lexW_heavy (by kernel_rfl) ?_
            go_wp2_with fail
            rw [← HVE.out]
            refine (only_c A (errR code5 place5) code5 _ (HS.out.below (HBX5.out.trans (HB7.out.mono HBX5.out.size))) (errR_wf HCD5.out) (by omega) (by have := HCD5.out; omega)).mono ?_
            rintro ev w8 ⟨rfl, hb8⟩
            rw [errR_only]
            have HB8 := Lib.hid (HB7.out.trans (hb8.mono HB7.out.size))
            clear hb8
            go_wp2_with fail
            refine lexQ_more (Hof.out _ HB8.out) ?_
            refine lexW_light 4 (by kernel_rfl) ?_
            simp only [List.take_succ_cons, List.take_zero, List.drop_succ_cons, List.drop_zero]
            repeat (first | go_big_quiet_skip | (go_big_quiet_want; go_big_quiet_op; go_big_quiet_on))
            refine wpQuiet_nil ?_
            refine lexW_pure (by kernel_rfl) (by rfl) rfl Tryd.func26 rfl (by kernel_rfl) (fun x => at_c A b1 vr L at5 (errR code5 place5) x.w (HR.out x)) (by go_simp) ?_
            simp only [Act.put, List.setIfInBounds_toArray, List.set_cons_zero, List.set_cons_succ]
            refine lexW_light 6 (by kernel_rfl) ?_
            simp only [List.take_succ_cons, List.take_zero, List.drop_succ_cons, List.drop_zero]
            repeat (first | go_big_quiet_skip | (go_big_quiet_want; go_big_quiet_op; go_big_quiet_on))
            refine wpQuiet_nil ?_
            refine lexW_done ?_
            clear y1 y2 y3
            go_wp2_with fail
            go_roundw
            case rel => exact ⟨i + 1, at5, code5, place5, by omega, by go_num, HCD5.out, HRW5.out.below HB8.out, HFX5.out.below HB8.out, HBX5.out.trans (HB8.out.mono HBX5.out.size)⟩
            case measure => simp [intOf]; omega
          · by_cases k3 : kd = 3
            · subst k3
              have hlk := end_link L at_ code place HCD.out
              have HLK := Lib.hid hlk
              clear hlk k1 k2
              go_wp2_with fail
              refine (rend_c A b1 vr L at_ (errR code place) wr (HS.out.below HBX.out) HRW.out.one).mono ?_
              rintro ev w4 ⟨rfl, hR4, hM4⟩
              rw [HLK.out.1] at hR4 ⊢
              have HR4 := Lib.hid hR4
              have HM4 := Lib.hid hM4
              obtain ⟨ve, hve⟩ : ∃ ve, (errR (endQ L at_ code place).1 (endQ L at_ code place).2).val A = ve := ⟨_, rfl⟩
              rw [hve]
              have HVE := Lib.hid hve
              clear hR4 hM4 hve
              go_wp2_with fail
              refine (rrend_c b2 _ L at_ code place w4 (HRW.out.mid HM4.out)).mono ?_
              rintro ev w5 ⟨rfl, hR5, hM5⟩
              have HRW5 := Lib.hid (HRW.out.step HR4.out hR5 hM5)
              have HCD5 := Lib.hid HLK.out.2
              have HM5 := Lib.hid hM5
              clear hR5 hM5
              obtain ⟨at5, hat5⟩ : ∃ at5, at_ = at5 := ⟨_, rfl⟩
              obtain ⟨code5, place5, hq⟩ : ∃ code5 place5, endQ L at_ code place = (code5, place5) := ⟨_, _, rfl⟩
              rw [hq] at HRW5 HCD5 HVE ⊢
              rw [hat5] at HRW5
              simp only at HRW5 HCD5 HVE ⊢
              clear hq hat5 HLK HR4
              have hMM : Mods (fun k => k = b1 ∨ k = b2) wr w5 := (HM4.out.wide fun _ h => .inl h).trans (HM5.out.wide fun _ h => .inr h) fun _ _ h => h
              have HBX5 := Lib.hid (HBX.out.trans (hMM.below HBX.out.size fun k hk => by have := HGE.out; have := HGE2.out.1; rcases hk with rfl | rfl <;> assumption))
              have HFX5 := Lib.hid (HFX.out.keep fun g hg => hMM.block g (HFX.out.lt g hg).2 (by
                have h1 := HFG.out
                have h2 := HGE2.out.2
                have hg : some gf = some g := hg
                have := Option.some.inj hg
                omega))
              clear hMM HM4 HM5
              have q3 := cell_of HRW5.out.two.blk 3
              simp only [List.getElem?_toArray, List.getElem?_cons_zero, List.getElem?_cons_succ] at q3
              go_wp2_with fail
              rw [← HVE.out]
              refine (is_c A (errR code5 place5) code5 prT place5 w5 (HS.out.below HBX5.out) (errR_wf HCD5.out) (by omega) (by have := HCD5.out; omega)).mono ?_
              rintro ev w6 ⟨rfl, hb6⟩
              rw [errR_is, HVE.out]
              have HRW6 := Lib.hid (HRW5.out.below hb6)
              have HBX6 := Lib.hid (HBX5.out.trans (hb6.mono HBX5.out.size))
              have HFX6 := Lib.hid (HFX5.out.below hb6)
              clear hb6 q3 HRW5 HBX5 HFX5 HVE
              have HRW5 := Lib.hid HRW6.out
              have HBX5 := Lib.hid HBX6.out
              have HFX5 := Lib.hid HFX6.out
              clear HRW6 HBX6 HFX6
              go_wp2_with fail
              refine wp_region_lexA ⟨[17, 26], []⟩ (fun x => Below w6.heap.size w6 x) (by kernel_rfl) (by kernel_rfl) (Below.refl _ _).drew ?_
              intro S hto hof hne
              have q1 := cell_of HRW5.out.two.blk 1
              have q2 := cell_of HRW5.out.two.blk 2
              have q3 := cell_of HRW5.out.two.blk 3
              simp only [List.getElem?_toArray, List.getElem?_cons_zero, List.getElem?_cons_succ] at q1 q2 q3
              have hbl := HRW5.out.two.lt
              have y1 : ∀ z : Wd S, z.w.cell? ⟨b2, 1, none⟩ = some (.int .i64 at5) := fun z => ((hto z).cell (p := ⟨b2, 1, none⟩) hbl).trans q1
              have y2 : ∀ z : Wd S, z.w.cell? ⟨b2, 2, none⟩ = some (.int .i64 code5) := fun z => ((hto z).cell (p := ⟨b2, 2, none⟩) hbl).trans q2
              have y3 : ∀ z : Wd S, z.w.cell? ⟨b2, 3, none⟩ = some (.int .i64 place5) := fun z => ((hto z).cell (p := ⟨b2, 3, none⟩) hbl).trans q3
              have HR := Lib.hid (fun z : Wd S => HRW5.out.one.below (hto z))
              have Hof := Lib.hid hof
              obtain ⟨ve, hve⟩ : ∃ ve, (errR code5 place5).val A = ve := ⟨_, rfl⟩
              have HVE := Lib.hid hve
              clear hto hof q1 q2 q3 hve
              refine lexW_light 4 (by kernel_rfl) ?_
              simp only [List.take_succ_cons, List.take_zero, List.drop_succ_cons, List.drop_zero]
              repeat (first | go_big_quiet_skip | (go_big_quiet_want; go_big_quiet_op; go_big_quiet_on))
              refine wpQuiet_nil ?_
              refine lexW_pure (by kernel_rfl) (by rfl) rfl Tryd.func17 rfl (by kernel_rfl) (fun x => (wrong_c A b1 vr L at5 (errR code5 place5) x.w (HR.out x)).mono fun _ _ h => ⟨h.1.trans (by rw [HVE.out]), h.2⟩) (by go_simp) ?_
              simp only [Act.put, List.setIfInBounds_toArray, List.set_cons_zero, List.set_cons_succ]
              refine lexW_light 8 (by kernel_rfl) ?_
              simp only [List.take_succ_cons, List.take_zero, List.drop_succ_cons, List.drop_zero]
              repeat (first | go_big_quiet_skip | (go_big_quiet_want; go_big_quiet_op; go_big_quiet_on))
              refine wpQuiet_nil ?_
              refine lexW_heavy (by kernel_rfl) ?_
              go_wp2_with fail
              rw [← HVE.out]
              refine (is_c A (errR code5 place5) code5 prT place5 _ (HS.out.below HBX5.out.drew) (errR_wf HCD5.out) (by omega) (by have := HCD5.out; omega)).mono ?_
              rintro ev w7 ⟨rfl, hb7⟩
              rw [errR_is, HVE.out]
              have HB7 := Lib.hid ((Below.refl w6.heap.size w6).drew.trans hb7)
              clear hb7
              go_wp2_with fail
              refine lexQ_more (Hof.out _ HB7.out) ?_
              refine lexW_light 4 (by kernel_rfl) ?_
              simp only [List.take_succ_cons, List.take_zero, List.drop_succ_cons, List.drop_zero]
              repeat (first | go_big_quiet_skip | (go_big_quiet_want; go_big_quiet_op; go_big_quiet_on))
              refine wpQuiet_nil ?_
              refine lexW_pure (by kernel_rfl) (by rfl) rfl Tryd.func17 rfl (by kernel_rfl) (fun x => (wrong_c A b1 vr L at5 (errR code5 place5) x.w (HR.out x)).mono fun _ _ h => ⟨h.1.trans (by rw [HVE.out]), h.2⟩) (by go_simp) ?_
              simp only [Act.put, List.setIfInBounds_toArray, List.set_cons_zero, List.set_cons_succ]
              refine lexW_light 4 (by kernel_rfl) ?_
              simp only [List.take_succ_cons, List.take_zero, List.drop_succ_cons, List.drop_zero]
              repeat (first | go_big_quiet_skip | (go_big_quiet_want; go_big_quiet_op; go_big_quiet_on))
              refine wpQuiet_nil ?_
              refine lexW_heavy (by kernel_rfl) ?_
              go_wp2_with fail
              rw [← HVE.out]
              refine (only_c A (errR code5 place5) code5 _ (HS.out.below (HBX5.out.trans (HB7.out.mono HBX5.out.size))) (errR_wf HCD5.out) (by omega) (by have := HCD5.out; omega)).mono ?_
              rintro ev w8 ⟨rfl, hb8⟩
              rw [errR_only]
              have HB8 := Lib.hid (HB7.out.trans (hb8.mono HB7.out.size))
              clear hb8
              go_wp2_with fail
              refine lexQ_more (Hof.out _ HB8.out) ?_
              refine lexW_light 4 (by kernel_rfl) ?_
              simp only [List.take_succ_cons, List.take_zero, List.drop_succ_cons, List.drop_zero]
              repeat (first | go_big_quiet_skip | (go_big_quiet_want; go_big_quiet_op; go_big_quiet_on))
              refine wpQuiet_nil ?_
              refine lexW_pure (by kernel_rfl) (by rfl) rfl Tryd.func26 rfl (by kernel_rfl) (fun x => at_c A b1 vr L at5 (errR code5 place5) x.w (HR.out x)) (by go_simp) ?_
              simp only [Act.put, List.setIfInBounds_toArray, List.set_cons_zero, List.set_cons_succ]
              refine lexW_light 6 (by kernel_rfl) ?_
              simp only [List.take_succ_cons, List.take_zero, List.drop_succ_cons, List.drop_zero]
              repeat (first | go_big_quiet_skip | (go_big_quiet_want; go_big_quiet_op; go_big_quiet_on))
              refine wpQuiet_nil ?_
              refine lexW_done ?_
              clear y1 y2 y3
              go_wp2_with fail
              go_roundw
              case rel => exact ⟨i + 1, at5, code5, place5, by omega, by go_num, HCD5.out, HRW5.out.below HB8.out, HFX5.out.below HB8.out, HBX5.out.trans (HB8.out.mono HBX5.out.size)⟩
              case measure => simp [intOf]; omega
            · have gk1 : (kd == 1) = false := by simpa using k1
              have gk2 : (kd == 2) = false := by simpa using k2
              have gk3 : (kd == 3) = false := by simpa using k3
              clear k1 k2 k3
              have HRW5 := Lib.hid HRW.out
              have HBX5 := Lib.hid HBX.out
              have HFX5 := Lib.hid HFX.out
              have HCD5 := Lib.hid HCD.out
              go_wp2_with fail
              refine wp_region_lexA ⟨[17, 26], []⟩ (fun x => Below wr.heap.size wr x) (by kernel_rfl) (by kernel_rfl) (Below.refl _ _).drew ?_
              intro S hto hof hne
              have q1 := cell_of HRW5.out.two.blk 1
              have q2 := cell_of HRW5.out.two.blk 2
              have q3 := cell_of HRW5.out.two.blk 3
              simp only [List.getElem?_toArray, List.getElem?_cons_zero, List.getElem?_cons_succ] at q1 q2 q3
              have hbl := HRW5.out.two.lt
              have y1 : ∀ z : Wd S, z.w.cell? ⟨b2, 1, none⟩ = some (.int .i64 at_) := fun z => ((hto z).cell (p := ⟨b2, 1, none⟩) hbl).trans q1
              have y2 : ∀ z : Wd S, z.w.cell? ⟨b2, 2, none⟩ = some (.int .i64 code) := fun z => ((hto z).cell (p := ⟨b2, 2, none⟩) hbl).trans q2
              have y3 : ∀ z : Wd S, z.w.cell? ⟨b2, 3, none⟩ = some (.int .i64 place) := fun z => ((hto z).cell (p := ⟨b2, 3, none⟩) hbl).trans q3
              have HR := Lib.hid (fun z : Wd S => HRW5.out.one.below (hto z))
              have Hof := Lib.hid hof
              obtain ⟨ve, hve⟩ : ∃ ve, (errR code place).val A = ve := ⟨_, rfl⟩
              have HVE := Lib.hid hve
              clear hto hof q1 q2 q3 hve
              refine lexW_light 4 (by kernel_rfl) ?_
              simp only [List.take_succ_cons, List.take_zero, List.drop_succ_cons, List.drop_zero]
              repeat (first | go_big_quiet_skip | (go_big_quiet_want; go_big_quiet_op; go_big_quiet_on))
              refine wpQuiet_nil ?_
              refine lexW_pure (by kernel_rfl) (by rfl) rfl Tryd.func17 rfl (by kernel_rfl) (fun x => (wrong_c A b1 vr L at_ (errR code place) x.w (HR.out x)).mono fun _ _ h => ⟨h.1.trans (by rw [HVE.out]), h.2⟩) (by go_simp) ?_
              simp only [Act.put, List.setIfInBounds_toArray, List.set_cons_zero, List.set_cons_succ]
              refine lexW_light 8 (by kernel_rfl) ?_
              simp only [List.take_succ_cons, List.take_zero, List.drop_succ_cons, List.drop_zero]
              repeat (first | go_big_quiet_skip | (go_big_quiet_want; go_big_quiet_op; go_big_quiet_on))
              refine wpQuiet_nil ?_
              refine lexW_heavy (by kernel_rfl) ?_
              go_wp2_with fail
              rw [← HVE.out]
              refine (is_c A (errR code place) code prT place _ (HS.out.below HBX5.out.drew) (errR_wf HCD5.out) (by omega) (by have := HCD5.out; omega)).mono ?_
              rintro ev w7 ⟨rfl, hb7⟩
              rw [errR_is, HVE.out]
              have HB7 := Lib.hid ((Below.refl wr.heap.size wr).drew.trans hb7)
              clear hb7
              go_wp2_with fail
              refine lexQ_more (Hof.out _ HB7.out) ?_
              refine lexW_light 4 (by kernel_rfl) ?_
              simp only [List.take_succ_cons, List.take_zero, List.drop_succ_cons, List.drop_zero]
              repeat (first | go_big_quiet_skip | (go_big_quiet_want; go_big_quiet_op; go_big_quiet_on))
              refine wpQuiet_nil ?_
              refine lexW_pure (by kernel_rfl) (by rfl) rfl Tryd.func17 rfl (by kernel_rfl) (fun x => (wrong_c A b1 vr L at_ (errR code place) x.w (HR.out x)).mono fun _ _ h => ⟨h.1.trans (by rw [HVE.out]), h.2⟩) (by go_simp) ?_
              simp only [Act.put, List.setIfInBounds_toArray, List.set_cons_zero, List.set_cons_succ]
              refine lexW_light 4 (by kernel_rfl) ?_
              simp only [List.take_succ_cons, List.take_zero, List.drop_succ_cons, List.drop_zero]
              repeat (first | go_big_quiet_skip | (go_big_quiet_want; go_big_quiet_op; go_big_quiet_on))
              refine wpQuiet_nil ?_
              refine lexW_heavy (by kernel_rfl) ?_
              go_wp2_with fail
              rw [← HVE.out]
              refine (only_c A (errR code place) code _ (HS.out.below (HBX5.out.trans (HB7.out.mono HBX5.out.size))) (errR_wf HCD5.out) (by omega) (by have := HCD5.out; omega)).mono ?_
              rintro ev w8 ⟨rfl, hb8⟩
              rw [errR_only]
              have HB8 := Lib.hid (HB7.out.trans (hb8.mono HB7.out.size))
              clear hb8
              go_wp2_with fail
              refine lexQ_more (Hof.out _ HB8.out) ?_
              refine lexW_light 4 (by kernel_rfl) ?_
              simp only [List.take_succ_cons, List.take_zero, List.drop_succ_cons, List.drop_zero]
              repeat (first | go_big_quiet_skip | (go_big_quiet_want; go_big_quiet_op; go_big_quiet_on))
              refine wpQuiet_nil ?_
              refine lexW_pure (by kernel_rfl) (by rfl) rfl Tryd.func26 rfl (by kernel_rfl) (fun x => at_c A b1 vr L at_ (errR code place) x.w (HR.out x)) (by go_simp) ?_
              simp only [Act.put, List.setIfInBounds_toArray, List.set_cons_zero, List.set_cons_succ]
              refine lexW_light 6 (by kernel_rfl) ?_
              simp only [List.take_succ_cons, List.take_zero, List.drop_succ_cons, List.drop_zero]
              repeat (first | go_big_quiet_skip | (go_big_quiet_want; go_big_quiet_op; go_big_quiet_on))
              refine wpQuiet_nil ?_
              refine lexW_done ?_
              clear y1 y2 y3
              go_wp2_with fail
              go_roundw
              case rel => exact ⟨i + 1, at_, code, place, by omega, by go_num, HCD5.out, HRW5.out.below HB8.out, HFX5.out.below HB8.out, HBX5.out.trans (HB8.out.mono HBX5.out.size)⟩
              case measure => simp [intOf]; omega
      · have g4 : decide (i < n) = true := by simp; omega
        have g5 : decide ((i : Int) < 60) = false := by simp; omega
        go_wp2_with fail
        refine (intactB_c _ _ L 12 w.heap.size _ HFX.out (HV.out.below HBX.out) HLEN.out).mono ?_
        rintro ev w6 ⟨rfl, hb6⟩
        have HW6 := Lib.hid (HBX.out.trans (hb6.mono HBX.out.size))
        clear hb6
        go_wp2_with fail
        refine (packRuns A _ (HS.out.below HW6.out)).mono ?_
        rintro ev w7 ⟨rfl, hb7⟩
        go_wp2_with fail
        go_ret
        exact ⟨rfl, HW6.out.trans (hb7.mono HW6.out.size)⟩
    · have g4 : decide (i < n) = false := by simp; omega
      go_wp2_with fail
      refine (intactB_c _ _ L 12 w.heap.size _ HFX.out (HV.out.below HBX.out) HLEN.out).mono ?_
      rintro ev w6 ⟨rfl, hb6⟩
      have HW6 := Lib.hid (HBX.out.trans (hb6.mono HBX.out.size))
      clear hb6
      go_wp2_with fail
      refine (packRuns A _ (HS.out.below HW6.out)).mono ?_
      rintro ev w7 ⟨rfl, hb7⟩
      go_wp2_with fail
      go_ret
      exact ⟨rfl, HW6.out.trans (hb7.mono HW6.out.size)⟩

end Go.Proofs.YthmgccakhhggjaaDoor
