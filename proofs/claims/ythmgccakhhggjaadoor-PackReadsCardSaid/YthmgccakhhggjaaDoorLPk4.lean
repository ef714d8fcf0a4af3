/- PackStays: true; no condition but what a start gives. -/
import Derived.Test.YthmgccakhhggjaaDoorLPk1
import Derived.Test.YthmgccakhhggjaaDoorWin2
import Derived.Test.YthmgccakhhggjaaDoorErr8
import Derived.Test.YthmgccakhhggjaaDoorByt
import Derived.Test.YthmgccakhhggjaaDoorAsks
namespace Go.Proofs.YthmgccakhhggjaaDoor
open Go.ChangeShapes Go.WideShapes Go.Deep Go.RowKit Go.Extern.Stop Go.Stop Go.Extern

def ks3 : Nat → IntKind := fun _ => .i64
set_option maxRecDepth 100000 in
theorem asks3_of_trod {H : Type} {enc : TypeId × Value → H} {W : World} {base : Nat} {v : Value} {d : DataW H} {p : List MemPlace} (hv : Value.okWide Tryd.prog W .any base 39 v) (hj : DataW.Trod enc Tryd.prog W 0 (fun _ => true) true 39 v d p)
    (_hlt : ∀ x ∈ p, x.block < W.heap.size) : ∃ n g, ReqsAt ks3 3 W v n g :=
  reqs_of ks3 3 (by omega) Tryd.underlying39 Tryd.underlying44 (by kernel_rfl) (by kernel_rfl) rfl (fun j f h => by
    match j, h with
    | 0, h => obtain rfl := Option.some.inj h; exact Tryd.underlying3
    | 1, h => obtain rfl := Option.some.inj h; exact Tryd.underlying3
    | 2, h => obtain rfl := Option.some.inj h; exact Tryd.underlying3) hv hj

theorem dec_tail : ∀ (l : List Nat) (i u U k : Nat), dec i u (l ++ [128]) = (U, k, none) → i + 1 ≤ k ∧ k ≤ i + l.length
  | [], i, u, U, k, h => by
    simp only [List.nil_append] at h
    unfold dec at h
    split at h
    · simp at h
    · simp only [Nat.lt_irrefl, if_false] at h
      unfold dec at h
      simp at h
  | c :: r, i, u, U, k, h => by
    rw [List.cons_append] at h
    unfold dec at h
    split at h
    · simp at h
    · split at h
      · simp only [Prod.mk.injEq, and_true] at h
        simp only [List.length_cons]
        omega
      · have := dec_tail r _ _ _ _ h
        simp only [List.length_cons]
        omega
theorem step_tail (l : List Nat) (at_ : Nat) (h : at_ ≤ l.length) :
    (∃ n a, stepR (l ++ [128]) at_ .nil (fun _ => true) = (n, a, .nil) ∧ at_ + 1 ≤ a ∧ a ≤ l.length) ∨ ∃ s, stepR (l ++ [128]) at_ .nil (fun _ => true) = (0, at_, .wrap prT at_ (.sent s)) := by
  have hd : (l ++ [128]).drop at_ = l.drop at_ ++ [128] := List.drop_append_of_le_length h
  rcases hdec : dec 0 0 (l.drop at_ ++ [128]) with ⟨U, k, r⟩
  cases r with
  | none =>
    have := dec_tail _ _ _ _ _ hdec
    rw [List.length_drop] at this
    exact .inl ⟨unzig U, at_ + k, by simp [stepR, ErrT.isNil, nxt, hd, hdec], by omega, by omega⟩
  | some s => exact .inr ⟨s, by simp [stepR, ErrT.isNil, nxt, hd, hdec]⟩
theorem step_err (L : List Nat) (at_ : Nat) (e : ErrT) (ok : Int → Bool) (h : e.isNil = false) : stepR L at_ e ok = (0, at_, e) := by simp [stepR, h]
theorem end_err (L : List Nat) (at_ : Nat) (e : ErrT) (h : e.isNil = false) : endE L at_ e = e := by simp [endE, h]

set_option maxRecDepth 100000 in
set_option maxHeartbeats 16000000 in
theorem packStays (A : Nat → Addr) (v : Value) (l : List Nat) (va : Value) (n : Nat) (f : Nat → Nat → Int) (w : World) (hs : SentAt w A) (hb : BytesIn w v l) (ha : ReqsAt ks3 3 w va n f) :
    Calls Tryd.prog 9 #[v, va] w (TruePost w) := by
  obtain ⟨i0, hi0, hi1⟩ := Option.map_eq_some_iff.1 nInfoB
  simp only [Prod.mk.injEq] at hi1
  obtain ⟨hz0, hz1, hz2⟩ := hi1
  have HI := Lib.hid hi0
  have HZ0 := Lib.hid hz0
  have HZ1 := Lib.hid hz1
  have HZ2 := Lib.hid hz2
  clear hi0 hz0 hz1 hz2
  have HS := Lib.hid hs
  have HBY := Lib.hid hb.byt
  have HLEN := Lib.hid hb.len
  have HV := Lib.hid hb.row
  obtain ⟨_, adv, capv, rfl, _⟩ := hb.row
  obtain ⟨pa, capa, rfl, hel⟩ := ha.form
  have HEL := Lib.hid hel
  have HNM := Lib.hid ha.num
  clear hs hb ha hel
  go_enter Tryd.func9, Tryd.ntmps9
  go_wp2_with (at_builtin; first | (refine wpList_append_slc _ rfl _ _ 24 rfl w.heap.size 5 i0 (.int .u8 0) 1 1 Tryd.underlying24 HI.out HZ0.out HZ1.out HZ2.out rfl (by decide) _ _ _ rfl (HROW1.out.below ((Below.refl _ _).alloc (Nat.le_refl _) _)) _ 1 (byteV [128]) rfl (slc_lit _ [128]) (byteV_one _) (by have := HLEN.out; unfold maxLen; omega) (by have := HLEN.out; omega) (by have := HB1.out.size; simp; omega) ?_; intro v2 w2 hrow2 hgrow2 hown2) | (refine wpList_append_slc _ rfl _ _ 24 rfl w.heap.size 5 i0 (.int .u8 0) 1 1 Tryd.underlying24 HI.out HZ0.out HZ1.out HZ2.out rfl (by decide) _ _ _ rfl (.of_owns (World.ownsRow_made w #[] 0 (Nat.le_refl _) (Nat.zero_le _) rfl)) _ l.length (byteV l) rfl (HV.out.below ((Below.refl _ _).alloc (Nat.le_refl _) _)) (byteV_one _) (by have := HLEN.out; unfold maxLen; omega) (by have := HLEN.out; omega) (by simp) ?_; intro v1 w1 hrow1 hgrow1 hown1; simp only [Nat.zero_add, List.nil_append] at hrow1; have hB1 : Below w.heap.size w w1 := ((Below.refl _ w).alloc (Nat.le_refl _) _).grown hgrow1 (by simp) (by intro k hk; have hk : some w.heap.size = some k := hk; exact Nat.le_of_eq (Option.some.inj hk)); have HB1 := Lib.hid hB1; have HROW1 := Lib.hid hrow1; obtain ⟨ad1, cap1, rfl⟩ := hrow1.len; clear hrow1 hgrow1 hown1 hB1))
  have hB2 : Below w.heap.size w w2 := (HB1.out.alloc HB1.out.size _).grown hgrow2 (by have := HB1.out.size; simp; omega) fun q hq => (HROW1.out.lt q hq).1
  have HB2 := Lib.hid hB2
  have hsl := hrow2.slc
  obtain ⟨ad2, cap2, rfl⟩ := hrow2.len
  clear hrow2 hgrow2 hown2 hB2
  have hsl2 : slc w2 1 (.slice ad2 (l.length + 1) cap2) (l ++ [128]).length (byteV (l ++ [128])) := by
    rw [byteV_append, List.length_append]
    simpa using hsl
  have HSL := Lib.hid hsl2
  clear hsl hsl2
  have hby2 : ∀ c ∈ l ++ [128], c < 256 := by
    intro c hc
    rcases List.mem_append.1 hc with h | h
    · exact HBY.out c h
    · simp at h
      omega
  refine (read_c A _ (l ++ [128]) w2 HSL.out (by have := HLEN.out; simp; omega) hby2).mono ?_
  rintro ev w3 ⟨b, vr, rfl, hR3, hb3, ho3, hB3⟩
  have HR3 := Lib.hid hR3
  have HB3 := Lib.hid (HB2.out.trans (hB3.mono HB2.out.size))
  have HLT := Lib.hid (Nat.le_trans HB2.out.size hb3)
  clear hR3 hb3 ho3 hB3 hby2
  go_wp2_with fail
  go_loopw [6] (fun s6 wr => ∃ (k at_ : Nat) (e : ErrT), s6 = .int .i64 k ∧ k ≤ l.length + 1 ∧ RdAt wr A b vr (l ++ [128]) at_ e ∧ ((e = .nil ∧ k ≤ at_ ∧ at_ ≤ l.length) ∨ ∃ s, e = .wrap prT at_ (.sent s)) ∧ Below w.heap.size w wr) (fun s6 _ => l.length + 1 - (intOf s6).toNat)
  case atStart => exact ⟨0, 0, .nil, rfl, by omega, HR3.out, .inl ⟨rfl, by omega, by omega⟩, HB3.out⟩
  case round =>
    obtain ⟨k, at_, e, rfl, hk, hrd, hor, hBr⟩ := hrel
    have HRD := Lib.hid hrd
    have HBR := Lib.hid hBr
    have HK := Lib.hid hk
    have hk63 : (k : Int) ≤ 140737488351233 := by have := HLEN.out; omega
    clear hrd hBr hk
    rcases hor with ⟨rfl, hka, hal⟩ | hor
    · have g1 : decide (k ≤ l.length) = true := by simp; omega
      have HKA := Lib.hid hka
      have HAL := Lib.hid hal
      clear hka hal
      go_wp2_with fail
      refine (wrong_c A b vr _ at_ .nil wr HRD.out).mono ?_
      rintro ev w' ⟨rfl, hww⟩
      obtain rfl := hww
      rw [show ErrT.nil.val A = .nilIface from rfl]
      go_wp2_with fail
      refine (rnum_c A b vr _ at_ .nil wr (HS.out.below HBR.out) HRD.out).mono ?_
      rintro ev w4 ⟨rfl, hR4, hM4⟩
      have HB4 := Lib.hid (HBR.out.trans (hM4.onlyB HLT.out HRD.out.lt))
      clear hM4
      rcases step_tail l at_ HAL.out with ⟨n1, a1, hst, h1, h2⟩ | ⟨s1, hst⟩
      · rw [hst] at hR4 ⊢
        simp only at hR4 ⊢
        have HR4 := Lib.hid hR4
        clear hR4 hst
        have H1 := Lib.hid h1
        have H2 := Lib.hid h2
        clear h1 h2
        go_wp2_with fail
        go_roundw
        case rel =>
          have := HKA.out
          have := H1.out
          have := H2.out
          exact ⟨k + 1, a1, .nil, by go_num, by omega, HR4.out, .inl ⟨rfl, by omega, by omega⟩, HB4.out⟩
        case measure =>
          have := HK.out
          have := HKA.out
          have := HAL.out
          simp [intOf]
          omega
      · rw [hst] at hR4 ⊢
        simp only at hR4 ⊢
        have HR4 := Lib.hid hR4
        clear hR4 hst
        go_wp2_with fail
        go_roundw
        case rel =>
          have := HKA.out
          have := HAL.out
          exact ⟨k + 1, at_, _, by go_num, by omega, HR4.out, .inr ⟨s1, rfl⟩, HB4.out⟩
        case measure =>
          have := HK.out
          have := HKA.out
          have := HAL.out
          simp [intOf]
          omega
    · have hnil : e.isNil = false := by
        obtain ⟨s, rfl⟩ := hor
        rfl
      have hq : ∀ w, (binOp .neq 31 (e.val A) (e.val A)).run Tryd.prog w = .ok (.bool false) w := by
        obtain ⟨s, rfl⟩ := hor
        exact fun w => neqWrap A prT at_ s w
      have hgd : ∀ op x y w, (eqGuard op 31 x y (e.val A) (e.val A)).run Tryd.prog w = .ok () w := by
        obtain ⟨s, rfl⟩ := hor
        exact fun op x y w => eqGuardIface op x y _ _ _ _ w
      have hn := fun w => eqlNil A e w
      have hgn := fun op x c w => eqGuardNil A e op x c w
      have hstep := fun ok => step_err (l ++ [128]) at_ e ok hnil
      have hend := end_err (l ++ [128]) at_ e hnil
      simp only [hnil] at hn
      have HST := Lib.hid hstep
      have HEND := Lib.hid hend
      have hE : ∃ ve, e.val A = ve := ⟨_, rfl⟩
      clear hor hnil hstep hend
      obtain ⟨ve, hve⟩ := hE
      rw [hve] at hq hgd hn hgn
      have HVE := Lib.hid hve
      clear hve
      by_cases hkl : k ≤ l.length
      · have g1 : decide (k ≤ l.length) = true := by simp; omega
        clear hkl
        go_wp2_with fail
        refine (wrong_c A b vr _ at_ e wr HRD.out).mono ?_
        rintro ev w' ⟨rfl, hww⟩
        obtain rfl := hww
        rw [HVE.out]
        go_wp2_with fail
        refine (wrong_c A b vr _ at_ e wr HRD.out).mono ?_
        rintro ev w' ⟨rfl, hww⟩
        obtain rfl := hww
        rw [HVE.out]
        go_wp2_with fail
        refine (at_c A b vr _ at_ e wr HRD.out).mono ?_
        rintro ev w' ⟨rfl, hww⟩
        obtain rfl := hww
        go_wp2_with fail
        go_loopw [9] (fun s9 wr => ∃ j : Nat, j ≤ n ∧ j ≤ 20 ∧ s9 = .int .i64 j ∧ RdAt wr A b vr (l ++ [128]) at_ e ∧ Below w.heap.size w wr) (fun s9 _ => n - (intOf s9).toNat)
        case atStart => exact ⟨0, by omega, by omega, rfl, HRD.out, HBR.out⟩
        case round =>
          clear HRD HBR HK hk63 g1
          obtain ⟨j, hj, hj20, rfl, hrd, hBr⟩ := hrel
          have HRD := Lib.hid hrd
          have HBR := Lib.hid hBr
          clear hrd hBr
          by_cases hjn : j < n
          · by_cases hj2 : j < 20
            · obtain ⟨bq, oq, rfl, hbq, hcq⟩ := HEL.out j hjn
              have c1 := hcq 1 (by omega)
              have c2 := hcq 2 (by omega)
              simp only [ks3] at c1 c2
              have e1 := (HBR.out.cell (p := ⟨bq, oq + j * 3 + 1, none⟩) hbq).trans c1
              have e2 := (HBR.out.cell (p := ⟨bq, oq + j * 3 + 2, none⟩) hbq).trans c2
              clear hcq c1 c2
              have HBQ := Lib.hid hbq
              generalize f j 1 = lo at *
              generalize f j 2 = hi at *
              have g3 : decide (j < n) = true := by simp; omega
              have g4 : decide ((j : Int) < 20) = true := by simp; omega
              have g5 : (((0 : Int) != 0)) = false := rfl
              have g6 : ((at_ : Int) != (at_ : Int)) = false := by simp
              go_wp2_with fail
              refine wp_region_lexA ⟨[], []⟩ (fun x => RdAt x A b vr (l ++ [128]) at_ e ∧ Below w.heap.size w x) (by kernel_rfl) (by kernel_rfl) ⟨HRD.out.below (Below.refl _ _).drew, HBR.out.drew⟩ ?_
              intro S hto hof hne
              have x1 : ∀ z : Wd S, z.w.cell? ⟨bq, oq + j * 3 + 1, none⟩ = some (.int .i64 lo) := fun z => ((hto z).2.cell (p := ⟨bq, oq + j * 3 + 1, none⟩) HBQ.out).trans ((HBR.out.cell (p := ⟨bq, oq + j * 3 + 1, none⟩) HBQ.out).symm.trans e1)
              have x2 : ∀ z : Wd S, z.w.cell? ⟨bq, oq + j * 3 + 2, none⟩ = some (.int .i64 hi) := fun z => ((hto z).2.cell (p := ⟨bq, oq + j * 3 + 2, none⟩) HBQ.out).trans ((HBR.out.cell (p := ⟨bq, oq + j * 3 + 2, none⟩) HBQ.out).symm.trans e2)
              have Hof := Lib.hid hof
              clear hto hof e1 e2
              refine lexW_light 1 (by kernel_rfl) ?_
              simp only [List.take_succ_cons, List.take_zero, List.drop_succ_cons, List.drop_zero]
              repeat (first | go_big_quiet_skip | (go_big_quiet_want; go_big_quiet_op; go_big_quiet_on))
              refine wpQuiet_nil ?_
              refine lexW_heavy (by kernel_rfl) ?_
              go_wp2_with fail
              refine (rnum_c A b vr _ at_ e _ (HS.out.below HBR.out.drew) (HRD.out.below (Below.refl _ _).drew)).mono ?_
              rintro ev w4 ⟨rfl, hR4, hM4⟩
              rw [HST.out] at hR4 ⊢
              simp only at hR4 ⊢
              have HR4 := Lib.hid hR4
              have HB4 := Lib.hid (HBR.out.drew.trans (hM4.onlyB HLT.out HRD.out.lt))
              clear hR4 hM4
              go_wp2_with fail
              refine lexQ_more (Hof.out _ ⟨HR4.out, HB4.out⟩) ?_
              refine lexW_light 13 (by kernel_rfl) ?_
              simp only [List.take_succ_cons, List.take_zero, List.drop_succ_cons, List.drop_zero]
              repeat (first | go_big_quiet_skip | (go_big_quiet_want; go_big_quiet_op; go_big_quiet_on))
              refine wpQuiet_nil ?_
              refine lexW_heavy (by kernel_rfl) ?_
              go_wp2_with fail
              refine (rin_c A b vr _ at_ e lo hi _ (HS.out.below HB4.out) HR4.out).mono ?_
              rintro ev w5 ⟨rfl, hR5, hM5⟩
              rw [HST.out] at hR5 ⊢
              simp only at hR5 ⊢
              have HR5 := Lib.hid hR5
              have HB5 := Lib.hid (HB4.out.trans (hM5.onlyB HLT.out HR4.out.lt))
              clear hR5 hM5
              go_wp2_with fail
              refine lexQ_more (Hof.out _ ⟨HR5.out, HB5.out⟩) ?_
              clear x1 x2
              refine lexW_light 4 (by kernel_rfl) ?_
              simp only [List.take_succ_cons, List.take_zero, List.drop_succ_cons, List.drop_zero]
              repeat (first | go_big_quiet_skip | (go_big_quiet_want; go_big_quiet_op; go_big_quiet_on))
              refine wpQuiet_nil ?_
              refine lexW_heavy (by kernel_rfl) ?_
              go_wp2_with fail
              refine (at_c A b vr _ at_ e _ HR5.out).mono ?_
              rintro ev w' ⟨rfl, hww⟩
              obtain rfl := hww
              go_wp2_with fail
              refine lexQ_more (Hof.out _ ⟨HR5.out, HB5.out⟩) ?_
              refine lexW_light 5 (by kernel_rfl) ?_
              simp only [List.take_succ_cons, List.take_zero, List.drop_succ_cons, List.drop_zero]
              repeat (first | go_big_quiet_skip | (go_big_quiet_want; go_big_quiet_op; go_big_quiet_on))
              refine wpQuiet_nil ?_
              refine lexW_heavy (by kernel_rfl) ?_
              go_wp2_with fail
              refine (wrong_c A b vr _ at_ e _ HR5.out).mono ?_
              rintro ev w' ⟨rfl, hww⟩
              obtain rfl := hww
              rw [HVE.out]
              go_wp2_with fail
              refine lexQ_more (Hof.out _ ⟨HR5.out, HB5.out⟩) ?_
              refine lexW_light 5 (by kernel_rfl) ?_
              simp only [List.take_succ_cons, List.take_zero, List.drop_succ_cons, List.drop_zero]
              repeat (first | go_big_quiet_skip | (go_big_quiet_want; go_big_quiet_op; go_big_quiet_on))
              refine wpQuiet_nil ?_
              refine lexW_heavy (by kernel_rfl) ?_
              go_wp2_with fail
              refine (rend_c A b vr _ at_ e _ (HS.out.below HB5.out) HR5.out).mono ?_
              rintro ev w6 ⟨rfl, hR6, hM6⟩
              rw [HEND.out] at hR6 ⊢
              rw [HVE.out]
              have HR6 := Lib.hid hR6
              have HB6 := Lib.hid (HB5.out.trans (hM6.onlyB HLT.out HR5.out.lt))
              clear hR6 hM6
              go_wp2_with fail
              refine lexQ_more (Hof.out _ ⟨HR6.out, HB6.out⟩) ?_
              refine lexW_light 3 (by kernel_rfl) ?_
              simp only [List.take_succ_cons, List.take_zero, List.drop_succ_cons, List.drop_zero]
              repeat (first | go_big_quiet_skip | (go_big_quiet_want; go_big_quiet_op; go_big_quiet_on))
              refine wpQuiet_nil ?_
              refine lexW_done ?_
              go_wp2_with fail
              go_roundw
              case rel => exact ⟨j + 1, by omega, by omega, by go_num, HR6.out, HB6.out⟩
              case measure => simp [intOf]; omega
            · have g3 : decide (j < n) = true := by simp; omega
              have g4 : decide ((j : Int) < 20) = false := by simp; omega
              go_wp2_with fail
              refine (packRuns A wr (HS.out.below HBR.out)).mono ?_
              rintro ev w7 ⟨rfl, hb7⟩
              go_wp2_with fail
              go_ret
              exact ⟨rfl, HBR.out.trans (hb7.mono HBR.out.size)⟩
          · have g3 : decide (j < n) = false := by simp; omega
            go_wp2_with fail
            refine (packRuns A wr (HS.out.below HBR.out)).mono ?_
            rintro ev w7 ⟨rfl, hb7⟩
            go_wp2_with fail
            go_ret
            exact ⟨rfl, HBR.out.trans (hb7.mono HBR.out.size)⟩
      · have g1 : decide (k ≤ l.length) = false := by simp; omega
        clear hkl
        go_wp2_with fail
        refine (wrong_c A b vr _ at_ e wr HRD.out).mono ?_
        rintro ev w' ⟨rfl, hww⟩
        obtain rfl := hww
        rw [HVE.out]
        go_wp2_with fail
        refine (at_c A b vr _ at_ e wr HRD.out).mono ?_
        rintro ev w' ⟨rfl, hww⟩
        obtain rfl := hww
        go_wp2_with fail
        go_loopw [9] (fun s9 wr => ∃ j : Nat, j ≤ n ∧ j ≤ 20 ∧ s9 = .int .i64 j ∧ RdAt wr A b vr (l ++ [128]) at_ e ∧ Below w.heap.size w wr) (fun s9 _ => n - (intOf s9).toNat)
        case atStart => exact ⟨0, by omega, by omega, rfl, HRD.out, HBR.out⟩
        case round =>
          clear HRD HBR HK hk63 g1
          obtain ⟨j, hj, hj20, rfl, hrd, hBr⟩ := hrel
          have HRD := Lib.hid hrd
          have HBR := Lib.hid hBr
          clear hrd hBr
          by_cases hjn : j < n
          · by_cases hj2 : j < 20
            · obtain ⟨bq, oq, rfl, hbq, hcq⟩ := HEL.out j hjn
              have c1 := hcq 1 (by omega)
              have c2 := hcq 2 (by omega)
              simp only [ks3] at c1 c2
              have e1 := (HBR.out.cell (p := ⟨bq, oq + j * 3 + 1, none⟩) hbq).trans c1
              have e2 := (HBR.out.cell (p := ⟨bq, oq + j * 3 + 2, none⟩) hbq).trans c2
              clear hcq c1 c2
              have HBQ := Lib.hid hbq
              generalize f j 1 = lo at *
              generalize f j 2 = hi at *
              have g3 : decide (j < n) = true := by simp; omega
              have g4 : decide ((j : Int) < 20) = true := by simp; omega
              have g5 : (((0 : Int) != 0)) = false := rfl
              have g6 : ((at_ : Int) != (at_ : Int)) = false := by simp
              go_wp2_with fail
              refine wp_region_lexA ⟨[], []⟩ (fun x => RdAt x A b vr (l ++ [128]) at_ e ∧ Below w.heap.size w x) (by kernel_rfl) (by kernel_rfl) ⟨HRD.out.below (Below.refl _ _).drew, HBR.out.drew⟩ ?_
              intro S hto hof hne
              have x1 : ∀ z : Wd S, z.w.cell? ⟨bq, oq + j * 3 + 1, none⟩ = some (.int .i64 lo) := fun z => ((hto z).2.cell (p := ⟨bq, oq + j * 3 + 1, none⟩) HBQ.out).trans ((HBR.out.cell (p := ⟨bq, oq + j * 3 + 1, none⟩) HBQ.out).symm.trans e1)
              have x2 : ∀ z : Wd S, z.w.cell? ⟨bq, oq + j * 3 + 2, none⟩ = some (.int .i64 hi) := fun z => ((hto z).2.cell (p := ⟨bq, oq + j * 3 + 2, none⟩) HBQ.out).trans ((HBR.out.cell (p := ⟨bq, oq + j * 3 + 2, none⟩) HBQ.out).symm.trans e2)
              have Hof := Lib.hid hof
              clear hto hof e1 e2
              refine lexW_light 1 (by kernel_rfl) ?_
              simp only [List.take_succ_cons, List.take_zero, List.drop_succ_cons, List.drop_zero]
              repeat (first | go_big_quiet_skip | (go_big_quiet_want; go_big_quiet_op; go_big_quiet_on))
              refine wpQuiet_nil ?_
              refine lexW_heavy (by kernel_rfl) ?_
              go_wp2_with fail
              refine (rnum_c A b vr _ at_ e _ (HS.out.below HBR.out.drew) (HRD.out.below (Below.refl _ _).drew)).mono ?_
              rintro ev w4 ⟨rfl, hR4, hM4⟩
              rw [HST.out] at hR4 ⊢
              simp only at hR4 ⊢
              have HR4 := Lib.hid hR4
              have HB4 := Lib.hid (HBR.out.drew.trans (hM4.onlyB HLT.out HRD.out.lt))
              clear hR4 hM4
              go_wp2_with fail
              refine lexQ_more (Hof.out _ ⟨HR4.out, HB4.out⟩) ?_
              refine lexW_light 13 (by kernel_rfl) ?_
              simp only [List.take_succ_cons, List.take_zero, List.drop_succ_cons, List.drop_zero]
              repeat (first | go_big_quiet_skip | (go_big_quiet_want; go_big_quiet_op; go_big_quiet_on))
              refine wpQuiet_nil ?_
              refine lexW_heavy (by kernel_rfl) ?_
              go_wp2_with fail
              refine (rin_c A b vr _ at_ e lo hi _ (HS.out.below HB4.out) HR4.out).mono ?_
              rintro ev w5 ⟨rfl, hR5, hM5⟩
              rw [HST.out] at hR5 ⊢
              simp only at hR5 ⊢
              have HR5 := Lib.hid hR5
              have HB5 := Lib.hid (HB4.out.trans (hM5.onlyB HLT.out HR4.out.lt))
              clear hR5 hM5
              go_wp2_with fail
              refine lexQ_more (Hof.out _ ⟨HR5.out, HB5.out⟩) ?_
              clear x1 x2
              refine lexW_light 4 (by kernel_rfl) ?_
              simp only [List.take_succ_cons, List.take_zero, List.drop_succ_cons, List.drop_zero]
              repeat (first | go_big_quiet_skip | (go_big_quiet_want; go_big_quiet_op; go_big_quiet_on))
              refine wpQuiet_nil ?_
              refine lexW_heavy (by kernel_rfl) ?_
              go_wp2_with fail
              refine (at_c A b vr _ at_ e _ HR5.out).mono ?_
              rintro ev w' ⟨rfl, hww⟩
              obtain rfl := hww
              go_wp2_with fail
              refine lexQ_more (Hof.out _ ⟨HR5.out, HB5.out⟩) ?_
              refine lexW_light 5 (by kernel_rfl) ?_
              simp only [List.take_succ_cons, List.take_zero, List.drop_succ_cons, List.drop_zero]
              repeat (first | go_big_quiet_skip | (go_big_quiet_want; go_big_quiet_op; go_big_quiet_on))
              refine wpQuiet_nil ?_
              refine lexW_heavy (by kernel_rfl) ?_
              go_wp2_with fail
              refine (wrong_c A b vr _ at_ e _ HR5.out).mono ?_
              rintro ev w' ⟨rfl, hww⟩
              obtain rfl := hww
              rw [HVE.out]
              go_wp2_with fail
              refine lexQ_more (Hof.out _ ⟨HR5.out, HB5.out⟩) ?_
              refine lexW_light 5 (by kernel_rfl) ?_
              simp only [List.take_succ_cons, List.take_zero, List.drop_succ_cons, List.drop_zero]
              repeat (first | go_big_quiet_skip | (go_big_quiet_want; go_big_quiet_op; go_big_quiet_on))
              refine wpQuiet_nil ?_
              refine lexW_heavy (by kernel_rfl) ?_
              go_wp2_with fail
              refine (rend_c A b vr _ at_ e _ (HS.out.below HB5.out) HR5.out).mono ?_
              rintro ev w6 ⟨rfl, hR6, hM6⟩
              rw [HEND.out] at hR6 ⊢
              rw [HVE.out]
              have HR6 := Lib.hid hR6
              have HB6 := Lib.hid (HB5.out.trans (hM6.onlyB HLT.out HR5.out.lt))
              clear hR6 hM6
              go_wp2_with fail
              refine lexQ_more (Hof.out _ ⟨HR6.out, HB6.out⟩) ?_
              refine lexW_light 3 (by kernel_rfl) ?_
              simp only [List.take_succ_cons, List.take_zero, List.drop_succ_cons, List.drop_zero]
              repeat (first | go_big_quiet_skip | (go_big_quiet_want; go_big_quiet_op; go_big_quiet_on))
              refine wpQuiet_nil ?_
              refine lexW_done ?_
              go_wp2_with fail
              go_roundw
              case rel => exact ⟨j + 1, by omega, by omega, by go_num, HR6.out, HB6.out⟩
              case measure => simp [intOf]; omega
            · have g3 : decide (j < n) = true := by simp; omega
              have g4 : decide ((j : Int) < 20) = false := by simp; omega
              go_wp2_with fail
              refine (packRuns A wr (HS.out.below HBR.out)).mono ?_
              rintro ev w7 ⟨rfl, hb7⟩
              go_wp2_with fail
              go_ret
              exact ⟨rfl, HBR.out.trans (hb7.mono HBR.out.size)⟩
          · have g3 : decide (j < n) = false := by simp; omega
            go_wp2_with fail
            refine (packRuns A wr (HS.out.below HBR.out)).mono ?_
            rintro ev w7 ⟨rfl, hb7⟩
            go_wp2_with fail
            go_ret
            exact ⟨rfl, HBR.out.trans (hb7.mono HBR.out.size)⟩

end Go.Proofs.YthmgccakhhggjaaDoor
