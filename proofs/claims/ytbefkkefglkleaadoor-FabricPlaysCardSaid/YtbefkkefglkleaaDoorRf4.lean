/- The document's Send. -/
import Derived.Test.YtbefkkefglkleaaDoorRf3
import Derived.Test.YtbefkkefglkleaaDoorLexN
import Derived.Test.YtbefkkefglkleaaDoorCpy
import Derived.LaidEqlPtr
namespace Go.Proofs.YtbefkkefglkleaaDoor
open Go.RowKit Go.Extern.Stop Go.Stop Go.Extern

theorem cnt_full {room : Int} {F : Plc → List MsgV} {l : List MsgV} {i : Nat} {m : MsgV} (hm : l[i]? = some m) : fullB room F l i = decide (room ≤ ((F (plM m)).length : Int) + (cntP (l.take i) (plM m) : Nat)) := by
  unfold fullB
  rw [hm]
  simp only
  rw [List.take_add_one, hm, cntP_append]
  simp [cntP]
  omega
theorem cat_new' (w : World) (m : MsgV) : ∀ j u, m.cs[j]? = some u → (w.alloc (.cells m.cs.toArray 32)).drew.cell? ((⟨w.heap.size, 0, none⟩ : Addr).add j) = some u := fun j u hj => by
  have h : (w.alloc (.cells m.cs.toArray 32)).cell? ((⟨w.heap.size, 0, none⟩ : Addr).add j) = some u := by
    rw [Addr.add_lit, Nat.zero_add, World.cell?_alloc_new, List.getElem?_toArray]
    exact hj
  exact h
theorem send_off' {cores room : Int} {F : Plc → List MsgV} {l : List MsgV} {i : Int} {k : Nat} (h : fitsE cores room F l = .wrap fsT i (.sent k)) : sendF cores room F l = F := by
  unfold sendF
  rw [h]
  rfl
theorem bad_ok {n : Nat} {m : MsgV} (h : badM n m = false) : placeOk n (poolM m.kind) m.core = true := by
  simp only [badM, Bool.or_eq_false_iff, Bool.not_eq_false', decide_eq_false_iff_not] at h
  have hr := (rightM_iff m).1 h.1
  have hk := hr.kind
  have hc := hr.core
  unfold placeOk poolM
  simp only [Bool.or_eq_true, Bool.and_eq_true, decide_eq_true_eq]
  repeat' split
  all_goals omega
theorem nInfoSM : (Tryd.prog.info? 44).map (fun i => i.size) = some 1 := by kernel_rfl
theorem winRow.blk {w : World} {base : Nat} {e : TypeId} {size g off n cap m : Nat} {xs : List Value} (h : winRow w base e size (.slice (some ⟨g, off, none⟩) n cap) m xs) : ∃ cur, w.heap[g]? = some (.cells cur e (0, 0)) := by
  rcases h.2 with ⟨h2, _⟩ | ⟨g', off', cap', cur, hv, _, hg, _⟩
  · cases h2
  · simp only [Value.slice.injEq, Option.some.injEq, Addr.mk.injEq] at hv
    obtain ⟨⟨rfl, _⟩, _⟩ := hv
    exact ⟨cur, hg⟩
/-- Two rows are one just if their places are. -/
theorem rowPtr_eq {w0 w : World} {n : Nat} {X : Nat → Value} {V : Nat → Nat → Value} {F : Plc → List MsgV} (h : RfB w0 n X V F w) (hn : 1 ≤ n) {p c p' c' : Int} (h1 : placeOk n p c = true) (h2 : placeOk n p' c' = true) : ∃ g o g' o' : Nat, rowPtr n X p c = .pointer (some ⟨g, o, none⟩) ∧ rowPtr n X p' c' = .pointer (some ⟨g', o', none⟩) ∧ decide ((⟨g, o, none⟩ : Addr) = ⟨g', o', none⟩) = decide (placeP p c = placeP p' c') ∧ (∃ cur, w.heap[g]? = some (.cells cur 44 (0, 0))) ∧ ∃ cur, w.heap[g']? = some (.cells cur 44 (0, 0)) := by
  obtain ⟨a, d, g, o, ha, hd, e1, e2, _, ⟨cap, e3⟩, _, _⟩ := rowPtr_on h hn h1
  obtain ⟨a', d', g', o', ha', hd', f1, f2, _, ⟨cap', f3⟩, _, _⟩ := rowPtr_on h hn h2
  have hb1 : ∃ cur, w.heap[g]? = some (.cells cur 44 (0, 0)) := by have h5 := h.lst a ha; rw [e3] at h5; exact h5.blk
  have hb2 : ∃ cur, w.heap[g']? = some (.cells cur 44 (0, 0)) := by have h5 := h.lst a' ha'; rw [f3] at h5; exact h5.blk
  refine ⟨g, o + d, g', o' + d', e2, f2, ?_, hb1, hb2⟩
  rw [e1, f1]
  by_cases hp : a = a'
  · subst hp
    rw [e3] at f3
    simp only [Value.slice.injEq, Option.some.injEq, Addr.mk.injEq, true_and, and_true] at f3
    obtain ⟨⟨rfl, rfl⟩, _⟩ := f3
    have e : ((⟨g, o + d, none⟩ : Addr) = ⟨g, o + d', none⟩) ↔ (((a : Int), (d : Int)) = ((a : Int), (d' : Int))) := by
      simp only [Addr.mk.injEq, Prod.mk.injEq, true_and, and_true]
      omega
    rw [decide_eq_decide.2 e]
  · have hg : g ≠ g' := fun e => h.xx a a' ha ha' hp g (by rw [e3]; rfl) (by rw [f3, e]; rfl)
    have e : ((⟨g, o + d, none⟩ : Addr) = ⟨g', o' + d', none⟩) ↔ (((a : Int), (d : Int)) = ((a' : Int), (d' : Int))) := by
      simp only [Addr.mk.injEq, Prod.mk.injEq]
      constructor
      · rintro ⟨e, _⟩; exact absurd e hg
      · rintro ⟨e, _⟩; omega
    rw [decide_eq_decide.2 e]

set_option maxRecDepth 100000 in
set_option maxHeartbeats 8000000 in
theorem rsend_c (w0 : World) (b n : Nat) (room : Int) (X : Nat → Value) (V : Nat → Nat → Value) (F : Plc → List MsgV) (v : Value) (l : List MsgV) (w : World) (hh : RfH b n room X w) (h : RfB w0 n X V F w) (hv : slc w 13 v l.length (flatM l)) (h1 : 1 ≤ n) (h2 : n ≤ 64) (hbo : ¬ RfOwn n X V b) (hap : 0 < l.length → ∀ q, v.ownBlock = some q → ¬ RfOwn n X V q) (hl : l.length ≤ 100000) (hF : ∀ q, (F q).length ≤ 100000) (hcap : ∀ p m c, v = .slice p m c → m ≤ c) :
    Calls Tryd.prog 20 #[.pointer (some ⟨b, 0, none⟩), v] w fun ev w' => ev = .returned (.tuple #[.int .i64 (codeE (fitsE n room F l)), .int .i64 (atE (fitsE n room F l))]) ∧ RfPost w0 n X V (sendF n room F l) w w' := by
  have HH := Lib.hid hh
  have HB := Lib.hid h
  have HBO := Lib.hid hbo
  have HAP := Lib.hid hap
  have HLN := Lib.hid hl
  have HFL := Lib.hid hF
  have HV := Lib.hid hv
  obtain ⟨_, ad, cap, rfl, hel⟩ := hv
  have hcp : l.length ≤ cap := hcap _ _ _ rfl
  have HEL := Lib.hid hel
  obtain ⟨i0, hi0, hi1⟩ := Option.map_eq_some_iff.1 nInfoM
  simp only [Prod.mk.injEq] at hi1
  obtain ⟨hz0, hz1, hz2⟩ := hi1
  have HI := Lib.hid hi0
  have HZ0 := Lib.hid hz0
  have HZ1 := Lib.hid hz1
  have HZ2 := Lib.hid hz2
  clear hh h hbo hap hF hel hcap hi0 hz0 hz1 hz2
  go_enter Tryd.func20, Tryd.ntmps20
  go_upto_block 0 with fail
  go_cut [4, 5, 6, 7, 18] from 18 to 36 (fun _ _ _ _ _ wx => (∀ j, j < l.length → badB n l j = false) ∧ Below w.heap.size w wx)
  case first =>
    go_wp2_with fail
    go_loopw [18] (fun s18 wr => ∃ i : Nat, i ≤ l.length ∧ s18 = .int .i64 i ∧ (∀ j, j < i → badB n l j = false) ∧ Below w.heap.size w wr) (fun s18 _ => l.length - (intOf s18).toNat)
    case atStart => exact ⟨0, by omega, rfl, fun j hj => absurd hj (by omega), Below.refl _ _⟩
    case round =>
      obtain ⟨i, hi, rfl, hbad, hBB⟩ := hrel
      have HBD := Lib.hid hbad
      have HBW := Lib.hid hBB
      clear hbad hBB
      by_cases hin : i < l.length
      · have k1 : decide (i < l.length) = true := by simpa using hin
        have k2 : decide ((i : Int) < (l.length : Int)) = true := by simp; omega
        obtain ⟨m, hm⟩ : ∃ m, l[i]? = some m := ⟨_, List.getElem?_eq_getElem hin⟩
        obtain ⟨g, off, rfl, hg, hc⟩ := HEL.out (by omega)
        obtain ⟨m1, m2, m3, m4, m5, m6, m7, m8, m9, m10, m11, m12, m13⟩ := m
        have HM := Lib.hid hm
        have a0 := (HBW.out.cell (p := ⟨g, _, none⟩) hg).trans (hc _ _ (flatM_at hm (c := 0) rfl))
        have a1 := (HBW.out.cell (p := ⟨g, _, none⟩) hg).trans (hc _ _ (flatM_at hm (c := 1) rfl))
        have a2 := (HBW.out.cell (p := ⟨g, _, none⟩) hg).trans (hc _ _ (flatM_at hm (c := 2) rfl))
        have a3 := (HBW.out.cell (p := ⟨g, _, none⟩) hg).trans (hc _ _ (flatM_at hm (c := 3) rfl))
        have a4 := (HBW.out.cell (p := ⟨g, _, none⟩) hg).trans (hc _ _ (flatM_at hm (c := 4) rfl))
        have a5 := (HBW.out.cell (p := ⟨g, _, none⟩) hg).trans (hc _ _ (flatM_at hm (c := 5) rfl))
        have a6 := (HBW.out.cell (p := ⟨g, _, none⟩) hg).trans (hc _ _ (flatM_at hm (c := 6) rfl))
        have a7 := (HBW.out.cell (p := ⟨g, _, none⟩) hg).trans (hc _ _ (flatM_at hm (c := 7) rfl))
        have a8 := (HBW.out.cell (p := ⟨g, _, none⟩) hg).trans (hc _ _ (flatM_at hm (c := 8) rfl))
        have a9 := (HBW.out.cell (p := ⟨g, _, none⟩) hg).trans (hc _ _ (flatM_at hm (c := 9) rfl))
        have a10 := (HBW.out.cell (p := ⟨g, _, none⟩) hg).trans (hc _ _ (flatM_at hm (c := 10) rfl))
        have a11 := (HBW.out.cell (p := ⟨g, _, none⟩) hg).trans (hc _ _ (flatM_at hm (c := 11) rfl))
        have a12 := (HBW.out.cell (p := ⟨g, _, none⟩) hg).trans (hc _ _ (flatM_at hm (c := 12) rfl))
        simp only [Nat.add_zero, ← Nat.add_assoc] at a0 a1 a2 a3 a4 a5 a6 a7 a8 a9 a10 a11 a12
        go_upto_region 4 with fail
        have hb4 : Below wr.heap.size wr (wr.alloc (.cells #[.int .i64 m1, .int .i64 m2, .int .i64 m3, .int .i64 m4, .int .i64 m5, .int .i64 m6, .int .i64 m7, .int .u32 m8, .int .u32 m9, .int .u32 m10, .int .u32 m11, .int .u32 m12, .bool m13] 32)) := (Below.refl _ _).alloc (Nat.le_refl _) _
        have HB4 := Lib.hid (HBW.out.trans (hb4.mono HBW.out.size))
        have HX4 := Lib.hid (heap_alloc_new wr (.cells #[.int .i64 m1, .int .i64 m2, .int .i64 m3, .int .i64 m4, .int .i64 m5, .int .i64 m6, .int .i64 m7, .int .u32 m8, .int .u32 m9, .int .u32 m10, .int .u32 m11, .int .u32 m12, .bool m13] 32))
        have HH4 := Lib.hid (HH.out.bel (HBW.out.trans (hb4.mono HBW.out.size)))
        obtain ⟨h6, hh6⟩ : ∃ h, h = wr.heap.size := ⟨_, rfl⟩
        rw [← hh6] at HX4 ⊢
        generalize wr.alloc (.cells #[.int .i64 m1, .int .i64 m2, .int .i64 m3, .int .i64 m4, .int .i64 m5, .int .i64 m6, .int .i64 m7, .int .u32 m8, .int .u32 m9, .int .u32 m10, .int .u32 m11, .int .u32 m12, .bool m13] 32) = w4 at *
        clear hb4 hh6 HBW hm hc a0 a1 a2 a3 a4 a5 a6 a7 a8 a9 a10 a11 a12
        have hbb : badB n l i = (!rightM ⟨m1, m2, m3, m4, m5, m6, m7, m8, m9, m10, m11, m12, m13⟩ || decide ((n : Int) ≤ m2)) := by unfold badB; rw [HM.out]; rfl
        have HBB := Lib.hid hbb
        clear hbb
        have g0 := cell_of HH4.out 0
        simp only [hdrV, List.getElem?_toArray, List.getElem?_cons_zero] at g0
        have hlb := HH4.out.lt
        have hxq := HX4.out
        have q0 := cell_of hxq 0
        have q1 := cell_of hxq 1
        have q2 := cell_of hxq 2
        have q3 := cell_of hxq 3
        have q4 := cell_of hxq 4
        have q5 := cell_of hxq 5
        have q6 := cell_of hxq 6
        have q7 := cell_of hxq 7
        have q8 := cell_of hxq 8
        have q9 := cell_of hxq 9
        have q10 := cell_of hxq 10
        have q11 := cell_of hxq 11
        have q12 := cell_of hxq 12
        simp only [List.getElem?_toArray, List.getElem?_cons_zero, List.getElem?_cons_succ] at q0 q1 q2 q3 q4 q5 q6 q7 q8 q9 q10 q11 q12
        have hlq := (Array.getElem?_eq_some_iff.1 hxq).1
        refine wp_region_lexA ⟨[], []⟩ (fun x => Below w4.heap.size w4 x) (by kernel_rfl) (by kernel_rfl) (Below.refl _ _).drew ?_
        intro S hto hof hne
        have x0 : ∀ z : Wd S, z.w.cell? ⟨b, 0, none⟩ = some (.int .i64 n) := fun z => ((hto z).cell (p := ⟨b, 0, none⟩) hlb).trans g0
        have y0 : ∀ z : Wd S, z.w.cell? ⟨h6, 0, none⟩ = some (.int .i64 m1) := fun z => ((hto z).cell (p := ⟨h6, 0, none⟩) hlq).trans q0
        have y1 : ∀ z : Wd S, z.w.cell? ⟨h6, 1, none⟩ = some (.int .i64 m2) := fun z => ((hto z).cell (p := ⟨h6, 1, none⟩) hlq).trans q1
        have y2 : ∀ z : Wd S, z.w.cell? ⟨h6, 2, none⟩ = some (.int .i64 m3) := fun z => ((hto z).cell (p := ⟨h6, 2, none⟩) hlq).trans q2
        have y3 : ∀ z : Wd S, z.w.cell? ⟨h6, 3, none⟩ = some (.int .i64 m4) := fun z => ((hto z).cell (p := ⟨h6, 3, none⟩) hlq).trans q3
        have y4 : ∀ z : Wd S, z.w.cell? ⟨h6, 4, none⟩ = some (.int .i64 m5) := fun z => ((hto z).cell (p := ⟨h6, 4, none⟩) hlq).trans q4
        have y5 : ∀ z : Wd S, z.w.cell? ⟨h6, 5, none⟩ = some (.int .i64 m6) := fun z => ((hto z).cell (p := ⟨h6, 5, none⟩) hlq).trans q5
        have y6 : ∀ z : Wd S, z.w.cell? ⟨h6, 6, none⟩ = some (.int .i64 m7) := fun z => ((hto z).cell (p := ⟨h6, 6, none⟩) hlq).trans q6
        have y7 : ∀ z : Wd S, z.w.cell? ⟨h6, 7, none⟩ = some (.int .u32 m8) := fun z => ((hto z).cell (p := ⟨h6, 7, none⟩) hlq).trans q7
        have y8 : ∀ z : Wd S, z.w.cell? ⟨h6, 8, none⟩ = some (.int .u32 m9) := fun z => ((hto z).cell (p := ⟨h6, 8, none⟩) hlq).trans q8
        have y9 : ∀ z : Wd S, z.w.cell? ⟨h6, 9, none⟩ = some (.int .u32 m10) := fun z => ((hto z).cell (p := ⟨h6, 9, none⟩) hlq).trans q9
        have y10 : ∀ z : Wd S, z.w.cell? ⟨h6, 10, none⟩ = some (.int .u32 m11) := fun z => ((hto z).cell (p := ⟨h6, 10, none⟩) hlq).trans q10
        have y11 : ∀ z : Wd S, z.w.cell? ⟨h6, 11, none⟩ = some (.int .u32 m12) := fun z => ((hto z).cell (p := ⟨h6, 11, none⟩) hlq).trans q11
        have y12 : ∀ z : Wd S, z.w.cell? ⟨h6, 12, none⟩ = some (.bool m13) := fun z => ((hto z).cell (p := ⟨h6, 12, none⟩) hlq).trans q12
        have Hof := Lib.hid hof
        clear hto hof g0 hlb hxq hlq q0 q1 q2 q3 q4 q5 q6 q7 q8 q9 q10 q11 q12
        refine lexW_light 1 (by kernel_rfl) ?_
        simp only [List.take_succ_cons, List.take_zero, List.drop_succ_cons, List.drop_zero]
        repeat (first | go_big_quiet_skip | (go_big_quiet_want; go_big_quiet_op; go_big_quiet_on))
        refine wpQuiet_nil ?_
        refine lexW_heavy (by kernel_rfl) ?_
        go_wp2_with fail
        refine (rright_c ⟨m1, m2, m3, m4, m5, m6, m7, m8, m9, m10, m11, m12, m13⟩ w4.drew).mono ?_
        rintro ev w5 ⟨rfl, hb5⟩
        have HB5 := Lib.hid ((Below.refl w4.heap.size w4).drew.trans hb5)
        have HB6 := Lib.hid (HB4.out.trans (HB5.out.mono HB4.out.size))
        clear hb5
        go_wp2_with fail
        refine lexQ_more (Hof.out _ HB5.out) ?_
        cases hr : rightM ⟨m1, m2, m3, m4, m5, m6, m7, m8, m9, m10, m11, m12, m13⟩ with
        | false =>
          have HFE := Lib.hid (fits_bad (room := room) (F := F) hin HBD.out (by rw [HBB.out, hr]; rfl))
          clear hr
          refine lexW_light 10 (by kernel_rfl) ?_
          simp only [List.take_succ_cons, List.take_zero, List.drop_succ_cons, List.drop_zero]
          repeat (first | go_big_quiet_skip | (go_big_quiet_want; go_big_quiet_op; go_big_quiet_on))
          refine wpQuiet_nil ?_
          refine lexW_done ?_
          clear x0 y0 y1 y2 y3 y4 y5 y6 y7 y8 y9 y10 y11 y12 Hof hne
          go_wp2_with fail
          go_ret2
          rw [HFE.out]
          exact ⟨rfl, by rw [(send_off' HFE.out)]; exact ⟨V, HB.out.bel HB6.out, Mods.of_below HB6.out, fun q hq => .inl hq⟩⟩
        | true =>
          by_cases hco : (n : Int) ≤ m2
          · have HFE := Lib.hid (fits_bad (room := room) (F := F) hin HBD.out (by rw [HBB.out, hr]; simpa using hco))
            have g9 : decide ((n : Int) ≤ m2) = true := by simpa using hco
            clear hr
            refine lexW_light 10 (by kernel_rfl) ?_
            simp only [List.take_succ_cons, List.take_zero, List.drop_succ_cons, List.drop_zero]
            repeat (first | go_big_quiet_skip | (go_big_quiet_want; go_big_quiet_op; go_big_quiet_on))
            refine wpQuiet_nil ?_
            refine lexW_done ?_
            clear x0 y0 y1 y2 y3 y4 y5 y6 y7 y8 y9 y10 y11 y12 Hof hne
            go_wp2_with fail
            go_ret2
            rw [HFE.out]
            exact ⟨rfl, by rw [(send_off' HFE.out)]; exact ⟨V, HB.out.bel HB6.out, Mods.of_below HB6.out, fun q hq => .inl hq⟩⟩
          · have HNX := Lib.hid (show ∀ j, j < i + 1 → badB n l j = false from fun j hj => by
              by_cases hji : j = i
              · subst hji
                rw [HBB.out, hr]
                simpa using hco
              · exact HBD.out j (by omega))
            have g9 : decide ((n : Int) ≤ m2) = false := by simpa using hco
            clear hr
            refine lexW_light 10 (by kernel_rfl) ?_
            simp only [List.take_succ_cons, List.take_zero, List.drop_succ_cons, List.drop_zero]
            repeat (first | go_big_quiet_skip | (go_big_quiet_want; go_big_quiet_op; go_big_quiet_on))
            refine wpQuiet_nil ?_
            refine lexW_done ?_
            clear x0 y0 y1 y2 y3 y4 y5 y6 y7 y8 y9 y10 y11 y12 Hof hne
            go_wp2_with fail
            go_roundw
            case rel => exact ⟨i + 1, by omega, by go_num, HNX.out, HB6.out⟩
            case measure => simp [intOf] <;> omega
      · have k1 : decide (i < l.length) = false := by simpa using hin
        have HEQ := Lib.hid (show i = l.length by omega)
        go_wp2_with fail
        go_meet
        case rel => exact ⟨by have h := HBD.out; rw [HEQ.out] at h; exact h, HBW.out⟩
  case rest =>
    obtain ⟨hnb, hB⟩ := hcut
    have HNB := Lib.hid hnb
    have HBW := Lib.hid hB
    clear hnb hB
    generalize wc = w1 at *
    go_upto_block 2 with fail
    go_cut [4, 5, 8, 9, 10, 11, 12, 13, 39] from 37 to 87 (fun _ _ _ _ _ _ _ _ _ wx => (∀ j, j < l.length → fullB room F l j = false) ∧ Below w.heap.size w wx)
    case first =>
      go_wp2_with fail
      go_loopw [39] (fun s39 wr => ∃ i : Nat, i ≤ l.length ∧ s39 = .int .i64 i ∧ (∀ j, j < i → fullB room F l j = false) ∧ Below w.heap.size w wr) (fun s39 _ => l.length - (intOf s39).toNat)
      case atStart => exact ⟨0, by omega, rfl, fun j hj => absurd hj (by omega), HBW.out⟩
      case round =>
        clear HBW
        obtain ⟨i, hi, rfl, hful, hBB⟩ := hrel
        have HFU := Lib.hid hful
        have HBW := Lib.hid hBB
        clear hful hBB
        by_cases hin : i < l.length
        · have k1 : decide (i < l.length) = true := by simpa using hin
          have k2 : decide ((i : Int) < (l.length : Int)) = true := by simp; omega
          obtain ⟨m, hm⟩ : ∃ m, l[i]? = some m := ⟨_, List.getElem?_eq_getElem hin⟩
          obtain ⟨g, off, rfl, hg, hc⟩ := HEL.out (by omega)
          have HC := Lib.hid hc
          have HG := Lib.hid hg
          obtain ⟨m1, m2, m3, m4, m5, m6, m7, m8, m9, m10, m11, m12, m13⟩ := m
          have HM := Lib.hid hm
          have HMB := Lib.hid (show badM n ⟨m1, m2, m3, m4, m5, m6, m7, m8, m9, m10, m11, m12, m13⟩ = false from by have h := HNB.out i hin; unfold badB at h; rw [hm] at h; exact h)
          have HPO := Lib.hid (bad_ok HMB.out)
          have a0 := (HBW.out.cell (p := ⟨g, _, none⟩) hg).trans (hc _ _ (flatM_at hm (c := 0) rfl))
          have a1 := (HBW.out.cell (p := ⟨g, _, none⟩) hg).trans (hc _ _ (flatM_at hm (c := 1) rfl))
          have a2 := (HBW.out.cell (p := ⟨g, _, none⟩) hg).trans (hc _ _ (flatM_at hm (c := 2) rfl))
          have a3 := (HBW.out.cell (p := ⟨g, _, none⟩) hg).trans (hc _ _ (flatM_at hm (c := 3) rfl))
          have a4 := (HBW.out.cell (p := ⟨g, _, none⟩) hg).trans (hc _ _ (flatM_at hm (c := 4) rfl))
          have a5 := (HBW.out.cell (p := ⟨g, _, none⟩) hg).trans (hc _ _ (flatM_at hm (c := 5) rfl))
          have a6 := (HBW.out.cell (p := ⟨g, _, none⟩) hg).trans (hc _ _ (flatM_at hm (c := 6) rfl))
          have a7 := (HBW.out.cell (p := ⟨g, _, none⟩) hg).trans (hc _ _ (flatM_at hm (c := 7) rfl))
          have a8 := (HBW.out.cell (p := ⟨g, _, none⟩) hg).trans (hc _ _ (flatM_at hm (c := 8) rfl))
          have a9 := (HBW.out.cell (p := ⟨g, _, none⟩) hg).trans (hc _ _ (flatM_at hm (c := 9) rfl))
          have a10 := (HBW.out.cell (p := ⟨g, _, none⟩) hg).trans (hc _ _ (flatM_at hm (c := 10) rfl))
          have a11 := (HBW.out.cell (p := ⟨g, _, none⟩) hg).trans (hc _ _ (flatM_at hm (c := 11) rfl))
          have a12 := (HBW.out.cell (p := ⟨g, _, none⟩) hg).trans (hc _ _ (flatM_at hm (c := 12) rfl))
          simp only [Nat.add_zero, ← Nat.add_assoc] at a0 a1 a2 a3 a4 a5 a6 a7 a8 a9 a10 a11 a12
          go_upto_region 10 with fail
          have hb4 : Below wr.heap.size wr (wr.alloc (.cells #[.int .i64 m1, .int .i64 m2, .int .i64 m3, .int .i64 m4, .int .i64 m5, .int .i64 m6, .int .i64 m7, .int .u32 m8, .int .u32 m9, .int .u32 m10, .int .u32 m11, .int .u32 m12, .bool m13] 32)) := (Below.refl _ _).alloc (Nat.le_refl _) _
          have HB4 := Lib.hid (HBW.out.trans (hb4.mono HBW.out.size))
          have HX4 := Lib.hid (heap_alloc_new wr (.cells #[.int .i64 m1, .int .i64 m2, .int .i64 m3, .int .i64 m4, .int .i64 m5, .int .i64 m6, .int .i64 m7, .int .u32 m8, .int .u32 m9, .int .u32 m10, .int .u32 m11, .int .u32 m12, .bool m13] 32))
          have HH4 := Lib.hid (HH.out.bel HB4.out)
          have HB4B := Lib.hid (HB.out.bel HB4.out)
          obtain ⟨h9, hh9⟩ : ∃ h, h = wr.heap.size := ⟨_, rfl⟩
          rw [← hh9] at HX4 ⊢
          generalize wr.alloc (.cells #[.int .i64 m1, .int .i64 m2, .int .i64 m3, .int .i64 m4, .int .i64 m5, .int .i64 m6, .int .i64 m7, .int .u32 m8, .int .u32 m9, .int .u32 m10, .int .u32 m11, .int .u32 m12, .bool m13] 32) = w4 at *
          clear hb4 hh9 HBW hm hc a0 a1 a2 a3 a4 a5 a6 a7 a8 a9 a10 a11 a12
          obtain ⟨p', c', gp, op, hp', hc', hpl, hpt, hgl, _, hce, _⟩ := rowPtr_on HB4B.out h1 HPO.out
          obtain ⟨ak, ck, hvv⟩ := (HB4B.out.row p' c' hp' hc').len
          have HPT := Lib.hid hpt
          have hpl : plM ⟨m1, m2, m3, m4, m5, m6, m7, m8, m9, m10, m11, m12, m13⟩ = ((p' : Int), (c' : Int)) := hpl
          have HPL := Lib.hid hpl
          rw [hvv] at hce
          obtain ⟨nF, hnF⟩ : ∃ nF, nF = (F ((p' : Int), (c' : Int))).length := ⟨_, rfl⟩
          have hnl : nF ≤ 100000 := by rw [hnF]; exact HFL.out _
          rw [← hnF] at hce
          have HNF := Lib.hid (show (F (plM ⟨m1, m2, m3, m4, m5, m6, m7, m8, m9, m10, m11, m12, m13⟩)).length = nF from by rw [hpl, hnF])
          clear hpl hpt hvv hnF hp' hc'
          have hxq := HX4.out
          have q0 := cell_of hxq 0
          have q1 := cell_of hxq 1
          have q2 := cell_of hxq 2
          have q3 := cell_of hxq 3
          have q4 := cell_of hxq 4
          have q5 := cell_of hxq 5
          have q6 := cell_of hxq 6
          have q7 := cell_of hxq 7
          have q8 := cell_of hxq 8
          have q9 := cell_of hxq 9
          have q10 := cell_of hxq 10
          have q11 := cell_of hxq 11
          have q12 := cell_of hxq 12
          simp only [List.getElem?_toArray, List.getElem?_cons_zero, List.getElem?_cons_succ] at q0 q1 q2 q3 q4 q5 q6 q7 q8 q9 q10 q11 q12
          have hlq := (Array.getElem?_eq_some_iff.1 hxq).1
          refine wp_region_lexA ⟨[38, 37], []⟩ (fun x => Below w4.heap.size w4 x) (by kernel_rfl) (by kernel_rfl) (Below.refl _ _).drew ?_
          intro S hto hof hne
          have xg : ∀ z : Wd S, z.w.cell? ⟨gp, op + c', none⟩ = some (.slice ak nF ck) := fun z => ((hto z).cell (p := ⟨gp, op + c', none⟩) hgl).trans hce
          have y0 : ∀ z : Wd S, z.w.cell? ⟨h9, 0, none⟩ = some (.int .i64 m1) := fun z => ((hto z).cell (p := ⟨h9, 0, none⟩) hlq).trans q0
          have y1 : ∀ z : Wd S, z.w.cell? ⟨h9, 1, none⟩ = some (.int .i64 m2) := fun z => ((hto z).cell (p := ⟨h9, 1, none⟩) hlq).trans q1
          have y2 : ∀ z : Wd S, z.w.cell? ⟨h9, 2, none⟩ = some (.int .i64 m3) := fun z => ((hto z).cell (p := ⟨h9, 2, none⟩) hlq).trans q2
          have y3 : ∀ z : Wd S, z.w.cell? ⟨h9, 3, none⟩ = some (.int .i64 m4) := fun z => ((hto z).cell (p := ⟨h9, 3, none⟩) hlq).trans q3
          have y4 : ∀ z : Wd S, z.w.cell? ⟨h9, 4, none⟩ = some (.int .i64 m5) := fun z => ((hto z).cell (p := ⟨h9, 4, none⟩) hlq).trans q4
          have y5 : ∀ z : Wd S, z.w.cell? ⟨h9, 5, none⟩ = some (.int .i64 m6) := fun z => ((hto z).cell (p := ⟨h9, 5, none⟩) hlq).trans q5
          have y6 : ∀ z : Wd S, z.w.cell? ⟨h9, 6, none⟩ = some (.int .i64 m7) := fun z => ((hto z).cell (p := ⟨h9, 6, none⟩) hlq).trans q6
          have y7 : ∀ z : Wd S, z.w.cell? ⟨h9, 7, none⟩ = some (.int .u32 m8) := fun z => ((hto z).cell (p := ⟨h9, 7, none⟩) hlq).trans q7
          have y8 : ∀ z : Wd S, z.w.cell? ⟨h9, 8, none⟩ = some (.int .u32 m9) := fun z => ((hto z).cell (p := ⟨h9, 8, none⟩) hlq).trans q8
          have y9 : ∀ z : Wd S, z.w.cell? ⟨h9, 9, none⟩ = some (.int .u32 m10) := fun z => ((hto z).cell (p := ⟨h9, 9, none⟩) hlq).trans q9
          have y10 : ∀ z : Wd S, z.w.cell? ⟨h9, 10, none⟩ = some (.int .u32 m11) := fun z => ((hto z).cell (p := ⟨h9, 10, none⟩) hlq).trans q10
          have y11 : ∀ z : Wd S, z.w.cell? ⟨h9, 11, none⟩ = some (.int .u32 m12) := fun z => ((hto z).cell (p := ⟨h9, 11, none⟩) hlq).trans q11
          have y12 : ∀ z : Wd S, z.w.cell? ⟨h9, 12, none⟩ = some (.bool m13) := fun z => ((hto z).cell (p := ⟨h9, 12, none⟩) hlq).trans q12
          have Hof := Lib.hid hof
          have HTO := Lib.hid hto
          clear hto hof hgl hce hxq hlq q0 q1 q2 q3 q4 q5 q6 q7 q8 q9 q10 q11 q12
          refine lexW_light 3 (by kernel_rfl) ?_
          simp only [List.take_succ_cons, List.take_zero, List.drop_succ_cons, List.drop_zero]
          repeat (first | go_big_quiet_skip | (go_big_quiet_want; go_big_quiet_op; go_big_quiet_on))
          refine wpQuiet_nil ?_
          refine lexW_pure (by kernel_rfl) (by rfl) rfl Tryd.func38 rfl (by kernel_rfl) (fun x => rpool_c m1 x.w) (by go_simp) ?_
          simp only [Act.put, List.setIfInBounds_toArray, List.set_cons_zero, List.set_cons_succ]
          refine lexW_light 2 (by kernel_rfl) ?_
          simp only [List.take_succ_cons, List.take_zero, List.drop_succ_cons, List.drop_zero]
          repeat (first | go_big_quiet_skip | (go_big_quiet_want; go_big_quiet_op; go_big_quiet_on))
          refine wpQuiet_nil ?_
          refine lexW_pure (by kernel_rfl) (by rfl) rfl Tryd.func37 rfl (by kernel_rfl) (fun x => rrow_c b n room X (poolM m1) m2 x.w (HH4.out.bel (HTO.out x)) ((HB4B.out.bel (HTO.out x)).frm h1) h1 h2) (by go_simp) ?_
          simp only [Act.put, List.setIfInBounds_toArray, List.set_cons_zero, List.set_cons_succ]
          rw [HPT.out]
          refine lexW_light 4 (by kernel_rfl) ?_
          simp only [List.take_succ_cons, List.take_zero, List.drop_succ_cons, List.drop_zero]
          repeat (first | go_big_quiet_skip | (go_big_quiet_want; go_big_quiet_op; go_big_quiet_on))
          refine wpQuiet_nil ?_
          refine lexW_done ?_
          clear xg y0 y1 y2 y3 y4 y5 y6 y7 y8 y9 y10 y11 y12 Hof HTO hne
          have hi9 : i ≤ 100000 := by have := HLN.out; omega
          have HB5 := Lib.hid (HB4.out.drew)
          have HX5 := Lib.hid (show w4.drew.heap[h9]? = some (.cells #[.int .i64 m1, .int .i64 m2, .int .i64 m3, .int .i64 m4, .int .i64 m5, .int .i64 m6, .int .i64 m7, .int .u32 m8, .int .u32 m9, .int .u32 m10, .int .u32 m11, .int .u32 m12, .bool m13] 32 (0, 0)) from HX4.out)
          clear HX4 HH4 HB4 HB4B
          go_wp2_with fail
          go_loopw [10, 58] (fun s10 s58 wx => ∃ j : Nat, j ≤ i ∧ s58 = .int .i64 j ∧ s10 = .int .i64 (nF + cntP (l.take j) (plM (⟨m1, m2, m3, m4, m5, m6, m7, m8, m9, m10, m11, m12, m13⟩ : MsgV)) : Nat) ∧ Below w.heap.size w wx ∧ wx.heap[h9]? = some (.cells #[.int .i64 m1, .int .i64 m2, .int .i64 m3, .int .i64 m4, .int .i64 m5, .int .i64 m6, .int .i64 m7, .int .u32 m8, .int .u32 m9, .int .u32 m10, .int .u32 m11, .int .u32 m12, .bool m13] 32 (0, 0))) (fun _ s58 _ => i - (intOf s58).toNat)
          case atStart => exact ⟨0, by omega, rfl, rfl, HB5.out, HX5.out⟩
          case round =>
            clear HB5 HX5
            obtain ⟨j, hj, rfl, rfl, hBB, hXX⟩ := hrel
            have HBW := Lib.hid hBB
            have HX5 := Lib.hid hXX
            clear hBB hXX
            obtain ⟨ct, hct⟩ : ∃ ct, ct = nF + cntP (l.take j) (plM (⟨m1, m2, m3, m4, m5, m6, m7, m8, m9, m10, m11, m12, m13⟩ : MsgV)) := ⟨_, rfl⟩
            have hct9 : ct ≤ 200000 := by
              have h3 := cntP_le (plM (⟨m1, m2, m3, m4, m5, m6, m7, m8, m9, m10, m11, m12, m13⟩ : MsgV)) (l.take j)
              rw [List.length_take] at h3
              omega
            have HCT := Lib.hid hct
            rw [← hct]
            clear hct
            by_cases hji : j < i
            · have k3 : decide (j < i) = true := by simpa using hji
              have k4 : decide ((j : Int) < (i : Int)) = true := by simp; omega
              obtain ⟨m', hm'⟩ : ∃ m', l[j]? = some m' := ⟨_, List.getElem?_eq_getElem (by omega)⟩
              obtain ⟨n1, n2, n3, n4, n5, n6, n7, n8, n9, n10, n11, n12, n13⟩ := m'
              have HM' := Lib.hid hm'
              have HPO' := Lib.hid (bad_ok (show badM n ⟨n1, n2, n3, n4, n5, n6, n7, n8, n9, n10, n11, n12, n13⟩ = false from by have h := HNB.out j (by omega); unfold badB at h; rw [hm'] at h; exact h))
              have hg := HG.out
              have hc := HC.out
              have a0 := (HBW.out.cell (p := ⟨g, _, none⟩) hg).trans (hc _ _ (flatM_at hm' (c := 0) rfl))
              have a1 := (HBW.out.cell (p := ⟨g, _, none⟩) hg).trans (hc _ _ (flatM_at hm' (c := 1) rfl))
              have a2 := (HBW.out.cell (p := ⟨g, _, none⟩) hg).trans (hc _ _ (flatM_at hm' (c := 2) rfl))
              have a3 := (HBW.out.cell (p := ⟨g, _, none⟩) hg).trans (hc _ _ (flatM_at hm' (c := 3) rfl))
              have a4 := (HBW.out.cell (p := ⟨g, _, none⟩) hg).trans (hc _ _ (flatM_at hm' (c := 4) rfl))
              have a5 := (HBW.out.cell (p := ⟨g, _, none⟩) hg).trans (hc _ _ (flatM_at hm' (c := 5) rfl))
              have a6 := (HBW.out.cell (p := ⟨g, _, none⟩) hg).trans (hc _ _ (flatM_at hm' (c := 6) rfl))
              have a7 := (HBW.out.cell (p := ⟨g, _, none⟩) hg).trans (hc _ _ (flatM_at hm' (c := 7) rfl))
              have a8 := (HBW.out.cell (p := ⟨g, _, none⟩) hg).trans (hc _ _ (flatM_at hm' (c := 8) rfl))
              have a9 := (HBW.out.cell (p := ⟨g, _, none⟩) hg).trans (hc _ _ (flatM_at hm' (c := 9) rfl))
              have a10 := (HBW.out.cell (p := ⟨g, _, none⟩) hg).trans (hc _ _ (flatM_at hm' (c := 10) rfl))
              have a11 := (HBW.out.cell (p := ⟨g, _, none⟩) hg).trans (hc _ _ (flatM_at hm' (c := 11) rfl))
              have a12 := (HBW.out.cell (p := ⟨g, _, none⟩) hg).trans (hc _ _ (flatM_at hm' (c := 12) rfl))
              simp only [Nat.add_zero, ← Nat.add_assoc] at a0 a1 a2 a3 a4 a5 a6 a7 a8 a9 a10 a11 a12
              clear hg hc
              go_upto_region 14 with fail
              have hb4 : Below wr.heap.size wr (wr.alloc (.cells #[.int .i64 n1, .int .i64 n2, .int .i64 n3, .int .i64 n4, .int .i64 n5, .int .i64 n6, .int .i64 n7, .int .u32 n8, .int .u32 n9, .int .u32 n10, .int .u32 n11, .int .u32 n12, .bool n13] 32)) := (Below.refl _ _).alloc (Nat.le_refl _) _
              have HB4 := Lib.hid (HBW.out.trans (hb4.mono HBW.out.size))
              have HX4 := Lib.hid (heap_alloc_new wr (.cells #[.int .i64 n1, .int .i64 n2, .int .i64 n3, .int .i64 n4, .int .i64 n5, .int .i64 n6, .int .i64 n7, .int .u32 n8, .int .u32 n9, .int .u32 n10, .int .u32 n11, .int .u32 n12, .bool n13] 32))
              have HX9 := Lib.hid ((hb4.block h9 (Array.getElem?_eq_some_iff.1 HX5.out).1).trans HX5.out)
              have HH4 := Lib.hid (HH.out.bel HB4.out)
              have HB4B := Lib.hid (HB.out.bel HB4.out)
              obtain ⟨h12, hh12⟩ : ∃ h, h = wr.heap.size := ⟨_, rfl⟩
              rw [← hh12] at HX4 ⊢
              generalize wr.alloc (.cells #[.int .i64 n1, .int .i64 n2, .int .i64 n3, .int .i64 n4, .int .i64 n5, .int .i64 n6, .int .i64 n7, .int .u32 n8, .int .u32 n9, .int .u32 n10, .int .u32 n11, .int .u32 n12, .bool n13] 32) = w4 at *
              clear hb4 hh12 HBW HX5 hm' a0 a1 a2 a3 a4 a5 a6 a7 a8 a9 a10 a11 a12
              obtain ⟨g1, o1, g2, o2, hr1, hr2, hre, ⟨cu1, hcu1⟩, ⟨cu2, hcu2⟩⟩ := rowPtr_eq HB4B.out h1 HPO'.out HPO.out
              obtain ⟨pe, hpe⟩ : ∃ pe, decide (plM ⟨n1, n2, n3, n4, n5, n6, n7, n8, n9, n10, n11, n12, n13⟩ = plM (⟨m1, m2, m3, m4, m5, m6, m7, m8, m9, m10, m11, m12, m13⟩ : MsgV)) = pe := ⟨_, rfl⟩
              have HPE := Lib.hid hpe
              have HR1 := Lib.hid hr1
              have HR2 := Lib.hid hr2
              have HRE := Lib.hid (show decide ((⟨g1, o1, none⟩ : Addr) = ⟨g2, o2, none⟩) = pe from hre.trans hpe)
              have HU1 := Lib.hid hcu1
              have HU2 := Lib.hid hcu2
              clear hr1 hr2 hre hcu1 hcu2 hpe
              have hxr := HX4.out
              have r0 := cell_of hxr 0
              have r1 := cell_of hxr 1
              have r2 := cell_of hxr 2
              have r3 := cell_of hxr 3
              have r4 := cell_of hxr 4
              have r5 := cell_of hxr 5
              have r6 := cell_of hxr 6
              have r7 := cell_of hxr 7
              have r8 := cell_of hxr 8
              have r9 := cell_of hxr 9
              have r10 := cell_of hxr 10
              have r11 := cell_of hxr 11
              have r12 := cell_of hxr 12
              simp only [List.getElem?_toArray, List.getElem?_cons_zero, List.getElem?_cons_succ] at r0 r1 r2 r3 r4 r5 r6 r7 r8 r9 r10 r11 r12
              have hlr := (Array.getElem?_eq_some_iff.1 hxr).1
              have hxq := HX9.out
              have q0 := cell_of hxq 0
              have q1 := cell_of hxq 1
              have q2 := cell_of hxq 2
              have q3 := cell_of hxq 3
              have q4 := cell_of hxq 4
              have q5 := cell_of hxq 5
              have q6 := cell_of hxq 6
              have q7 := cell_of hxq 7
              have q8 := cell_of hxq 8
              have q9 := cell_of hxq 9
              have q10 := cell_of hxq 10
              have q11 := cell_of hxq 11
              have q12 := cell_of hxq 12
              simp only [List.getElem?_toArray, List.getElem?_cons_zero, List.getElem?_cons_succ] at q0 q1 q2 q3 q4 q5 q6 q7 q8 q9 q10 q11 q12
              have hlq := (Array.getElem?_eq_some_iff.1 hxq).1
              refine wp_region_lexA ⟨[38, 37], []⟩ (fun x => Below w4.heap.size w4 x) (by kernel_rfl) (by kernel_rfl) (Below.refl _ _).drew ?_
              intro S hto hof hne
              have yn0 : ∀ z : Wd S, z.w.cell? ⟨h12, 0, none⟩ = some (.int .i64 n1) := fun z => ((hto z).cell (p := ⟨h12, 0, none⟩) hlr).trans r0
              have yn1 : ∀ z : Wd S, z.w.cell? ⟨h12, 1, none⟩ = some (.int .i64 n2) := fun z => ((hto z).cell (p := ⟨h12, 1, none⟩) hlr).trans r1
              have yn2 : ∀ z : Wd S, z.w.cell? ⟨h12, 2, none⟩ = some (.int .i64 n3) := fun z => ((hto z).cell (p := ⟨h12, 2, none⟩) hlr).trans r2
              have yn3 : ∀ z : Wd S, z.w.cell? ⟨h12, 3, none⟩ = some (.int .i64 n4) := fun z => ((hto z).cell (p := ⟨h12, 3, none⟩) hlr).trans r3
              have yn4 : ∀ z : Wd S, z.w.cell? ⟨h12, 4, none⟩ = some (.int .i64 n5) := fun z => ((hto z).cell (p := ⟨h12, 4, none⟩) hlr).trans r4
              have yn5 : ∀ z : Wd S, z.w.cell? ⟨h12, 5, none⟩ = some (.int .i64 n6) := fun z => ((hto z).cell (p := ⟨h12, 5, none⟩) hlr).trans r5
              have yn6 : ∀ z : Wd S, z.w.cell? ⟨h12, 6, none⟩ = some (.int .i64 n7) := fun z => ((hto z).cell (p := ⟨h12, 6, none⟩) hlr).trans r6
              have yn7 : ∀ z : Wd S, z.w.cell? ⟨h12, 7, none⟩ = some (.int .u32 n8) := fun z => ((hto z).cell (p := ⟨h12, 7, none⟩) hlr).trans r7
              have yn8 : ∀ z : Wd S, z.w.cell? ⟨h12, 8, none⟩ = some (.int .u32 n9) := fun z => ((hto z).cell (p := ⟨h12, 8, none⟩) hlr).trans r8
              have yn9 : ∀ z : Wd S, z.w.cell? ⟨h12, 9, none⟩ = some (.int .u32 n10) := fun z => ((hto z).cell (p := ⟨h12, 9, none⟩) hlr).trans r9
              have yn10 : ∀ z : Wd S, z.w.cell? ⟨h12, 10, none⟩ = some (.int .u32 n11) := fun z => ((hto z).cell (p := ⟨h12, 10, none⟩) hlr).trans r10
              have yn11 : ∀ z : Wd S, z.w.cell? ⟨h12, 11, none⟩ = some (.int .u32 n12) := fun z => ((hto z).cell (p := ⟨h12, 11, none⟩) hlr).trans r11
              have yn12 : ∀ z : Wd S, z.w.cell? ⟨h12, 12, none⟩ = some (.bool n13) := fun z => ((hto z).cell (p := ⟨h12, 12, none⟩) hlr).trans r12
              have y0 : ∀ z : Wd S, z.w.cell? ⟨h9, 0, none⟩ = some (.int .i64 m1) := fun z => ((hto z).cell (p := ⟨h9, 0, none⟩) hlq).trans q0
              have y1 : ∀ z : Wd S, z.w.cell? ⟨h9, 1, none⟩ = some (.int .i64 m2) := fun z => ((hto z).cell (p := ⟨h9, 1, none⟩) hlq).trans q1
              have y2 : ∀ z : Wd S, z.w.cell? ⟨h9, 2, none⟩ = some (.int .i64 m3) := fun z => ((hto z).cell (p := ⟨h9, 2, none⟩) hlq).trans q2
              have y3 : ∀ z : Wd S, z.w.cell? ⟨h9, 3, none⟩ = some (.int .i64 m4) := fun z => ((hto z).cell (p := ⟨h9, 3, none⟩) hlq).trans q3
              have y4 : ∀ z : Wd S, z.w.cell? ⟨h9, 4, none⟩ = some (.int .i64 m5) := fun z => ((hto z).cell (p := ⟨h9, 4, none⟩) hlq).trans q4
              have y5 : ∀ z : Wd S, z.w.cell? ⟨h9, 5, none⟩ = some (.int .i64 m6) := fun z => ((hto z).cell (p := ⟨h9, 5, none⟩) hlq).trans q5
              have y6 : ∀ z : Wd S, z.w.cell? ⟨h9, 6, none⟩ = some (.int .i64 m7) := fun z => ((hto z).cell (p := ⟨h9, 6, none⟩) hlq).trans q6
              have y7 : ∀ z : Wd S, z.w.cell? ⟨h9, 7, none⟩ = some (.int .u32 m8) := fun z => ((hto z).cell (p := ⟨h9, 7, none⟩) hlq).trans q7
              have y8 : ∀ z : Wd S, z.w.cell? ⟨h9, 8, none⟩ = some (.int .u32 m9) := fun z => ((hto z).cell (p := ⟨h9, 8, none⟩) hlq).trans q8
              have y9 : ∀ z : Wd S, z.w.cell? ⟨h9, 9, none⟩ = some (.int .u32 m10) := fun z => ((hto z).cell (p := ⟨h9, 9, none⟩) hlq).trans q9
              have y10 : ∀ z : Wd S, z.w.cell? ⟨h9, 10, none⟩ = some (.int .u32 m11) := fun z => ((hto z).cell (p := ⟨h9, 10, none⟩) hlq).trans q10
              have y11 : ∀ z : Wd S, z.w.cell? ⟨h9, 11, none⟩ = some (.int .u32 m12) := fun z => ((hto z).cell (p := ⟨h9, 11, none⟩) hlq).trans q11
              have y12 : ∀ z : Wd S, z.w.cell? ⟨h9, 12, none⟩ = some (.bool m13) := fun z => ((hto z).cell (p := ⟨h9, 12, none⟩) hlq).trans q12
              have HTO := Lib.hid hto
              obtain ⟨ism, hism, hsz1⟩ := Option.map_eq_some_iff.1 nInfoSM
              have heq : ∀ z : Wd S, (binOp .eql 81 (.pointer (some ⟨g1, o1, none⟩)) (.pointer (some ⟨g2, o2, none⟩))).run Tryd.prog z.w = .ok (.bool pe) z.w := fun z => by
                have hd := HRE.out
                by_cases he : (⟨g1, o1, none⟩ : Addr) = ⟨g2, o2, none⟩
                · rw [decide_eq_true he] at hd
                  rw [← hd, ← he]
                  exact run_eql_ptr_same z.w _ Tryd.underlying81 hism
                · rw [decide_eq_false he] at hd
                  rw [← hd]
                  exact run_eql_ptr_other z.w Tryd.underlying81 hism (by rw [hsz1]; omega) he (((HTO.out z).block g1 (Array.getElem?_eq_some_iff.1 HU1.out).1).trans HU1.out) (((HTO.out z).block g2 (Array.getElem?_eq_some_iff.1 HU2.out).1).trans HU2.out)
              clear hto hof hxq hlq q0 q1 q2 q3 q4 q5 q6 q7 q8 q9 q10 q11 q12 hxr hlr r0 r1 r2 r3 r4 r5 r6 r7 r8 r9 r10 r11 r12 hism hsz1
              refine lexW_light 3 (by kernel_rfl) ?_
              simp only [List.take_succ_cons, List.take_zero, List.drop_succ_cons, List.drop_zero]
              repeat (first | go_big_quiet_skip | (go_big_quiet_want; go_big_quiet_op; go_big_quiet_on))
              refine wpQuiet_nil ?_
              refine lexW_pure (by kernel_rfl) (by rfl) rfl Tryd.func38 rfl (by kernel_rfl) (fun x => rpool_c n1 x.w) (by go_simp) ?_
              simp only [Act.put, List.setIfInBounds_toArray, List.set_cons_zero, List.set_cons_succ]
              refine lexW_light 2 (by kernel_rfl) ?_
              simp only [List.take_succ_cons, List.take_zero, List.drop_succ_cons, List.drop_zero]
              repeat (first | go_big_quiet_skip | (go_big_quiet_want; go_big_quiet_op; go_big_quiet_on))
              refine wpQuiet_nil ?_
              refine lexW_pure (by kernel_rfl) (by rfl) rfl Tryd.func37 rfl (by kernel_rfl) (fun x => rrow_c b n room X (poolM n1) n2 x.w (HH4.out.bel (HTO.out x)) ((HB4B.out.bel (HTO.out x)).frm h1) h1 h2) (by go_simp) ?_
              simp only [Act.put, List.setIfInBounds_toArray, List.set_cons_zero, List.set_cons_succ]
              rw [HR1.out]
              refine lexW_light 3 (by kernel_rfl) ?_
              simp only [List.take_succ_cons, List.take_zero, List.drop_succ_cons, List.drop_zero]
              repeat (first | go_big_quiet_skip | (go_big_quiet_want; go_big_quiet_op; go_big_quiet_on))
              refine wpQuiet_nil ?_
              refine lexW_pure (by kernel_rfl) (by rfl) rfl Tryd.func38 rfl (by kernel_rfl) (fun x => rpool_c m1 x.w) (by go_simp) ?_
              simp only [Act.put, List.setIfInBounds_toArray, List.set_cons_zero, List.set_cons_succ]
              refine lexW_light 2 (by kernel_rfl) ?_
              simp only [List.take_succ_cons, List.take_zero, List.drop_succ_cons, List.drop_zero]
              repeat (first | go_big_quiet_skip | (go_big_quiet_want; go_big_quiet_op; go_big_quiet_on))
              refine wpQuiet_nil ?_
              refine lexW_pure (by kernel_rfl) (by rfl) rfl Tryd.func37 rfl (by kernel_rfl) (fun x => rrow_c b n room X (poolM m1) m2 x.w (HH4.out.bel (HTO.out x)) ((HB4B.out.bel (HTO.out x)).frm h1) h1 h2) (by go_simp) ?_
              simp only [Act.put, List.setIfInBounds_toArray, List.set_cons_zero, List.set_cons_succ]
              rw [HR2.out]
              refine lexW_light 1 (by kernel_rfl) ?_
              simp only [List.take_succ_cons, List.take_zero, List.drop_succ_cons, List.drop_zero]
              repeat (first | go_big_quiet_skip | (go_big_quiet_want; go_big_quiet_op; go_big_quiet_on))
              refine wpQuiet_nil ?_
              refine lexW_done ?_
              clear y0 y1 y2 y3 y4 y5 y6 y7 y8 y9 y10 y11 y12 yn0 yn1 yn2 yn3 yn4 yn5 yn6 yn7 yn8 yn9 yn10 yn11 yn12 HTO hne heq
              have HX10 := Lib.hid (show w4.drew.heap[h9]? = some (.cells #[.int .i64 m1, .int .i64 m2, .int .i64 m3, .int .i64 m4, .int .i64 m5, .int .i64 m6, .int .i64 m7, .int .u32 m8, .int .u32 m9, .int .u32 m10, .int .u32 m11, .int .u32 m12, .bool m13] 32 (0, 0)) from HX9.out)
              have HB10 := Lib.hid HB4.out.drew
              have HCS := Lib.hid (show cntP (l.take (j + 1)) (plM (⟨m1, m2, m3, m4, m5, m6, m7, m8, m9, m10, m11, m12, m13⟩ : MsgV)) = cntP (l.take j) (plM (⟨m1, m2, m3, m4, m5, m6, m7, m8, m9, m10, m11, m12, m13⟩ : MsgV)) + if pe then 1 else 0 from by
                rw [List.take_add_one, HM'.out, cntP_append, ← HPE.out]
                simp [cntP])
              clear HX4 HX9 HH4 HB4B HB4
              cases pe with
              | true =>
                go_wp2_with fail
                go_roundw
                case rel => exact ⟨j + 1, by omega, by go_num, by rw [show nF + cntP (l.take (j + 1)) (plM (⟨m1, m2, m3, m4, m5, m6, m7, m8, m9, m10, m11, m12, m13⟩ : MsgV)) = ct + 1 by rw [HCS.out, HCT.out]; rfl]; go_num, HB10.out, HX10.out⟩
                case measure => simp [intOf] <;> omega
              | false =>
                go_wp2_with fail
                go_roundw
                case rel => exact ⟨j + 1, by omega, by go_num, by rw [show nF + cntP (l.take (j + 1)) (plM (⟨m1, m2, m3, m4, m5, m6, m7, m8, m9, m10, m11, m12, m13⟩ : MsgV)) = ct by rw [HCS.out, HCT.out]; rfl], HB10.out, HX10.out⟩
                case measure => simp [intOf] <;> omega
            · have k3 : decide (j < i) = false := by simpa using hji
              have k4 : decide ((j : Int) < (i : Int)) = false := by simp; omega
              have hjj : j = i := by omega
              have HFB := Lib.hid (show fullB room F l i = decide (room ≤ (ct : Int)) from by
                rw [cnt_full HM.out, HNF.out, HCT.out, hjj]
                simp)
              have HH4 := Lib.hid (HH.out.bel HBW.out)
              have q1r := cell_of HH4.out 1
              simp only [hdrV, List.getElem?_toArray, List.getElem?_cons_zero, List.getElem?_cons_succ] at q1r
              by_cases hrm : room ≤ (ct : Int)
              · have g9 : decide (room ≤ (ct : Int)) = true := by simpa using hrm
                have HFE := Lib.hid (fits_full (cores := n) hin HNB.out HFU.out (by rw [HFB.out]; exact g9))
                go_wp2_with fail
                go_ret2
                rw [HFE.out]
                exact ⟨rfl, by rw [(send_off' HFE.out)]; exact ⟨V, HB.out.bel HBW.out, Mods.of_below HBW.out, fun q hq => .inl hq⟩⟩
              · have g9 : decide (room ≤ (ct : Int)) = false := by simpa using hrm
                have HNX := Lib.hid (show ∀ j, j < i + 1 → fullB room F l j = false from fun j hj => by
                  by_cases hji : j = i
                  · rw [hji, HFB.out]; exact g9
                  · exact HFU.out j (by omega))
                go_wp2_with fail
                go_roundw
                case rel => exact ⟨i + 1, by omega, by go_num, HNX.out, HBW.out⟩
                case measure => simp [intOf] <;> omega
        · have k1 : decide (i < l.length) = false := by simpa using hin
          have HEQ := Lib.hid (show i = l.length by omega)
          go_wp2_with fail
          go_meet
          case rel => exact ⟨by have h := HFU.out; rw [HEQ.out] at h; exact h, HBW.out⟩
    case rest =>
      obtain ⟨hnf, hB⟩ := hcut
      have HFE := Lib.hid (fits_nil (cores := n) (room := room) (F := F) HNB.out hnf)
      have HSF := Lib.hid (show sendF n room F l = addM F l from by unfold sendF; rw [HFE.out]; rfl)
      have HIV := Lib.hid (show ∃ V', RfB w0 n X V' (addM F (l.take 0)) wc ∧ Mods (RfOwn n X V) w wc ∧ ∀ q, RfOwn n X V' q → RfOwn n X V q ∨ w.heap.size ≤ q from ⟨V, HB.out.bel hB, Mods.of_below hB, fun q hq => .inl hq⟩)
      clear hB hnf HBW
      generalize wc = w2 at *
      go_wp2_with fail
      go_loopw [90] (fun s90 wr => ∃ i : Nat, i ≤ l.length ∧ s90 = .int .i64 i ∧ ∃ V', RfB w0 n X V' (addM F (l.take i)) wr ∧ Mods (RfOwn n X V) w wr ∧ ∀ q, RfOwn n X V' q → RfOwn n X V q ∨ w.heap.size ≤ q) (fun s90 _ => l.length - (intOf s90).toNat)
      case atStart => exact ⟨0, by omega, rfl, HIV.out⟩
      case round =>
        clear HIV
        obtain ⟨i, hi, rfl, Vi, hbi, hmi, hoi⟩ := hrel
        have HBI := Lib.hid hbi
        have HMI := Lib.hid hmi
        have HOI := Lib.hid hoi
        clear hbi hmi hoi
        by_cases hin : i < l.length
        · have k1 : decide (i < l.length) = true := by simpa using hin
          have k2 : decide ((i : Int) < (l.length : Int)) = true := by simp; omega
          obtain ⟨m, hm⟩ : ∃ m, l[i]? = some m := ⟨_, List.getElem?_eq_getElem hin⟩
          obtain ⟨g, off, rfl, hg, hc⟩ := HEL.out (by omega)
          have hng : ¬ RfOwn n X V g := HAP.out (by omega) g rfl
          obtain ⟨m1, m2, m3, m4, m5, m6, m7, m8, m9, m10, m11, m12, m13⟩ := m
          have HM := Lib.hid hm
          have HMB := Lib.hid (show badM n ⟨m1, m2, m3, m4, m5, m6, m7, m8, m9, m10, m11, m12, m13⟩ = false from by have h := HNB.out i hin; unfold badB at h; rw [hm] at h; exact h)
          have HPO := Lib.hid (bad_ok HMB.out)
          have a0 := (HMI.out.cell (p := ⟨g, _, none⟩) hg hng).trans (hc _ _ (flatM_at hm (c := 0) rfl))
          have a1 := (HMI.out.cell (p := ⟨g, _, none⟩) hg hng).trans (hc _ _ (flatM_at hm (c := 1) rfl))
          have a2 := (HMI.out.cell (p := ⟨g, _, none⟩) hg hng).trans (hc _ _ (flatM_at hm (c := 2) rfl))
          have a3 := (HMI.out.cell (p := ⟨g, _, none⟩) hg hng).trans (hc _ _ (flatM_at hm (c := 3) rfl))
          have a4 := (HMI.out.cell (p := ⟨g, _, none⟩) hg hng).trans (hc _ _ (flatM_at hm (c := 4) rfl))
          have a5 := (HMI.out.cell (p := ⟨g, _, none⟩) hg hng).trans (hc _ _ (flatM_at hm (c := 5) rfl))
          have a6 := (HMI.out.cell (p := ⟨g, _, none⟩) hg hng).trans (hc _ _ (flatM_at hm (c := 6) rfl))
          have a7 := (HMI.out.cell (p := ⟨g, _, none⟩) hg hng).trans (hc _ _ (flatM_at hm (c := 7) rfl))
          have a8 := (HMI.out.cell (p := ⟨g, _, none⟩) hg hng).trans (hc _ _ (flatM_at hm (c := 8) rfl))
          have a9 := (HMI.out.cell (p := ⟨g, _, none⟩) hg hng).trans (hc _ _ (flatM_at hm (c := 9) rfl))
          have a10 := (HMI.out.cell (p := ⟨g, _, none⟩) hg hng).trans (hc _ _ (flatM_at hm (c := 10) rfl))
          have a11 := (HMI.out.cell (p := ⟨g, _, none⟩) hg hng).trans (hc _ _ (flatM_at hm (c := 11) rfl))
          have a12 := (HMI.out.cell (p := ⟨g, _, none⟩) hg hng).trans (hc _ _ (flatM_at hm (c := 12) rfl))
          simp only [Nat.add_zero, ← Nat.add_assoc] at a0 a1 a2 a3 a4 a5 a6 a7 a8 a9 a10 a11 a12
          clear hng hg hc
          go_upto_region 23 with fail
          have hb4 : Below wr.heap.size wr (wr.alloc (.cells #[.int .i64 m1, .int .i64 m2, .int .i64 m3, .int .i64 m4, .int .i64 m5, .int .i64 m6, .int .i64 m7, .int .u32 m8, .int .u32 m9, .int .u32 m10, .int .u32 m11, .int .u32 m12, .bool m13] 32)) := (Below.refl _ _).alloc (Nat.le_refl _) _
          have HB4 := Lib.hid hb4
          have HX4 := Lib.hid (heap_alloc_new wr (.cells #[.int .i64 m1, .int .i64 m2, .int .i64 m3, .int .i64 m4, .int .i64 m5, .int .i64 m6, .int .i64 m7, .int .u32 m8, .int .u32 m9, .int .u32 m10, .int .u32 m11, .int .u32 m12, .bool m13] 32))
          have HH4 := Lib.hid (show RfH b n room X (wr.alloc (.cells #[.int .i64 m1, .int .i64 m2, .int .i64 m3, .int .i64 m4, .int .i64 m5, .int .i64 m6, .int .i64 m7, .int .u32 m8, .int .u32 m9, .int .u32 m10, .int .u32 m11, .int .u32 m12, .bool m13] 32)) from (hb4.block b (Nat.lt_of_lt_of_le HH.out.lt HMI.out.size)).trans ((HMI.out.block b HH.out.lt HBO.out).trans HH.out))
          have HB4B := Lib.hid (HBI.out.bel hb4)
          obtain ⟨h14, hh14⟩ : ∃ h, h = wr.heap.size := ⟨_, rfl⟩
          rw [← hh14] at HX4 ⊢
          generalize wr.alloc (.cells #[.int .i64 m1, .int .i64 m2, .int .i64 m3, .int .i64 m4, .int .i64 m5, .int .i64 m6, .int .i64 m7, .int .u32 m8, .int .u32 m9, .int .u32 m10, .int .u32 m11, .int .u32 m12, .bool m13] 32) = w4 at *
          clear hb4 hh14 hm a0 a1 a2 a3 a4 a5 a6 a7 a8 a9 a10 a11 a12
          obtain ⟨p', c', gp, op, hp', hc', hpl, hpt, hgl, ⟨cpx, hX⟩, hce, _⟩ := rowPtr_on HB4B.out h1 HPO.out
          have HPT := Lib.hid hpt
          have HPL := Lib.hid (show plM (⟨m1, m2, m3, m4, m5, m6, m7, m8, m9, m10, m11, m12, m13⟩ : MsgV) = ((p' : Int), (c' : Int)) from hpl)
          have HXP := Lib.hid hX
          have HPC := Lib.hid (And.intro hp' hc')
          obtain ⟨ak, ck, hvv⟩ := (HB4B.out.row p' c' hp' hc').len
          have HVV := Lib.hid hvv
          clear hpt hpl hX hvv hce hgl hp' hc'
          have hxq := HX4.out
          have q0 := cell_of hxq 0
          have q1 := cell_of hxq 1
          have q2 := cell_of hxq 2
          have q3 := cell_of hxq 3
          have q4 := cell_of hxq 4
          have q5 := cell_of hxq 5
          have q6 := cell_of hxq 6
          have q7 := cell_of hxq 7
          have q8 := cell_of hxq 8
          have q9 := cell_of hxq 9
          have q10 := cell_of hxq 10
          have q11 := cell_of hxq 11
          have q12 := cell_of hxq 12
          simp only [List.getElem?_toArray, List.getElem?_cons_zero, List.getElem?_cons_succ] at q0 q1 q2 q3 q4 q5 q6 q7 q8 q9 q10 q11 q12
          have hlq := (Array.getElem?_eq_some_iff.1 hxq).1
          refine wp_region_lexA ⟨[38, 37], []⟩ (fun x => Below w4.heap.size w4 x) (by kernel_rfl) (by kernel_rfl) (Below.refl _ _).drew ?_
          intro S hto hof hne
          have y0 : ∀ z : Wd S, z.w.cell? ⟨h14, 0, none⟩ = some (.int .i64 m1) := fun z => ((hto z).cell (p := ⟨h14, 0, none⟩) hlq).trans q0
          have y1 : ∀ z : Wd S, z.w.cell? ⟨h14, 1, none⟩ = some (.int .i64 m2) := fun z => ((hto z).cell (p := ⟨h14, 1, none⟩) hlq).trans q1
          have y2 : ∀ z : Wd S, z.w.cell? ⟨h14, 2, none⟩ = some (.int .i64 m3) := fun z => ((hto z).cell (p := ⟨h14, 2, none⟩) hlq).trans q2
          have y3 : ∀ z : Wd S, z.w.cell? ⟨h14, 3, none⟩ = some (.int .i64 m4) := fun z => ((hto z).cell (p := ⟨h14, 3, none⟩) hlq).trans q3
          have y4 : ∀ z : Wd S, z.w.cell? ⟨h14, 4, none⟩ = some (.int .i64 m5) := fun z => ((hto z).cell (p := ⟨h14, 4, none⟩) hlq).trans q4
          have y5 : ∀ z : Wd S, z.w.cell? ⟨h14, 5, none⟩ = some (.int .i64 m6) := fun z => ((hto z).cell (p := ⟨h14, 5, none⟩) hlq).trans q5
          have y6 : ∀ z : Wd S, z.w.cell? ⟨h14, 6, none⟩ = some (.int .i64 m7) := fun z => ((hto z).cell (p := ⟨h14, 6, none⟩) hlq).trans q6
          have y7 : ∀ z : Wd S, z.w.cell? ⟨h14, 7, none⟩ = some (.int .u32 m8) := fun z => ((hto z).cell (p := ⟨h14, 7, none⟩) hlq).trans q7
          have y8 : ∀ z : Wd S, z.w.cell? ⟨h14, 8, none⟩ = some (.int .u32 m9) := fun z => ((hto z).cell (p := ⟨h14, 8, none⟩) hlq).trans q8
          have y9 : ∀ z : Wd S, z.w.cell? ⟨h14, 9, none⟩ = some (.int .u32 m10) := fun z => ((hto z).cell (p := ⟨h14, 9, none⟩) hlq).trans q9
          have y10 : ∀ z : Wd S, z.w.cell? ⟨h14, 10, none⟩ = some (.int .u32 m11) := fun z => ((hto z).cell (p := ⟨h14, 10, none⟩) hlq).trans q10
          have y11 : ∀ z : Wd S, z.w.cell? ⟨h14, 11, none⟩ = some (.int .u32 m12) := fun z => ((hto z).cell (p := ⟨h14, 11, none⟩) hlq).trans q11
          have y12 : ∀ z : Wd S, z.w.cell? ⟨h14, 12, none⟩ = some (.bool m13) := fun z => ((hto z).cell (p := ⟨h14, 12, none⟩) hlq).trans q12
          have HTO := Lib.hid hto
          clear hto hof hxq hlq q0 q1 q2 q3 q4 q5 q6 q7 q8 q9 q10 q11 q12
          refine lexW_light 3 (by kernel_rfl) ?_
          simp only [List.take_succ_cons, List.take_zero, List.drop_succ_cons, List.drop_zero]
          repeat (first | go_big_quiet_skip | (go_big_quiet_want; go_big_quiet_op; go_big_quiet_on))
          refine wpQuiet_nil ?_
          refine lexW_pure (by kernel_rfl) (by rfl) rfl Tryd.func38 rfl (by kernel_rfl) (fun x => rpool_c m1 x.w) (by go_simp) ?_
          simp only [Act.put, List.setIfInBounds_toArray, List.set_cons_zero, List.set_cons_succ]
          refine lexW_light 2 (by kernel_rfl) ?_
          simp only [List.take_succ_cons, List.take_zero, List.drop_succ_cons, List.drop_zero]
          repeat (first | go_big_quiet_skip | (go_big_quiet_want; go_big_quiet_op; go_big_quiet_on))
          refine wpQuiet_nil ?_
          refine lexW_pure (by kernel_rfl) (by rfl) rfl Tryd.func37 rfl (by kernel_rfl) (fun x => rrow_c b n room X (poolM m1) m2 x.w (HH4.out.bel (HTO.out x)) ((HB4B.out.bel (HTO.out x)).frm h1) h1 h2) (by go_simp) ?_
          simp only [Act.put, List.setIfInBounds_toArray, List.set_cons_zero, List.set_cons_succ]
          rw [HPT.out]
          refine lexW_light 1 (by kernel_rfl) ?_
          simp only [List.take_succ_cons, List.take_zero, List.drop_succ_cons, List.drop_zero]
          repeat (first | go_big_quiet_skip | (go_big_quiet_want; go_big_quiet_op; go_big_quiet_on))
          refine wpQuiet_nil ?_
          refine lexW_done ?_
          clear y0 y1 y2 y3 y4 y5 y6 y7 y8 y9 y10 y11 y12 HTO hne
          go_upto_region 24 with fail
          have HB5B := Lib.hid (HB4B.out.bel (Below.refl w4.heap.size w4).drew)
          have HB5 := Lib.hid (show Below wr.heap.size wr w4.drew from HB4.out.drew)
          have HX5 := Lib.hid (show w4.drew.heap[h14]? = some (.cells #[.int .i64 m1, .int .i64 m2, .int .i64 m3, .int .i64 m4, .int .i64 m5, .int .i64 m6, .int .i64 m7, .int .u32 m8, .int .u32 m9, .int .u32 m10, .int .u32 m11, .int .u32 m12, .bool m13] 32 (0, 0)) from HX4.out)
          clear HB4B HB4 HX4 HH4
          generalize w4.drew = w5 at *
          obtain ⟨g2, o2, c2, hX2, hgl, hcc⟩ := HB5B.out.form h1 p' HPC.out.1
          rw [HXP.out] at hX2
          simp only [Value.slice.injEq, Option.some.injEq, Addr.mk.injEq, true_and, and_true] at hX2
          obtain ⟨⟨rfl, rfl⟩, rfl⟩ := hX2
          have q13r := hcc c' HPC.out.2
          rw [HVV.out] at q13r
          obtain ⟨L, hL⟩ : ∃ L, addM F (l.take i) ((p' : Int), (c' : Int)) = L := ⟨_, rfl⟩
          have HL := Lib.hid hL
          rw [hL] at q13r HVV
          have hll : L.length ≤ 300000 := by
            have h3 := addM_len ((p' : Int), (c' : Int)) (l.take i) F
            rw [hL] at h3
            have h4 := cntP_le ((p' : Int), (c' : Int)) (l.take i)
            have h5 := HFL.out ((p' : Int), (c' : Int))
            have h6 := HLN.out
            rw [List.length_take] at h4
            omega
          clear hL hcc
          have hxq := HX5.out
          have q0 := cell_of hxq 0
          have q1 := cell_of hxq 1
          have q2 := cell_of hxq 2
          have q3 := cell_of hxq 3
          have q4 := cell_of hxq 4
          have q5 := cell_of hxq 5
          have q6 := cell_of hxq 6
          have q7 := cell_of hxq 7
          have q8 := cell_of hxq 8
          have q9 := cell_of hxq 9
          have q10 := cell_of hxq 10
          have q11 := cell_of hxq 11
          have q12 := cell_of hxq 12
          simp only [List.getElem?_toArray, List.getElem?_cons_zero, List.getElem?_cons_succ] at q0 q1 q2 q3 q4 q5 q6 q7 q8 q9 q10 q11 q12
          have hlq := (Array.getElem?_eq_some_iff.1 hxq).1
          refine wp_region_lexN ⟨[], []⟩ (fun m x => if m ≤ 1 then Below w5.heap.size w5 x else True) (by kernel_rfl) (by kernel_rfl) (by rw [if_pos (by omega)]; exact (Below.refl _ _).drew) ?_
          intro S hto hof hne
          have hto0 : ∀ z : Wd (upS S 1), Below w5.heap.size w5 z.w := fun z => by
            obtain ⟨m, hm, hx⟩ := hto 1 z
            rw [if_pos hm] at hx
            exact hx
          have xr : ∀ z : Wd (upS S 1), z.w.cell? ⟨gp, op + c', none⟩ = some (.slice ak L.length ck) := fun z => ((hto0 z).cell (p := ⟨gp, op + c', none⟩) hgl).trans q13r
          have y0 : ∀ z : Wd (upS S 1), z.w.cell? ⟨h14, 0, none⟩ = some (.int .i64 m1) := fun z => ((hto0 z).cell (p := ⟨h14, 0, none⟩) hlq).trans q0
          have y1 : ∀ z : Wd (upS S 1), z.w.cell? ⟨h14, 1, none⟩ = some (.int .i64 m2) := fun z => ((hto0 z).cell (p := ⟨h14, 1, none⟩) hlq).trans q1
          have y2 : ∀ z : Wd (upS S 1), z.w.cell? ⟨h14, 2, none⟩ = some (.int .i64 m3) := fun z => ((hto0 z).cell (p := ⟨h14, 2, none⟩) hlq).trans q2
          have y3 : ∀ z : Wd (upS S 1), z.w.cell? ⟨h14, 3, none⟩ = some (.int .i64 m4) := fun z => ((hto0 z).cell (p := ⟨h14, 3, none⟩) hlq).trans q3
          have y4 : ∀ z : Wd (upS S 1), z.w.cell? ⟨h14, 4, none⟩ = some (.int .i64 m5) := fun z => ((hto0 z).cell (p := ⟨h14, 4, none⟩) hlq).trans q4
          have y5 : ∀ z : Wd (upS S 1), z.w.cell? ⟨h14, 5, none⟩ = some (.int .i64 m6) := fun z => ((hto0 z).cell (p := ⟨h14, 5, none⟩) hlq).trans q5
          have y6 : ∀ z : Wd (upS S 1), z.w.cell? ⟨h14, 6, none⟩ = some (.int .i64 m7) := fun z => ((hto0 z).cell (p := ⟨h14, 6, none⟩) hlq).trans q6
          have y7 : ∀ z : Wd (upS S 1), z.w.cell? ⟨h14, 7, none⟩ = some (.int .u32 m8) := fun z => ((hto0 z).cell (p := ⟨h14, 7, none⟩) hlq).trans q7
          have y8 : ∀ z : Wd (upS S 1), z.w.cell? ⟨h14, 8, none⟩ = some (.int .u32 m9) := fun z => ((hto0 z).cell (p := ⟨h14, 8, none⟩) hlq).trans q8
          have y9 : ∀ z : Wd (upS S 1), z.w.cell? ⟨h14, 9, none⟩ = some (.int .u32 m10) := fun z => ((hto0 z).cell (p := ⟨h14, 9, none⟩) hlq).trans q9
          have y10 : ∀ z : Wd (upS S 1), z.w.cell? ⟨h14, 10, none⟩ = some (.int .u32 m11) := fun z => ((hto0 z).cell (p := ⟨h14, 10, none⟩) hlq).trans q10
          have y11 : ∀ z : Wd (upS S 1), z.w.cell? ⟨h14, 11, none⟩ = some (.int .u32 m12) := fun z => ((hto0 z).cell (p := ⟨h14, 11, none⟩) hlq).trans q11
          have y12 : ∀ z : Wd (upS S 1), z.w.cell? ⟨h14, 12, none⟩ = some (.bool m13) := fun z => ((hto0 z).cell (p := ⟨h14, 12, none⟩) hlq).trans q12
          have Hof := Lib.hid hof
          have hne1 := hne 1
          have hne9 := hne 9
          clear hto hto0 hof hne q13r hgl hxq hlq q0 q1 q2 q3 q4 q5 q6 q7 q8 q9 q10 q11 q12
          refine lexM_light 1 9 (by kernel_rfl) (by kernel_rfl) ?_
          simp only [List.take_succ_cons, List.take_zero, List.drop_succ_cons, List.drop_zero]
          repeat (first | go_big_quiet_skip | (go_big_quiet_want; go_big_quiet_op; go_big_quiet_on))
          refine wpQuiet_nil ?_
          refine lexM_light 4 1 (by kernel_rfl) (by kernel_rfl) ?_
          simp only [List.take_succ_cons, List.take_zero, List.drop_succ_cons, List.drop_zero]
          repeat (first | go_big_quiet_skip | (go_big_quiet_want; go_big_quiet_op; go_big_quiet_on))
          refine wpQuiet_nil ?_
          clear xr y0 y1 y2 y3 y4 y5 y6 y7 y8 y9 y10 y11 y12
          refine lexM_heavy (by kernel_rfl) ?_
          go_wp2_with fail
          have hb6 : Below w5.heap.size w5 (w5.alloc (.cells #[.int .i64 m1, .int .i64 m2, .int .i64 m3, .int .i64 m4, .int .i64 m5, .int .i64 m6, .int .i64 m7, .int .u32 m8, .int .u32 m9, .int .u32 m10, .int .u32 m11, .int .u32 m12, .bool m13] 32)).drew := ((Below.refl _ _).alloc (Nat.le_refl _) _).drew
          refine lexMQ_more (Hof.out 1 _ (by rw [if_pos (by omega)]; exact hb6)) ?_
          obtain ⟨h9, hh9⟩ : ∃ h, h = w5.heap.size := ⟨_, rfl⟩
          have hcat : ∀ j u, ((⟨m1, m2, m3, m4, m5, m6, m7, m8, m9, m10, m11, m12, m13⟩ : MsgV)).cs[j]? = some u → (w5.alloc (.cells #[.int .i64 m1, .int .i64 m2, .int .i64 m3, .int .i64 m4, .int .i64 m5, .int .i64 m6, .int .i64 m7, .int .u32 m8, .int .u32 m9, .int .u32 m10, .int .u32 m11, .int .u32 m12, .bool m13] 32)).drew.cell? ((⟨h9, 0, none⟩ : Addr).add j) = some u := fun j u hj => by rw [hh9]; exact cat_new' w5 (⟨m1, m2, m3, m4, m5, m6, m7, m8, m9, m10, m11, m12, m13⟩ : MsgV) j u hj
          have HCAT := Lib.hid hcat
          have HB6 := Lib.hid (HB5B.out.bel hb6)
          have HW6 := Lib.hid (HB5.out.trans (hb6.mono HB5.out.size))
          rw [← hh9]
          clear hb6 hh9 hcat
          generalize (w5.alloc (.cells #[.int .i64 m1, .int .i64 m2, .int .i64 m3, .int .i64 m4, .int .i64 m5, .int .i64 m6, .int .i64 m7, .int .u32 m8, .int .u32 m9, .int .u32 m10, .int .u32 m11, .int .u32 m12, .bool m13] 32)).drew = w6 at *
          have hrow := HB6.out.row p' c' HPC.out.1 HPC.out.2
          rw [HVV.out, HL.out] at hrow
          have HROW := Lib.hid hrow
          have HSZ6 := Lib.hid (show w0.heap.size ≤ w6.heap.size from HB6.out.below.size)
          clear hrow
          refine lexM_heavy (by kernel_rfl) ?_
          go_wp2_with (at_builtin; refine wpList_append_win _ rfl _ _ 44 rfl w0.heap.size 32 i0 _ 13 80 Tryd.underlying44 HI.out HZ0.out HZ1.out HZ2.out rfl (by decide) (.slice ak L.length ck) L.length (flatM L) rfl HROW.out ⟨h9, 0, none⟩ 1 1 ((⟨m1, m2, m3, m4, m5, m6, m7, m8, m9, m10, m11, m12, m13⟩ : MsgV)).cs rfl rfl HCAT.out (cs_one _) (by omega) (by unfold maxLen; omega) (by omega) HSZ6.out ?_; intro g9 off9 cap9 w8 hrow8 hgr8 hat8 hlt8; refine halt ?_)
          have HR8 := Lib.hid hrow8
          have HAT8 := Lib.hid hat8
          have HM8 := Lib.hid (show Mods (fun q => (Vi p' c').ownBlock = some q) w6 w8 from by rw [HVV.out]; exact Mods.grown hgr8 fun q hq => hq)
          obtain ⟨n1, hn1⟩ : ∃ n1, n1 = L.length + 1 := ⟨_, rfl⟩
          have HN1 := Lib.hid hn1
          rw [← hn1] at HR8
          rw [← hn1]
          clear hrow8 hgr8 hat8 hn1 hlt8
          unfold Halt
          refine lexMQ_more (Hof.out 2 _ (by rw [if_neg (by omega)]; trivial)) ?_
          refine lexM_light 1 9 (by kernel_rfl) (by kernel_rfl) ?_
          simp only [List.take_succ_cons, List.take_zero, List.drop_succ_cons, List.drop_zero]
          repeat (first | go_big_quiet_skip | (go_big_quiet_want; go_big_quiet_op; go_big_quiet_on))
          refine wpQuiet_nil ?_
          have hl8 : winRow w8 w0.heap.size 44 1 (X p') n ((List.range n).map (Vi p')) := (HB6.out.lst p' HPC.out.1).keep fun q hq => HM8.out.block q ((HB6.out.lst p' HPC.out.1).lt q hq).2 (HB6.out.xv p' p' c' HPC.out.1 HPC.out.1 HPC.out.2 q hq)
          have zf := hl8.frozen HXP.out c'
          obtain ⟨g3, o3, c3, hX3, _, _, hg3, hc3⟩ := hl8.form h1
          rw [HXP.out] at hX3
          simp only [Value.slice.injEq, Option.some.injEq, Addr.mk.injEq, true_and, and_true] at hX3
          obtain ⟨⟨rfl, rfl⟩, rfl⟩ := hX3
          have zc := hc3 c' (Vi p' c') (by rw [List.getElem?_map, List.getElem?_range HPC.out.2]; rfl)
          clear hc3 hl8
          refine lexM_heavy (by kernel_rfl) ?_
          go_wp2_with fail
          obtain ⟨v9, hv9⟩ : ∃ v9, v9 = Value.slice (some ⟨g9, off9, none⟩) n1 cap9 := ⟨_, rfl⟩
          rw [← hv9] at HR8 ⊢
          have hv9o : ∀ q, v9.ownBlock = some q → (Vi p' c').ownBlock = some q ∨ w6.heap.size ≤ q := fun q hq => by
            rw [hv9] at hq
            have hq : g9 = q := Option.some.inj hq
            subst hq
            rw [HVV.out]
            rcases HAT8.out with e | e
            · exact .inl e
            · exact .inr (by rw [e]; exact Nat.le_refl _)
          have hpost := HB6.out.put (p0 := p') (c0 := c') (L := L ++ [(⟨m1, m2, m3, m4, m5, m6, m7, m8, m9, m10, m11, m12, m13⟩ : MsgV)]) HPC.out.1 HPC.out.2 HXP.out HM8.out (by rw [flatM_snoc, List.length_append, List.length_singleton, ← HN1.out]; exact HR8.out) hv9o
          have htk : l.take (i + 1) = l.take i ++ [(⟨m1, m2, m3, m4, m5, m6, m7, m8, m9, m10, m11, m12, m13⟩ : MsgV)] := by rw [List.take_add_one, HM.out]; rfl
          have hFA : updF (addM F (l.take i)) ((p' : Int), (c' : Int)) (L ++ [(⟨m1, m2, m3, m4, m5, m6, m7, m8, m9, m10, m11, m12, m13⟩ : MsgV)]) = addM F (l.take (i + 1)) := by rw [htk, addM_snoc, HPL.out, HL.out]
          rw [hFA] at hpost
          obtain ⟨V2, hb9, hm9, ho9⟩ := hpost
          have HB9 := Lib.hid hb9
          have HM9 := Lib.hid (show Mods (RfOwn n X V) w _ from (HMI.out.trans (Mods.of_below (S := RfOwn n X V) HW6.out) fun _ _ h => h).trans hm9 fun q hl hq => (HOI.out q hq).elim id fun e => by omega)
          have HO9 := Lib.hid (show ∀ q, RfOwn n X V2 q → RfOwn n X V q ∨ w.heap.size ≤ q from fun q hq => by
            rcases ho9 q hq with e | e
            · exact HOI.out q e
            · have h3 := HW6.out.size
              have h4 := HMI.out.size
              exact .inr (by omega))
          refine lexMQ_more (Hof.out 3 _ (by rw [if_neg (by omega)]; trivial)) ?_
          refine lexM_done ?_
          clear Hof hne1 hne9 zf zc hv9 hv9o htk hFA hb9 hm9 ho9
          generalize w8.setCell ⟨gp, op + c', none⟩ v9 = w9 at *
          go_wp2_with fail
          go_roundw
          case rel => exact ⟨i + 1, by omega, by go_num, V2, HB9.out, HM9.out, HO9.out⟩
          case measure => simp [intOf] <;> omega
        · have k1 : decide (i < l.length) = false := by simpa using hin
          have HEQ := Lib.hid (show i = l.length by omega)
          go_wp2_with fail
          go_ret2
          rw [HFE.out]
          refine ⟨rfl, Vi, ?_, HMI.out, HOI.out⟩
          have h3 := HBI.out
          rw [HEQ.out, List.take_length] at h3
          rw [HSF.out]
          exact h3

end Go.Proofs.YtbefkkefglkleaaDoor
