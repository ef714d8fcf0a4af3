/- FabricTakes: true; no condition but what a start gives. -/
import Derived.Test.YtbefkkefglkleaaDoorFb5
namespace Go.Proofs.YtbefkkefglkleaaDoor
open Go.RowKit Go.Extern.Stop Go.Stop Go.Extern

def tkM (i : Nat) : MsgV := ⟨8, 1, 0, 0, 0, 0, (i : Int) % 4, (i : Int), 0, 0, 0, 0, false⟩
theorem tkBads : (List.range 31).all (fun i => !badM 2 (tkM i) && !badM 2 (ofM 1 ((i : Int) % 2))) = true := by kernel_rfl
theorem eqM_self' (m : MsgV) : eqM m m = true := (eqM_iff m m).2 rfl
/-- What is there while messages are sent: so many of each. -/
structure TkF (n0 : Nat) (W : List MsgV) (F : Plc → List MsgV) : Prop where
  p11 : F (1, 1) = W
  p00 : (F (0, 0)).length = n0
  p10 : F (1, 0) = []
  le : LeF F 40
theorem TkF.send {n0 : Nat} {W : List MsgV} {F : Plc → List MsgV} (h : TkF n0 W F) {i : Nat} (hi : i ≤ 30) (h1 : W.length < 40) (h2 : n0 < 40) :
    fitsE 2 40 F [tkM i, ofM 1 ((i : Int) % 2)] = .nil ∧ sentN 2 40 F [tkM i, ofM 1 ((i : Int) % 2)] = 2 ∧ TkF (n0 + 1) (W ++ [tkM i]) (sendF 2 40 F [tkM i, ofM 1 ((i : Int) % 2)]) := by
  have e1 : plM (tkM i) = (1, 1) := rfl
  have e2 : plM (ofM 1 ((i : Int) % 2)) = (0, 0) := rfl
  have hb := tkBads
  simp only [List.all_eq_true, List.mem_range] at hb
  have hb := hb i (by omega)
  simp only [Bool.and_eq_true, Bool.not_eq_true'] at hb
  have hf : fitsE 2 40 F [tkM i, ofM 1 ((i : Int) % 2)] = .nil := by
    refine fits_nil (fun j hj => ?_) fun j hj => ?_
    · have : j = 0 ∨ j = 1 := by simp at hj; omega
      rcases this with rfl | rfl
      · exact hb.1
      · exact hb.2
    · have : j = 0 ∨ j = 1 := by simp at hj; omega
      rcases this with rfl | rfl
      · unfold fullB
        simp [cntP, e1, h.p11]
        omega
      · have e : fullB 40 F [tkM i, ofM 1 ((i : Int) % 2)] 1 = decide ((40 : Int) < ((F (0, 0)).length : Int) + ((cntP [tkM i, ofM 1 ((i : Int) % 2)] (0, 0) : Nat) : Int)) := rfl
        rw [e, h.p00, show cntP [tkM i, ofM 1 ((i : Int) % 2)] (0, 0) = 1 from rfl]
        simp
        omega
  have hl := h.le.send 2 [tkM i, ofM 1 ((i : Int) % 2)]
  have hs : sendF 2 40 F [tkM i, ofM 1 ((i : Int) % 2)] = addM F [tkM i, ofM 1 ((i : Int) % 2)] := by unfold sendF; rw [hf]; rfl
  refine ⟨hf, by unfold sentN; rw [hf]; rfl, ?_⟩
  have hl : LeF (addM F [tkM i, ofM 1 ((i : Int) % 2)]) 40 := by rw [← hs]; exact hl
  rw [hs]
  simp only [addM, e1, e2] at hl ⊢
  refine ⟨?_, ?_, ?_, hl⟩
  · simp [updF, h.p11]
  · simp [updF, h.p00]
  · simp [updF, h.p10]
theorem TkF.take {n0 : Nat} {W : List MsgV} {F : Plc → List MsgV} (h : TkF n0 W F) {k : Nat} {M : MsgV} (hk : W[k]? = some M) : peekP 2 F 1 1 k = (M, true) ∧ tookN 2 F 1 1 k = 1 ∧ TkF n0 (W.eraseIdx k) (takeF 2 F 1 1 k) := by
  obtain ⟨h1, h2, h3⟩ := peek_at (cores := 2) (F := F) (p := 1) (c := 1) (k := k) (q := (1, 1)) (M := M) rfl rfl (by rw [h.p11]; exact hk)
  have hl := h.le.take 2 1 1 k
  refine ⟨h1, h3, ?_⟩
  rw [h2] at hl ⊢
  refine ⟨?_, ?_, ?_, hl⟩
  · simp [updF, h.p11]
  · simp [updF, h.p00]
  · simp [updF, h.p10]
theorem TkF.peek {n0 : Nat} {W : List MsgV} {F : Plc → List MsgV} (h : TkF n0 W F) {k : Nat} {M : MsgV} (hk : W[k]? = some M) : peekP 2 F 1 1 k = (M, true) := (h.take hk).1

set_option maxRecDepth 100000 in
set_option maxHeartbeats 8000000 in
theorem fabricTakes (A : Nat → Addr) (many : Int) (vp : Value) (np : Nat) (gp : Nat → Int) (w : World) (hs : SentAt w A) (h1 : in64 many) (h2 : IntsAt .i64 w vp np gp) : Calls Tryd.prog 7 #[.int .i64 many, vp] w (TruePost w) := by
  have HS := Lib.hid hs
  have HP := Lib.hid h2
  obtain ⟨ap, cp, rfl, hpc⟩ := h2.form
  have HPC := Lib.hid hpc
  have hnp : np ≤ 9223372036854775807 := by have := h2.len; unfold maxLen at this; omega
  have H1 := Lib.hid h1
  obtain ⟨i0, hi0, hi1⟩ := Option.map_eq_some_iff.1 nInfoM
  simp only [Prod.mk.injEq] at hi1
  obtain ⟨hz0, hz1, hz2⟩ := hi1
  have HI := Lib.hid hi0
  have HZ0 := Lib.hid hz0
  have HZ1 := Lib.hid hz1
  have HZ2 := Lib.hid hz2
  clear hi0 hz0 hz1 hz2 hs h1 h2 hpc
  go_enter Tryd.func7, Tryd.ntmps7
  go_wp2_with fail
  refine (fbs_new 2 40 [] w (by omega) (by omega) (by omega) (by omega) (fun q hq => by cases hq)).mono ?_
  rintro ev w1 ⟨b, rfl, hF⟩
  have HR := Lib.hid (FbR.nil hF)
  clear hF
  go_wp2_with fail
  refine (Within_b many 0 30 w1 (by omega) (by omega) (by omega) H1.out.1 H1.out.2).mono ?_
  rintro ev w' ⟨rfl, hww⟩
  obtain rfl := hww
  have hn := wiF_b (n := many) (lo := 0) (hi := 30) (by omega)
  generalize wiF many 0 30 = n at *
  obtain ⟨n, rfl⟩ := Int.eq_ofNat_of_zero_le (show 0 ≤ n by omega)
  have HN := Lib.hid (show n ≤ 30 by omega)
  clear hn
  have HT := Lib.hid (show TkF 0 [] (fun _ => []) from ⟨rfl, rfl, rfl, LeF.nil 40⟩)
  have HR := Lib.hid (show FbR w b 2 40 (fun _ => []) (0 + 0) (.slice none 0 0) [] w1 from HR.out)
  go_wp2_with fail
  go_loopw [7, 8] (fun s7 s8 wr => ∃ (i ln cp : Nat) (ad : Option Addr) (W : List MsgV) (F : Plc → List MsgV), s8 = .int .i64 i ∧ s7 = .slice ad ln cp ∧ ln = W.length ∧ ln + i = n ∧ TkF ln W F ∧ FbR w b 2 40 F (ln + ln) (.slice ad ln cp) W wr) (fun _ s8 _ => (intOf s8).toNat)
  case atStart => exact ⟨n, 0, 0, none, [], _, rfl, rfl, rfl, by simp, HT.out, HR.out⟩
  case round =>
    clear HT HR
    obtain ⟨i, ln, cp, ad, W, F, rfl, rfl, hln, hWi, ht, hr⟩ := hrel
    have HT := Lib.hid ht
    have HR := Lib.hid hr
    have HLN := Lib.hid hln
    have HWI := Lib.hid hWi
    clear ht hr hWi hln
    by_cases hi : 0 < i
    · have hi30 : i ≤ 30 := by have := HN.out; have := HWI.out; omega
      have hl30 : ln ≤ 30 := by have := HN.out; have := HWI.out; omega
      have k1 : decide (0 < i) = true := by simpa using hi
      have k2 : decide (0 < (i : Int)) = true := by simp; omega
      go_upto_region 9 with fail
      obtain ⟨h9, hh⟩ : ∃ h, h = wr.heap.size := ⟨_, rfl⟩
      have hb : Below wr.heap.size wr (wr.alloc (.cells #[.int .i64 8, .int .i64 1, .int .i64 0, .int .i64 0, .int .i64 0, .int .i64 0, .int .i64 ((i : Int) % 4), .int .u32 (i : Int), .int .u32 0, .int .u32 0, .int .u32 0, .int .u32 0, .bool false] 32)) := (Below.refl _ _).alloc (Nat.le_refl _) _
      have HX := Lib.hid (show (wr.alloc (.cells #[.int .i64 8, .int .i64 1, .int .i64 0, .int .i64 0, .int .i64 0, .int .i64 0, .int .i64 ((i : Int) % 4), .int .u32 (i : Int), .int .u32 0, .int .u32 0, .int .u32 0, .int .u32 0, .bool false] 32)).heap[h9]? = some (.cells #[.int .i64 8, .int .i64 1, .int .i64 0, .int .i64 0, .int .i64 0, .int .i64 0, .int .i64 ((i : Int) % 4), .int .u32 (i : Int), .int .u32 0, .int .u32 0, .int .u32 0, .int .u32 0, .bool false] 32 (0, 0)) from by rw [hh]; exact heap_alloc_new _ _)
      have HFX := Lib.hid (show FbS w b 2 40 F (ln + ln) ([h9] ++ (Value.slice ad ln cp).ownBlock.toList) (wr.alloc (.cells #[.int .i64 8, .int .i64 1, .int .i64 0, .int .i64 0, .int .i64 0, .int .i64 0, .int .i64 ((i : Int) % 4), .int .u32 (i : Int), .int .u32 0, .int .u32 0, .int .u32 0, .int .u32 0, .bool false] 32)) from (HR.out.fab.add h9 (by omega)).bel hb)
      have HR4 := Lib.hid (HR.out.bel hb)
      rw [← hh]
      clear hb hh HR
      generalize wr.alloc (.cells #[.int .i64 8, .int .i64 1, .int .i64 0, .int .i64 0, .int .i64 0, .int .i64 0, .int .i64 ((i : Int) % 4), .int .u32 (i : Int), .int .u32 0, .int .u32 0, .int .u32 0, .int .u32 0, .bool false] 32) = w4 at *
      go_cut [48] from 41 to 47 (fun s48 wx => s48 = .bool false ∧ TkF (ln + 1) (W ++ [tkM i]) (sendF 2 40 F [tkM i, ofM 1 ((i : Int) % 2)]) ∧ FbR w b 2 40 (sendF 2 40 F [tkM i, ofM 1 ((i : Int) % 2)]) (ln + ln + 2) (.slice ad ln cp) W wx ∧ wx.heap[h9]? = some (.cells #[.int .i64 8, .int .i64 1, .int .i64 0, .int .i64 0, .int .i64 0, .int .i64 0, .int .i64 ((i : Int) % 4), .int .u32 (i : Int), .int .u32 0, .int .u32 0, .int .u32 0, .int .u32 0, .bool false] 32 (0, 0)))
      case first =>
        have hxq := HX.out
        have q0 := cell_of hxq 0
        have q1 := cell_of hxq 1
        have q2 := cell_of hxq 2
        have q3 := cell_of hxq 3
        have q4 := cell_of hxq 4
        have q5 := cell_of hxq 5
        have q6 := cell_of hxq 6
        have q7 := cell_of hxq 7
        have q8 := cell_of hxq 8
        have q9 := cell_of hxq 9
        have q10 := cell_of hxq 10
        have q11 := cell_of hxq 11
        have q12 := cell_of hxq 12
        simp only [List.getElem?_toArray, List.getElem?_cons_zero, List.getElem?_cons_succ] at q0 q1 q2 q3 q4 q5 q6 q7 q8 q9 q10 q11 q12
        have hlq := (Array.getElem?_eq_some_iff.1 hxq).1
        refine wp_region_lexN ⟨[], []⟩ (fun m x => if m ≤ 2 then Below w4.heap.size w4 x else True) (by kernel_rfl) (by kernel_rfl) (by rw [if_pos (by omega)]; exact (Below.refl _ _).drew) ?_
        intro S hto hof hne
        have hto0 : ∀ z : Wd (upS S 2), Below w4.heap.size w4 z.w := fun z => by
          obtain ⟨m, hm, hx⟩ := hto 2 z
          rw [if_pos hm] at hx
          exact hx
        have yq0 : ∀ z : Wd (upS S 2), z.w.cell? ⟨h9, 0, none⟩ = some (.int .i64 8) := fun z => ((hto0 z).cell (p := ⟨h9, 0, none⟩) hlq).trans q0
        have yq1 : ∀ z : Wd (upS S 2), z.w.cell? ⟨h9, 1, none⟩ = some (.int .i64 1) := fun z => ((hto0 z).cell (p := ⟨h9, 1, none⟩) hlq).trans q1
        have yq2 : ∀ z : Wd (upS S 2), z.w.cell? ⟨h9, 2, none⟩ = some (.int .i64 0) := fun z => ((hto0 z).cell (p := ⟨h9, 2, none⟩) hlq).trans q2
        have yq3 : ∀ z : Wd (upS S 2), z.w.cell? ⟨h9, 3, none⟩ = some (.int .i64 0) := fun z => ((hto0 z).cell (p := ⟨h9, 3, none⟩) hlq).trans q3
        have yq4 : ∀ z : Wd (upS S 2), z.w.cell? ⟨h9, 4, none⟩ = some (.int .i64 0) := fun z => ((hto0 z).cell (p := ⟨h9, 4, none⟩) hlq).trans q4
        have yq5 : ∀ z : Wd (upS S 2), z.w.cell? ⟨h9, 5, none⟩ = some (.int .i64 0) := fun z => ((hto0 z).cell (p := ⟨h9, 5, none⟩) hlq).trans q5
        have yq6 : ∀ z : Wd (upS S 2), z.w.cell? ⟨h9, 6, none⟩ = some (.int .i64 ((i : Int) % 4)) := fun z => ((hto0 z).cell (p := ⟨h9, 6, none⟩) hlq).trans q6
        have yq7 : ∀ z : Wd (upS S 2), z.w.cell? ⟨h9, 7, none⟩ = some (.int .u32 (i : Int)) := fun z => ((hto0 z).cell (p := ⟨h9, 7, none⟩) hlq).trans q7
        have yq8 : ∀ z : Wd (upS S 2), z.w.cell? ⟨h9, 8, none⟩ = some (.int .u32 0) := fun z => ((hto0 z).cell (p := ⟨h9, 8, none⟩) hlq).trans q8
        have yq9 : ∀ z : Wd (upS S 2), z.w.cell? ⟨h9, 9, none⟩ = some (.int .u32 0) := fun z => ((hto0 z).cell (p := ⟨h9, 9, none⟩) hlq).trans q9
        have yq10 : ∀ z : Wd (upS S 2), z.w.cell? ⟨h9, 10, none⟩ = some (.int .u32 0) := fun z => ((hto0 z).cell (p := ⟨h9, 10, none⟩) hlq).trans q10
        have yq11 : ∀ z : Wd (upS S 2), z.w.cell? ⟨h9, 11, none⟩ = some (.int .u32 0) := fun z => ((hto0 z).cell (p := ⟨h9, 11, none⟩) hlq).trans q11
        have yq12 : ∀ z : Wd (upS S 2), z.w.cell? ⟨h9, 12, none⟩ = some (.bool false) := fun z => ((hto0 z).cell (p := ⟨h9, 12, none⟩) hlq).trans q12
        have Hof := Lib.hid hof
        have hne1 := hne 2
        have hne9 := hne 9
        clear hto hto0 hof hne hxq hlq q0 q1 q2 q3 q4 q5 q6 q7 q8 q9 q10 q11 q12
        refine lexM_light 4 2 (by kernel_rfl) (by kernel_rfl) ?_
        simp only [List.take_succ_cons, List.take_zero, List.drop_succ_cons, List.drop_zero]
        repeat (first | go_big_quiet_skip | (go_big_quiet_want; go_big_quiet_op; go_big_quiet_on))
        refine wpQuiet_nil ?_
        clear yq0 yq1 yq2 yq3 yq4 yq5 yq6 yq7 yq8 yq9 yq10 yq11 yq12
        refine lexM_heavy (by kernel_rfl) ?_
        go_wp2_with fail
        refine (of_c 1 ((i : Int) % 2) w4.drew).mono ?_
        rintro ev w5 ⟨rfl, hb5⟩
        simp only [ofM, MsgV.v]
        have HB5 := Lib.hid ((Below.refl w4.heap.size w4).drew.trans hb5)
        clear hb5
        go_wp2_with fail
        refine lexMQ_more (Hof.out 1 _ (by rw [if_pos (by omega)]; exact HB5.out)) ?_
        refine lexM_heavy (by kernel_rfl) ?_
        go_wp2_with fail
        have hb6 : Below w4.heap.size w4 (w5.alloc (.cells (flatM [tkM i, ofM 1 ((i : Int) % 2)]).toArray 32)) := HB5.out.alloc HB5.out.size _
        refine lexMQ_more (Hof.out 2 _ (by rw [if_pos (by omega)]; exact hb6)) ?_
        clear hb6
        have HR5 := Lib.hid (HR4.out.bel HB5.out)
        have HFX5 := Lib.hid (HFX.out.bel HB5.out)
        have HX5 := Lib.hid ((HB5.out.block h9 (Array.getElem?_eq_some_iff.1 HX.out).1).trans HX.out)
        obtain ⟨hfe, hsn, ht2⟩ := HT.out.send hi30 (by rw [← HLN.out]; omega) (by omega)
        have HT2 := Lib.hid ht2
        have HFE := Lib.hid hfe
        have HSN := Lib.hid hsn
        clear hfe hsn ht2
        refine lexM_heavy (by kernel_rfl) ?_
        go_wp2_with fail
        refine (fbr_sendX A w b (ln + ln) 2 40 40 rfl F _ W [tkM i, ofM 1 ((i : Int) % 2)] w5 [h9] HR5.out HFX5.out (fun q hq => by
          obtain rfl : q = h9 := by simpa using hq
          exact (Array.getElem?_eq_some_iff.1 HX5.out).1) HS.out (by simp) HT.out.le (by omega)).mono ?_
        rintro ev w6 ⟨rfl, hr6, _, hk6⟩
        rw [HSN.out] at hr6
        rw [HFE.out, show ErrT.nil.val A = .nilIface from rfl]
        have HR6 := Lib.hid hr6
        have HX6 := Lib.hid (hk6.at (List.mem_cons_self ..) HX5.out)
        clear hr6 hk6
        go_wp2_with fail
        refine lexMQ_more (Hof.out 3 _ (by rw [if_neg (by omega)]; trivial)) ?_
        refine lexM_light 1 9 (by kernel_rfl) (by kernel_rfl) ?_
        simp only [List.take_succ_cons, List.take_zero, List.drop_succ_cons, List.drop_zero]
        repeat (first | go_big_quiet_skip | (go_big_quiet_want; go_big_quiet_op; go_big_quiet_on))
        refine wpQuiet_nil ?_
        refine lexM_done ?_
        clear Hof hne1 hne9
        go_wp2_with fail
        go_meet
        case rel => exact ⟨rfl, HT2.out, HR6.out, HX6.out⟩
      case rest =>
        obtain ⟨rfl, ht2, hr6, hx6⟩ := hcut
        generalize wc = w6 at *
        have HT2 := Lib.hid ht2
        have HR6 := Lib.hid hr6
        have HX6 := Lib.hid hx6
        clear ht2 hr6 hx6 HR4 HFX HX HT
        go_upto_region 11 with fail
        have hxq := HX6.out
        have q0 := cell_of hxq 0
        have q1 := cell_of hxq 1
        have q2 := cell_of hxq 2
        have q3 := cell_of hxq 3
        have q4 := cell_of hxq 4
        have q5 := cell_of hxq 5
        have q6 := cell_of hxq 6
        have q7 := cell_of hxq 7
        have q8 := cell_of hxq 8
        have q9 := cell_of hxq 9
        have q10 := cell_of hxq 10
        have q11 := cell_of hxq 11
        have q12 := cell_of hxq 12
        simp only [List.getElem?_toArray, List.getElem?_cons_zero, List.getElem?_cons_succ] at q0 q1 q2 q3 q4 q5 q6 q7 q8 q9 q10 q11 q12
        have hlq := (Array.getElem?_eq_some_iff.1 hxq).1
        have hb7 : Below w6.heap.size w6 (w6.alloc (.cells #[.int .i64 8, .int .i64 1, .int .i64 0, .int .i64 0, .int .i64 0, .int .i64 0, .int .i64 ((i : Int) % 4), .int .u32 (i : Int), .int .u32 0, .int .u32 0, .int .u32 0, .int .u32 0, .bool false] 32)) := (Below.refl _ _).alloc (Nat.le_refl _) _
        have HR7 := Lib.hid (HR6.out.bel hb7)
        have HCAT := Lib.hid (cat_new w6 (tkM i))
        have HSZ := Lib.hid (show w.heap.size ≤ (w6.alloc (.cells #[.int .i64 8, .int .i64 1, .int .i64 0, .int .i64 0, .int .i64 0, .int .i64 0, .int .i64 ((i : Int) % 4), .int .u32 (i : Int), .int .u32 0, .int .u32 0, .int .u32 0, .int .u32 0, .bool false] 32)).heap.size from HR7.out.below.size)
        clear hb7
        go_wp2_with (at_builtin; refine wpList_append_win _ rfl _ _ 44 rfl w.heap.size 32 i0 _ 13 80 Tryd.underlying44 HI.out HZ0.out HZ1.out HZ2.out rfl (by decide) (.slice ad ln cp) ln (flatM W) rfl (by have h := HR7.out.row; rw [← HLN.out] at h; exact h) ⟨w6.heap.size, 0, none⟩ 1 1 (tkM i).cs rfl rfl HCAT.out (cs_one _) (by omega) (by unfold maxLen; omega) (by omega) HSZ.out ?_; intro g8 off8 cap8 w8 hrow8 hgr8 hat8 hlt8; refine halt ?_)
        have HR8 := Lib.hid (show FbR w b 2 40 (sendF 2 40 F [tkM i, ofM 1 ((i : Int) % 2)]) (ln + ln + 2) (.slice (some ⟨g8, off8, none⟩) (ln + 1) cap8) (W ++ [tkM i]) w8 from HR7.out.grow (by rw [flatM_snoc, List.length_append, ← HLN.out]; exact hrow8) hgr8 fun g hg => by
          have hg : g8 = g := Option.some.inj hg
          subst hg
          rcases hat8 with e | e
          · exact .inl e
          · exact .inr (by rw [e]; exact Nat.le_refl _))
        clear hrow8 hgr8 hat8 hlt8 hxq hlq q0 q1 q2 q3 q4 q5 q6 q7 q8 q9 q10 q11 q12
        have HLN2 := Lib.hid (show ln + 1 = (W ++ [tkM i]).length by rw [List.length_append, ← HLN.out]; rfl)
        obtain ⟨l2, hl2⟩ : ∃ l2, l2 = ln + 1 := ⟨_, rfl⟩
        have HL2 := Lib.hid hl2
        rw [← hl2] at HR8 HLN2 HT2 ⊢
        clear hl2
        unfold Halt
        go_wp2_with fail
        go_roundw
        case rel => exact ⟨i - 1, l2, cap8, _, W ++ [tkM i], _, by rw [show (i : Int) - 1 = ((i - 1 : Nat) : Int) by omega], rfl, HLN2.out, by have := HL2.out; have := HWI.out; omega, HT2.out, by rw [show l2 + l2 = ln + ln + 2 by have := HL2.out; omega]; exact HR8.out⟩
        case measure => simp [intOf] <;> omega
    · have k1 : decide (0 < i) = false := by simpa using hi
      have hln : ln = n := by have := HWI.out; omega
      have HN2 := Lib.hid (show n ≤ 30 from HN.out)
      rw [hln] at HR HT HLN ⊢
      clear hln HWI
      go_wp2_with fail
      go_loopw [7, 11] (fun s7 s11 wr => ∃ (i ln cp : Nat) (ad : Option Addr) (W : List MsgV) (F : Plc → List MsgV), s11 = .int .i64 i ∧ s7 = .slice ad ln cp ∧ ln = W.length ∧ i + ln = n ∧ TkF n W F ∧ FbR w b 2 40 F (ln + n) (.slice ad ln cp) W wr) (fun _ s11 _ => n - (intOf s11).toNat)
      case atStart => exact ⟨0, n, cp, ad, W, F, rfl, rfl, HLN.out, by omega, HT.out, HR.out⟩
      case round =>
        clear HT HR HLN
        clear W F
        obtain ⟨i, ln, cp, ad, W, F, rfl, rfl, hln, hWi, ht, hr⟩ := hrel
        have HT := Lib.hid ht
        have HR := Lib.hid hr
        have HLN := Lib.hid hln
        have HWI := Lib.hid hWi
        clear ht hr hWi hln
        have hi30 : i ≤ 30 := by have := HN.out; have := HWI.out; omega
        have hl30 : ln ≤ 30 := by have := HN.out; have := HWI.out; omega
        by_cases hl : 0 < ln
        · have k3 : decide (0 < ln) = true := by simpa using hl
          have k4 : decide (0 < (ln : Int)) = true := by simp; omega
          obtain ⟨g, off, cp', hvf, hcap, _, hg, hc⟩ := HR.out.row.form (by rw [← HLN.out]; exact hl)
          simp only [Value.slice.injEq] at hvf
          obtain ⟨rfl, -, rfl⟩ := hvf
          rw [← HLN.out] at hcap
          have HC := Lib.hid hc
          have HG := Lib.hid hg
          have hcm : cp ≤ 9223372036854775807 := by have h := HR.out.row; rw [← HLN.out] at h; exact h.cap_max
          clear hc hg
          go_upto_if 63 with fail
          go_cut [12] from 63 to 71 (fun s12 wx => ∃ k : Nat, s12 = .int .i64 k ∧ k < ln ∧ wx = wr)
          case first =>
            by_cases hip : i < np
            · have k5 : decide (i < np) = true := by simpa using hip
              have k6 : decide ((i : Int) < (np : Int)) = true := by simp; omega
              obtain ⟨gq, oq, rfl, hbq, hcq⟩ := HPC.out i hip
              have q0 := (HR.out.below.cell (p := ⟨gq, oq + i, none⟩) hbq).trans hcq
              have hnum := Go.bounds_i64 (HP.out.num i hip)
              have HNUM := Lib.hid hnum
              clear hcq hnum hbq
              go_wp2_with fail
              refine (Within_b (gp i) 0 ((ln : Int) - 1) wr (by omega) (by omega) (by omega) HNUM.out.1 HNUM.out.2).mono ?_
              rintro ev w' ⟨rfl, hww⟩
              obtain rfl := hww
              have hk := wiF_b (n := gp i) (lo := 0) (hi := (ln : Int) - 1) (by omega)
              generalize wiF (gp i) 0 ((ln : Int) - 1) = kk at *
              obtain ⟨kk, rfl⟩ := Int.eq_ofNat_of_zero_le hk.1
              have HKK := Lib.hid (show kk < ln by omega)
              clear hk
              go_wp2_with fail
              go_meet
              case rel => exact ⟨kk, rfl, HKK.out, rfl⟩
            · have k5 : decide (i < np) = false := by simpa using hip
              have k6 : decide ((i : Int) < (np : Int)) = false := by simp; omega
              go_wp2_with fail
              go_meet
              case rel => exact ⟨0, rfl, by omega, rfl⟩
          case rest =>
            obtain ⟨k, rfl, hkl, rfl⟩ := hcut
            obtain ⟨m, hm⟩ : ∃ m, W[k]? = some m := ⟨_, List.getElem?_eq_getElem (by rw [← HLN.out]; exact hkl)⟩
            obtain ⟨hpk, htn, ht2⟩ := HT.out.take hm
            have HPK := Lib.hid hpk
            have HTN := Lib.hid htn
            have HT2 := Lib.hid ht2
            have HM := Lib.hid hm
            have HKL := Lib.hid hkl
            clear hpk htn ht2 hm HT
            go_wp2_with fail
            refine (fbr_take w b (ln + n) 2 40 1 1 k F _ W wc HR.out).mono ?_
            rintro ev w5 ⟨rfl, hr5⟩
            rw [HTN.out, show ln + n + 0 - 1 = ln - 1 + n by omega] at hr5
            rw [HPK.out]
            have HR5 := Lib.hid hr5
            clear hr5 HR
            obtain ⟨m1, m2, m3, m4, m5, m6, m7, m8, m9, m10, m11, m12, m13⟩ := m
            simp only [MsgV.v]
            go_upto_region 20 with fail
            obtain ⟨h13, hh⟩ : ∃ h, h = w5.heap.size := ⟨_, rfl⟩
            have hb : Below w5.heap.size w5 (w5.alloc (.cells #[.int .i64 m1, .int .i64 m2, .int .i64 m3, .int .i64 m4, .int .i64 m5, .int .i64 m6, .int .i64 m7, .int .u32 m8, .int .u32 m9, .int .u32 m10, .int .u32 m11, .int .u32 m12, .bool m13] 32)) := (Below.refl _ _).alloc (Nat.le_refl _) _
            have HX := Lib.hid (show (w5.alloc (.cells #[.int .i64 m1, .int .i64 m2, .int .i64 m3, .int .i64 m4, .int .i64 m5, .int .i64 m6, .int .i64 m7, .int .u32 m8, .int .u32 m9, .int .u32 m10, .int .u32 m11, .int .u32 m12, .bool m13] 32)).heap[h13]? = some (.cells #[.int .i64 m1, .int .i64 m2, .int .i64 m3, .int .i64 m4, .int .i64 m5, .int .i64 m6, .int .i64 m7, .int .u32 m8, .int .u32 m9, .int .u32 m10, .int .u32 m11, .int .u32 m12, .bool m13] 32 (0, 0)) from by rw [hh]; exact heap_alloc_new _ _)
            have HR6 := Lib.hid (HR5.out.bel hb)
            rw [← hh]
            clear hb hh HR5
            generalize w5.alloc (.cells #[.int .i64 m1, .int .i64 m2, .int .i64 m3, .int .i64 m4, .int .i64 m5, .int .i64 m6, .int .i64 m7, .int .u32 m8, .int .u32 m9, .int .u32 m10, .int .u32 m11, .int .u32 m12, .bool m13] 32) = w6 at *
            obtain ⟨g', off', cp', hvf, _, _, hg, hc⟩ := HR6.out.row.form (by rw [← HLN.out]; exact hl)
            simp only [Value.slice.injEq, Option.some.injEq, Addr.mk.injEq] at hvf
            obtain ⟨⟨rfl, rfl, -⟩, -, rfl⟩ := hvf
            have HG6 := Lib.hid hg
            have HC6 := Lib.hid hc
            clear hg hc HG HC
            have k7 : decide (k < ln) = true := by simpa using hkl
            have k8 : decide ((k : Int) < (ln : Int)) = true := by simp; omega
            have heq := fun w => run_eqMs m1 m2 m3 m4 m5 m6 m7 m8 m9 m10 m11 m12 m1 m2 m3 m4 m5 m6 m7 m8 m9 m10 m11 m12 m13 m13 w
            rw [eqM_self'] at heq
            have hxq := HX.out
            have q0 := cell_of hxq 0
            have q1 := cell_of hxq 1
            have q2 := cell_of hxq 2
            have q3 := cell_of hxq 3
            have q4 := cell_of hxq 4
            have q5 := cell_of hxq 5
            have q6 := cell_of hxq 6
            have q7 := cell_of hxq 7
            have q8 := cell_of hxq 8
            have q9 := cell_of hxq 9
            have q10 := cell_of hxq 10
            have q11 := cell_of hxq 11
            have q12 := cell_of hxq 12
            simp only [List.getElem?_toArray, List.getElem?_cons_zero, List.getElem?_cons_succ] at q0 q1 q2 q3 q4 q5 q6 q7 q8 q9 q10 q11 q12
            have hlq := (Array.getElem?_eq_some_iff.1 hxq).1
            have a0 := HC6.out _ _ (flatM_at HM.out (c := 0) rfl)
            have a1 := HC6.out _ _ (flatM_at HM.out (c := 1) rfl)
            have a2 := HC6.out _ _ (flatM_at HM.out (c := 2) rfl)
            have a3 := HC6.out _ _ (flatM_at HM.out (c := 3) rfl)
            have a4 := HC6.out _ _ (flatM_at HM.out (c := 4) rfl)
            have a5 := HC6.out _ _ (flatM_at HM.out (c := 5) rfl)
            have a6 := HC6.out _ _ (flatM_at HM.out (c := 6) rfl)
            have a7 := HC6.out _ _ (flatM_at HM.out (c := 7) rfl)
            have a8 := HC6.out _ _ (flatM_at HM.out (c := 8) rfl)
            have a9 := HC6.out _ _ (flatM_at HM.out (c := 9) rfl)
            have a10 := HC6.out _ _ (flatM_at HM.out (c := 10) rfl)
            have a11 := HC6.out _ _ (flatM_at HM.out (c := 11) rfl)
            have a12 := HC6.out _ _ (flatM_at HM.out (c := 12) rfl)
            simp only [Nat.add_zero, ← Nat.add_assoc] at a0 a1 a2 a3 a4 a5 a6 a7 a8 a9 a10 a11 a12
            have hlw := HG6.out
            refine wp_region_lexA ⟨[], []⟩ (fun x => Below w6.heap.size w6 x) (by kernel_rfl) (by kernel_rfl) (Below.refl _ _).drew ?_
            intro S hto hof hne
            have yq0 : ∀ z : Wd S, z.w.cell? ⟨h13, 0, none⟩ = some (.int .i64 m1) := fun z => ((hto z).cell (p := ⟨h13, 0, none⟩) hlq).trans q0
            have yq1 : ∀ z : Wd S, z.w.cell? ⟨h13, 1, none⟩ = some (.int .i64 m2) := fun z => ((hto z).cell (p := ⟨h13, 1, none⟩) hlq).trans q1
            have yq2 : ∀ z : Wd S, z.w.cell? ⟨h13, 2, none⟩ = some (.int .i64 m3) := fun z => ((hto z).cell (p := ⟨h13, 2, none⟩) hlq).trans q2
            have yq3 : ∀ z : Wd S, z.w.cell? ⟨h13, 3, none⟩ = some (.int .i64 m4) := fun z => ((hto z).cell (p := ⟨h13, 3, none⟩) hlq).trans q3
            have yq4 : ∀ z : Wd S, z.w.cell? ⟨h13, 4, none⟩ = some (.int .i64 m5) := fun z => ((hto z).cell (p := ⟨h13, 4, none⟩) hlq).trans q4
            have yq5 : ∀ z : Wd S, z.w.cell? ⟨h13, 5, none⟩ = some (.int .i64 m6) := fun z => ((hto z).cell (p := ⟨h13, 5, none⟩) hlq).trans q5
            have yq6 : ∀ z : Wd S, z.w.cell? ⟨h13, 6, none⟩ = some (.int .i64 m7) := fun z => ((hto z).cell (p := ⟨h13, 6, none⟩) hlq).trans q6
            have yq7 : ∀ z : Wd S, z.w.cell? ⟨h13, 7, none⟩ = some (.int .u32 m8) := fun z => ((hto z).cell (p := ⟨h13, 7, none⟩) hlq).trans q7
            have yq8 : ∀ z : Wd S, z.w.cell? ⟨h13, 8, none⟩ = some (.int .u32 m9) := fun z => ((hto z).cell (p := ⟨h13, 8, none⟩) hlq).trans q8
            have yq9 : ∀ z : Wd S, z.w.cell? ⟨h13, 9, none⟩ = some (.int .u32 m10) := fun z => ((hto z).cell (p := ⟨h13, 9, none⟩) hlq).trans q9
            have yq10 : ∀ z : Wd S, z.w.cell? ⟨h13, 10, none⟩ = some (.int .u32 m11) := fun z => ((hto z).cell (p := ⟨h13, 10, none⟩) hlq).trans q10
            have yq11 : ∀ z : Wd S, z.w.cell? ⟨h13, 11, none⟩ = some (.int .u32 m12) := fun z => ((hto z).cell (p := ⟨h13, 11, none⟩) hlq).trans q11
            have yq12 : ∀ z : Wd S, z.w.cell? ⟨h13, 12, none⟩ = some (.bool m13) := fun z => ((hto z).cell (p := ⟨h13, 12, none⟩) hlq).trans q12
            have yw0 : ∀ z : Wd S, z.w.cell? ⟨g, _, none⟩ = some (.int .i64 m1) := fun z => ((hto z).cell (p := ⟨g, _, none⟩) hlw).trans a0
            have yw1 : ∀ z : Wd S, z.w.cell? ⟨g, _, none⟩ = some (.int .i64 m2) := fun z => ((hto z).cell (p := ⟨g, _, none⟩) hlw).trans a1
            have yw2 : ∀ z : Wd S, z.w.cell? ⟨g, _, none⟩ = some (.int .i64 m3) := fun z => ((hto z).cell (p := ⟨g, _, none⟩) hlw).trans a2
            have yw3 : ∀ z : Wd S, z.w.cell? ⟨g, _, none⟩ = some (.int .i64 m4) := fun z => ((hto z).cell (p := ⟨g, _, none⟩) hlw).trans a3
            have yw4 : ∀ z : Wd S, z.w.cell? ⟨g, _, none⟩ = some (.int .i64 m5) := fun z => ((hto z).cell (p := ⟨g, _, none⟩) hlw).trans a4
            have yw5 : ∀ z : Wd S, z.w.cell? ⟨g, _, none⟩ = some (.int .i64 m6) := fun z => ((hto z).cell (p := ⟨g, _, none⟩) hlw).trans a5
            have yw6 : ∀ z : Wd S, z.w.cell? ⟨g, _, none⟩ = some (.int .i64 m7) := fun z => ((hto z).cell (p := ⟨g, _, none⟩) hlw).trans a6
            have yw7 : ∀ z : Wd S, z.w.cell? ⟨g, _, none⟩ = some (.int .u32 m8) := fun z => ((hto z).cell (p := ⟨g, _, none⟩) hlw).trans a7
            have yw8 : ∀ z : Wd S, z.w.cell? ⟨g, _, none⟩ = some (.int .u32 m9) := fun z => ((hto z).cell (p := ⟨g, _, none⟩) hlw).trans a8
            have yw9 : ∀ z : Wd S, z.w.cell? ⟨g, _, none⟩ = some (.int .u32 m10) := fun z => ((hto z).cell (p := ⟨g, _, none⟩) hlw).trans a9
            have yw10 : ∀ z : Wd S, z.w.cell? ⟨g, _, none⟩ = some (.int .u32 m11) := fun z => ((hto z).cell (p := ⟨g, _, none⟩) hlw).trans a10
            have yw11 : ∀ z : Wd S, z.w.cell? ⟨g, _, none⟩ = some (.int .u32 m12) := fun z => ((hto z).cell (p := ⟨g, _, none⟩) hlw).trans a11
            have yw12 : ∀ z : Wd S, z.w.cell? ⟨g, _, none⟩ = some (.bool m13) := fun z => ((hto z).cell (p := ⟨g, _, none⟩) hlw).trans a12
            clear hto hof hxq hlq q0 q1 q2 q3 q4 q5 q6 q7 q8 q9 q10 q11 q12 hlw a0 a1 a2 a3 a4 a5 a6 a7 a8 a9 a10 a11 a12
            refine lexW_light 10 (by kernel_rfl) ?_
            simp only [List.take_succ_cons, List.take_zero, List.drop_succ_cons, List.drop_zero]
            repeat (first | go_big_quiet_skip | (go_big_quiet_want; go_big_quiet_op; go_big_quiet_on))
            refine wpQuiet_nil ?_
            refine lexW_done ?_
            clear yq0 yq1 yq2 yq3 yq4 yq5 yq6 yq7 yq8 yq9 yq10 yq11 yq12 yw0 yw1 yw2 yw3 yw4 yw5 yw6 yw7 yw8 yw9 yw10 yw11 yw12 heq hne
            go_upto_region 22 with fail
            have HR7 := Lib.hid (HR6.out.bel (Below.refl _ _).drew)
            clear HX HC6 HG6 HR6 HM
            generalize w6.drew = w7 at *
            have hsl := HR7.out.row.slc
            rw [← HLN.out] at hsl
            have HSL1 := Lib.hid (slc_takeM (k := k) hsl HLN.out (by omega))
            obtain ⟨ad2, hif, hsl2⟩ := slc_dropM (k := k + 1) hsl HLN.out (by omega) hcap
            have HSL2 := Lib.hid hsl2
            clear hsl hsl2
            refine wp_region_lexA ⟨[], []⟩ (fun x => Below w7.heap.size w7 x) (by kernel_rfl) (by kernel_rfl) (Below.refl _ _).drew ?_
            intro S hto hof hne
            have Hof := Lib.hid hof
            clear hto hof
            refine lexW_heavy (by kernel_rfl) ?_
            go_wp2_with fail
            have hb8 : Below w7.heap.size w7 (w7.alloc (.cells #[] 32)).drew := ((Below.refl _ _).alloc (Nat.le_refl _) _).drew
            have hA1 : winRow (w7.alloc (.cells #[] 32)).drew w7.heap.size 32 13 (.slice (some ⟨w7.heap.size, 0, none⟩) 0 0) 0 [] := winRow_fresh w7 _ _
            have HA := Lib.hid hA1
            have HB8 := Lib.hid hb8
            refine lexQ_more (Hof.out _ hb8) ?_
            obtain ⟨hA, hhA⟩ : ∃ h, h = w7.heap.size := ⟨_, rfl⟩
            rw [← hhA] at HA HB8 ⊢
            have HHA := Lib.hid hhA
            clear hb8 hA1 hhA
            generalize (w7.alloc (.cells #[] 32)).drew = w8 at *
            have HS8 := Lib.hid (show hA ≤ w8.heap.size by rw [HHA.out]; exact HB8.out.size)
            refine lexW_light 3 (by kernel_rfl) ?_
            simp only [List.take_succ_cons, List.take_zero, List.drop_succ_cons, List.drop_zero]
            repeat (first | go_big_quiet_skip | (go_big_quiet_want; go_big_quiet_op; go_big_quiet_on))
            refine wpQuiet_nil ?_
            refine lexW_heavy (by kernel_rfl) ?_
            go_wp2_with (at_builtin; refine wpList_append_slc _ rfl _ _ 44 rfl hA 32 i0 _ 13 80 Tryd.underlying44 HI.out HZ0.out HZ1.out HZ2.out rfl (by decide) _ 0 [] rfl HA.out _ k (flatM (W.take k)) rfl (HSL1.out.below (by have h := HB8.out; rw [HHA.out] at h; exact h)) (flatM_one _) (by unfold maxLen; omega) (by omega) HS8.out ?_; intro p9 w9 hown hgr hat; refine halt ?_)
            have HP9 := Lib.hid (show winRow w9 hA 32 13 p9 k (flatM (W.take k)) by simpa using hown)
            have HB9 := Lib.hid (HB8.out.grown hgr HS8.out fun q hq => (HA.out.lt q hq).1)
            have HS9 := Lib.hid (show hA ≤ w9.heap.size by rw [HHA.out]; exact HB9.out.size)
            clear hown hgr hat HA
            unfold Halt
            refine lexQ_more (Hof.out _ (by have h := HB9.out; rw [HHA.out] at h; exact h)) ?_
            refine lexW_light 4 (by kernel_rfl) ?_
            simp only [List.take_succ_cons, List.take_zero, List.drop_succ_cons, List.drop_zero]
            repeat (first | go_big_quiet_skip | (go_big_quiet_want; go_big_quiet_op; go_big_quiet_on))
            refine wpQuiet_nil ?_
            refine lexW_heavy (by kernel_rfl) ?_
            go_wp2_with (at_builtin; refine wpList_append_slc _ rfl _ _ 44 rfl hA 32 i0 _ 13 80 Tryd.underlying44 HI.out HZ0.out HZ1.out HZ2.out rfl (by decide) _ k (flatM (W.take k)) rfl HP9.out _ (ln - (k + 1)) (flatM (W.drop (k + 1))) rfl (HSL2.out.below (by have h := HB9.out; rw [HHA.out] at h; exact h)) (flatM_one _) (by unfold maxLen; omega) (by omega) HS9.out ?_; intro p10 w10 hown hgr hat; refine halt ?_)
            have HB10 := Lib.hid (HB9.out.grown hgr HS9.out fun q hq => (HP9.out.lt q hq).1)
            obtain ⟨l2, hl2⟩ : ∃ l2, l2 = ln - 1 := ⟨_, rfl⟩
            have HL2 := Lib.hid (show l2 + 1 = ln by omega)
            have HLE := Lib.hid (show l2 = (W.eraseIdx k).length by rw [List.length_eraseIdx_of_lt (by rw [← HLN.out]; exact hkl), ← HLN.out]; exact hl2)
            rw [show k + (ln - (k + 1)) = l2 by omega, ← flatM_append, ← List.eraseIdx_eq_take_drop_succ] at hown
            have HP10 := Lib.hid hown
            rw [← hl2] at HR7
            obtain ⟨W', hW'⟩ : ∃ W', W' = W.eraseIdx k := ⟨_, rfl⟩
            obtain ⟨F', hF'⟩ : ∃ F', F' = takeF 2 F 1 1 k := ⟨_, rfl⟩
            rw [← hW'] at HP10 HLE HT2
            rw [← hF'] at HT2 HR7
            have HR10 := Lib.hid (show FbR w b 2 40 F' (l2 + n) p10 W' w10 from HR7.out.fresh (by have h := HB10.out; rw [HHA.out] at h; exact h) (by have h := HP10.out; rw [HHA.out, HLE.out] at h; exact h))
            obtain ⟨ad3, cp3, hp3⟩ := HP10.out.len
            rw [hp3] at HR10 ⊢
            clear hown hgr hat HP9 HP10 hl2 hW' hF' hif hp3
            unfold Halt
            refine lexQ_more (Hof.out _ (by have h := HB10.out; rw [HHA.out] at h; exact h)) ?_
            refine lexW_light 1 (by kernel_rfl) ?_
            simp only [List.take_succ_cons, List.take_zero, List.drop_succ_cons, List.drop_zero]
            repeat (first | go_big_quiet_skip | (go_big_quiet_want; go_big_quiet_op; go_big_quiet_on))
            refine wpQuiet_nil ?_
            refine lexW_done ?_
            clear Hof hne HR7 HSL1 HSL2 HB8 HB9 HB10 HHA
            have hl31 : l2 ≤ 30 := by have := HL2.out; omega
            go_wp2_with fail
            go_loopw [15] (fun s15 wr => ∃ j : Nat, j ≤ l2 ∧ s15 = .int .i64 j ∧ FbR w b 2 40 F' (l2 + n) (.slice ad3 l2 cp3) W' wr) (fun s15 _ => l2 - (intOf s15).toNat)
            case atStart => exact ⟨0, by omega, rfl, HR10.out⟩
            case round =>
              clear HR10
              obtain ⟨j, hj, rfl, hr⟩ := hrel
              have HR := Lib.hid hr
              clear hr
              by_cases hjl : j < l2
              · have j1 : decide (j < l2) = true := by simpa using hjl
                have j2 : decide ((j : Int) < (l2 : Int)) = true := by simp; omega
                obtain ⟨m, hm⟩ : ∃ m, W'[j]? = some m := ⟨_, List.getElem?_eq_getElem (by rw [← HLE.out]; exact hjl)⟩
                have HM := Lib.hid hm
                clear hm
                go_wp2_with fail
                refine (fbs_peek w b (l2 + n) 2 40 1 1 j F' _ wr HR.out.fab).mono ?_
                rintro ev w5 ⟨rfl, hb5⟩
                rw [HT2.out.peek HM.out]
                have HR5 := Lib.hid (HR.out.bel hb5)
                clear hb5 HR
                obtain ⟨m1, m2, m3, m4, m5, m6, m7, m8, m9, m10, m11, m12, m13⟩ := m
                simp only [MsgV.v]
                go_upto_region 27 with fail
                obtain ⟨h13, hh⟩ : ∃ h, h = w5.heap.size := ⟨_, rfl⟩
                have hb : Below w5.heap.size w5 (w5.alloc (.cells #[.int .i64 m1, .int .i64 m2, .int .i64 m3, .int .i64 m4, .int .i64 m5, .int .i64 m6, .int .i64 m7, .int .u32 m8, .int .u32 m9, .int .u32 m10, .int .u32 m11, .int .u32 m12, .bool m13] 32)) := (Below.refl _ _).alloc (Nat.le_refl _) _
                have HX := Lib.hid (show (w5.alloc (.cells #[.int .i64 m1, .int .i64 m2, .int .i64 m3, .int .i64 m4, .int .i64 m5, .int .i64 m6, .int .i64 m7, .int .u32 m8, .int .u32 m9, .int .u32 m10, .int .u32 m11, .int .u32 m12, .bool m13] 32)).heap[h13]? = some (.cells #[.int .i64 m1, .int .i64 m2, .int .i64 m3, .int .i64 m4, .int .i64 m5, .int .i64 m6, .int .i64 m7, .int .u32 m8, .int .u32 m9, .int .u32 m10, .int .u32 m11, .int .u32 m12, .bool m13] 32 (0, 0)) from by rw [hh]; exact heap_alloc_new _ _)
                have HR6 := Lib.hid (HR5.out.bel hb)
                rw [← hh]
                clear hb hh HR5
                generalize w5.alloc (.cells #[.int .i64 m1, .int .i64 m2, .int .i64 m3, .int .i64 m4, .int .i64 m5, .int .i64 m6, .int .i64 m7, .int .u32 m8, .int .u32 m9, .int .u32 m10, .int .u32 m11, .int .u32 m12, .bool m13] 32) = w6 at *
                obtain ⟨g, off, cp', hvf, hcap, _, hg, hc⟩ := HR6.out.row.form (by rw [← HLE.out]; omega)
                simp only [Value.slice.injEq] at hvf
                obtain ⟨rfl, -, rfl⟩ := hvf
                have HC6 := Lib.hid hc
                have hlw := hg
                clear hg hc hcap
                have heq := fun w => run_eqMs m1 m2 m3 m4 m5 m6 m7 m8 m9 m10 m11 m12 m1 m2 m3 m4 m5 m6 m7 m8 m9 m10 m11 m12 m13 m13 w
                rw [eqM_self'] at heq
                have hxq := HX.out
                have q0 := cell_of hxq 0
                have q1 := cell_of hxq 1
                have q2 := cell_of hxq 2
                have q3 := cell_of hxq 3
                have q4 := cell_of hxq 4
                have q5 := cell_of hxq 5
                have q6 := cell_of hxq 6
                have q7 := cell_of hxq 7
                have q8 := cell_of hxq 8
                have q9 := cell_of hxq 9
                have q10 := cell_of hxq 10
                have q11 := cell_of hxq 11
                have q12 := cell_of hxq 12
                simp only [List.getElem?_toArray, List.getElem?_cons_zero, List.getElem?_cons_succ] at q0 q1 q2 q3 q4 q5 q6 q7 q8 q9 q10 q11 q12
                have hlq := (Array.getElem?_eq_some_iff.1 hxq).1
                have a0 := HC6.out _ _ (flatM_at HM.out (c := 0) rfl)
                have a1 := HC6.out _ _ (flatM_at HM.out (c := 1) rfl)
                have a2 := HC6.out _ _ (flatM_at HM.out (c := 2) rfl)
                have a3 := HC6.out _ _ (flatM_at HM.out (c := 3) rfl)
                have a4 := HC6.out _ _ (flatM_at HM.out (c := 4) rfl)
                have a5 := HC6.out _ _ (flatM_at HM.out (c := 5) rfl)
                have a6 := HC6.out _ _ (flatM_at HM.out (c := 6) rfl)
                have a7 := HC6.out _ _ (flatM_at HM.out (c := 7) rfl)
                have a8 := HC6.out _ _ (flatM_at HM.out (c := 8) rfl)
                have a9 := HC6.out _ _ (flatM_at HM.out (c := 9) rfl)
                have a10 := HC6.out _ _ (flatM_at HM.out (c := 10) rfl)
                have a11 := HC6.out _ _ (flatM_at HM.out (c := 11) rfl)
                have a12 := HC6.out _ _ (flatM_at HM.out (c := 12) rfl)
                simp only [Nat.add_zero, ← Nat.add_assoc] at a0 a1 a2 a3 a4 a5 a6 a7 a8 a9 a10 a11 a12
                refine wp_region_lexA ⟨[], []⟩ (fun x => Below w6.heap.size w6 x) (by kernel_rfl) (by kernel_rfl) (Below.refl _ _).drew ?_
                intro S hto hof hne
                have yq0 : ∀ z : Wd S, z.w.cell? ⟨h13, 0, none⟩ = some (.int .i64 m1) := fun z => ((hto z).cell (p := ⟨h13, 0, none⟩) hlq).trans q0
                have yq1 : ∀ z : Wd S, z.w.cell? ⟨h13, 1, none⟩ = some (.int .i64 m2) := fun z => ((hto z).cell (p := ⟨h13, 1, none⟩) hlq).trans q1
                have yq2 : ∀ z : Wd S, z.w.cell? ⟨h13, 2, none⟩ = some (.int .i64 m3) := fun z => ((hto z).cell (p := ⟨h13, 2, none⟩) hlq).trans q2
                have yq3 : ∀ z : Wd S, z.w.cell? ⟨h13, 3, none⟩ = some (.int .i64 m4) := fun z => ((hto z).cell (p := ⟨h13, 3, none⟩) hlq).trans q3
                have yq4 : ∀ z : Wd S, z.w.cell? ⟨h13, 4, none⟩ = some (.int .i64 m5) := fun z => ((hto z).cell (p := ⟨h13, 4, none⟩) hlq).trans q4
                have yq5 : ∀ z : Wd S, z.w.cell? ⟨h13, 5, none⟩ = some (.int .i64 m6) := fun z => ((hto z).cell (p := ⟨h13, 5, none⟩) hlq).trans q5
                have yq6 : ∀ z : Wd S, z.w.cell? ⟨h13, 6, none⟩ = some (.int .i64 m7) := fun z => ((hto z).cell (p := ⟨h13, 6, none⟩) hlq).trans q6
                have yq7 : ∀ z : Wd S, z.w.cell? ⟨h13, 7, none⟩ = some (.int .u32 m8) := fun z => ((hto z).cell (p := ⟨h13, 7, none⟩) hlq).trans q7
                have yq8 : ∀ z : Wd S, z.w.cell? ⟨h13, 8, none⟩ = some (.int .u32 m9) := fun z => ((hto z).cell (p := ⟨h13, 8, none⟩) hlq).trans q8
                have yq9 : ∀ z : Wd S, z.w.cell? ⟨h13, 9, none⟩ = some (.int .u32 m10) := fun z => ((hto z).cell (p := ⟨h13, 9, none⟩) hlq).trans q9
                have yq10 : ∀ z : Wd S, z.w.cell? ⟨h13, 10, none⟩ = some (.int .u32 m11) := fun z => ((hto z).cell (p := ⟨h13, 10, none⟩) hlq).trans q10
                have yq11 : ∀ z : Wd S, z.w.cell? ⟨h13, 11, none⟩ = some (.int .u32 m12) := fun z => ((hto z).cell (p := ⟨h13, 11, none⟩) hlq).trans q11
                have yq12 : ∀ z : Wd S, z.w.cell? ⟨h13, 12, none⟩ = some (.bool m13) := fun z => ((hto z).cell (p := ⟨h13, 12, none⟩) hlq).trans q12
                have yw0 : ∀ z : Wd S, z.w.cell? ⟨g, _, none⟩ = some (.int .i64 m1) := fun z => ((hto z).cell (p := ⟨g, _, none⟩) hlw).trans a0
                have yw1 : ∀ z : Wd S, z.w.cell? ⟨g, _, none⟩ = some (.int .i64 m2) := fun z => ((hto z).cell (p := ⟨g, _, none⟩) hlw).trans a1
                have yw2 : ∀ z : Wd S, z.w.cell? ⟨g, _, none⟩ = some (.int .i64 m3) := fun z => ((hto z).cell (p := ⟨g, _, none⟩) hlw).trans a2
                have yw3 : ∀ z : Wd S, z.w.cell? ⟨g, _, none⟩ = some (.int .i64 m4) := fun z => ((hto z).cell (p := ⟨g, _, none⟩) hlw).trans a3
                have yw4 : ∀ z : Wd S, z.w.cell? ⟨g, _, none⟩ = some (.int .i64 m5) := fun z => ((hto z).cell (p := ⟨g, _, none⟩) hlw).trans a4
                have yw5 : ∀ z : Wd S, z.w.cell? ⟨g, _, none⟩ = some (.int .i64 m6) := fun z => ((hto z).cell (p := ⟨g, _, none⟩) hlw).trans a5
                have yw6 : ∀ z : Wd S, z.w.cell? ⟨g, _, none⟩ = some (.int .i64 m7) := fun z => ((hto z).cell (p := ⟨g, _, none⟩) hlw).trans a6
                have yw7 : ∀ z : Wd S, z.w.cell? ⟨g, _, none⟩ = some (.int .u32 m8) := fun z => ((hto z).cell (p := ⟨g, _, none⟩) hlw).trans a7
                have yw8 : ∀ z : Wd S, z.w.cell? ⟨g, _, none⟩ = some (.int .u32 m9) := fun z => ((hto z).cell (p := ⟨g, _, none⟩) hlw).trans a8
                have yw9 : ∀ z : Wd S, z.w.cell? ⟨g, _, none⟩ = some (.int .u32 m10) := fun z => ((hto z).cell (p := ⟨g, _, none⟩) hlw).trans a9
                have yw10 : ∀ z : Wd S, z.w.cell? ⟨g, _, none⟩ = some (.int .u32 m11) := fun z => ((hto z).cell (p := ⟨g, _, none⟩) hlw).trans a10
                have yw11 : ∀ z : Wd S, z.w.cell? ⟨g, _, none⟩ = some (.int .u32 m12) := fun z => ((hto z).cell (p := ⟨g, _, none⟩) hlw).trans a11
                have yw12 : ∀ z : Wd S, z.w.cell? ⟨g, _, none⟩ = some (.bool m13) := fun z => ((hto z).cell (p := ⟨g, _, none⟩) hlw).trans a12
                clear hto hof hxq hlq q0 q1 q2 q3 q4 q5 q6 q7 q8 q9 q10 q11 q12 hlw a0 a1 a2 a3 a4 a5 a6 a7 a8 a9 a10 a11 a12
                refine lexW_light 10 (by kernel_rfl) ?_
                simp only [List.take_succ_cons, List.take_zero, List.drop_succ_cons, List.drop_zero]
                repeat (first | go_big_quiet_skip | (go_big_quiet_want; go_big_quiet_op; go_big_quiet_on))
                refine wpQuiet_nil ?_
                refine lexW_done ?_
                clear yq0 yq1 yq2 yq3 yq4 yq5 yq6 yq7 yq8 yq9 yq10 yq11 yq12 yw0 yw1 yw2 yw3 yw4 yw5 yw6 yw7 yw8 yw9 yw10 yw11 yw12 heq hne
                go_wp2_with fail
                go_roundw
                case rel => exact ⟨j + 1, by omega, by go_num, HR6.out.bel (Below.refl _ _).drew⟩
                case measure => simp [intOf] <;> omega
              · have j1 : decide (j < l2) = false := by simpa using hjl
                have j2 : decide ((j : Int) < (l2 : Int)) = false := by simp; omega
                go_wp2_with fail
                go_roundw
                case rel => exact ⟨i + 1, l2, cp3, ad3, W', F', by go_num, rfl, HLE.out, by have := HL2.out; have := HWI.out; omega, HT2.out, HR.out⟩
                case measure => have h := HWI.out; simp [intOf] <;> omega
        · have k3 : decide (0 < ln) = false := by simpa using hl
          have hl0 : ln = 0 := by omega
          have HW0 := Lib.hid (show W = [] from List.eq_nil_of_length_eq_zero (by rw [← HLN.out]; exact hl0))
          obtain ⟨hpk, htk, htn⟩ := peek_off (cores := 2) (F := F) (p := 1) (c := 1) (k := 0) (by rw [show placeP 1 1 = (1, 1) from rfl, HT.out.p11, HW0.out]; simp)
          have HPK := Lib.hid (show peekP 2 F 1 1 0 = (zeroM, false) from hpk)
          have HTK := Lib.hid (show takeF 2 F 1 1 0 = F from htk)
          have HTN := Lib.hid (show tookN 2 F 1 1 0 = 0 from htn)
          have HR0 := Lib.hid (show FbR w b 2 40 F n (.slice ad 0 cp) W wr from by have h := HR.out; rw [hl0, Nat.zero_add] at h; exact h)
          rw [hl0]
          clear hpk htk htn HR k3 hl hl0
          go_wp2_with fail
          refine (fbr_take w b n 2 40 1 1 0 F _ W wr HR0.out).mono ?_
          rintro ev w5 ⟨rfl, hr5⟩
          rw [HTN.out, HTK.out, Nat.add_zero, Nat.sub_zero] at hr5
          rw [HPK.out]
          simp only [zeroM, MsgV.v]
          have HR5 := Lib.hid hr5
          clear hr5
          go_upto_region 30 with fail
          have hb : Below w5.heap.size w5 (w5.alloc (.cells #[.int .i64 0, .int .i64 0, .int .i64 0, .int .i64 0, .int .i64 0, .int .i64 0, .int .i64 0, .int .u32 0, .int .u32 0, .int .u32 0, .int .u32 0, .int .u32 0, .bool false] 32)) := (Below.refl _ _).alloc (Nat.le_refl _) _
          have HR6 := Lib.hid (HR5.out.bel hb)
          obtain ⟨h18, hh⟩ : ∃ h, h = w5.heap.size := ⟨_, rfl⟩
          rw [← hh]
          clear hb hh
          generalize w5.alloc (.cells #[.int .i64 0, .int .i64 0, .int .i64 0, .int .i64 0, .int .i64 0, .int .i64 0, .int .i64 0, .int .u32 0, .int .u32 0, .int .u32 0, .int .u32 0, .int .u32 0, .bool false] 32) = w6 at *
          have hn30 : n ≤ 30 := HN2.out
          go_wp2_with fail
          refine (fbs_len w b n 2 40 0 1 F _ w6 HR6.out.fab).mono ?_
          rintro ev w7 ⟨rfl, hb⟩
          rw [show lenP 2 F 0 1 = (n : Int) from by rw [show lenP 2 F 0 1 = ((F (0, 0)).length : Int) from rfl, HT.out.p00]]
          have HR7 := Lib.hid (HR6.out.bel hb)
          clear hb
          go_wp2_with fail
          refine (fbs_len w b n 2 40 1 0 F _ w7 HR7.out.fab).mono ?_
          rintro ev w8 ⟨rfl, hb⟩
          rw [show lenP 2 F 1 0 = 0 from by rw [show lenP 2 F 1 0 = ((F (1, 0)).length : Int) from rfl, HT.out.p10]; rfl]
          have HR8 := Lib.hid (HR7.out.bel hb)
          clear hb
          go_wp2_with fail
          refine (fbs_all w b n 2 40 F _ w8 HR8.out.fab (by omega)).mono ?_
          rintro ev w9 ⟨rfl, hb⟩
          have HR9 := Lib.hid (HR8.out.bel hb)
          clear hb
          go_wp2_with fail
          refine (fabricRuns A w9 (HS.out.below HR9.out.below)).mono ?_
          rintro ev w10 ⟨rfl, hb⟩
          have HR10 := Lib.hid (HR9.out.bel hb)
          clear hb
          go_wp2_with fail
          go_ret
          exact ⟨rfl, HR10.out.below⟩

end Go.Proofs.YtbefkkefglkleaaDoor
