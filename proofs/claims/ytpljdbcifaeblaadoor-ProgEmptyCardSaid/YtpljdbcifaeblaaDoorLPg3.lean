/- ProgEmpty: true; no condition but what a start gives. -/
import Derived.Test.YtpljdbcifaeblaaDoorLPg1
import Derived.Test.YtpljdbcifaeblaaDoorPg6
import Derived.Test.YtpljdbcifaeblaaDoorOpArg
import Derived.Test.YtpljdbcifaeblaaDoorWin3
import Derived.Test.YtpljdbcifaeblaaDoorBk
namespace Go.Proofs.YtpljdbcifaeblaaDoor
open Go.RowKit Go.Extern.Stop Go.Stop Go.Extern

theorem enc_none : encP [] = [0] := by
  have h : ∀ u, u < 128 → enc u = [u] := fun u hu => enc_small hu
  simp [encP, encOps, zig, h]

set_option maxRecDepth 100000 in
set_option maxHeartbeats 16000000 in
theorem progEmpty (A : Nat → Addr) (o : OpV) (words : Int) (w : World) (hs : SentAt w A) (hof : o.fit) (hw : -9223372036854775808 ≤ words ∧ words ≤ 9223372036854775807) :
    Calls Tryd.prog 8 #[o.v, .int .i64 words] w (TruePost w) := by
  obtain ⟨i0, hi0, hi1⟩ := Option.map_eq_some_iff.1 nInfoP
  simp only [Prod.mk.injEq] at hi1
  obtain ⟨hz0, hz1, hz2⟩ := hi1
  have HI := Lib.hid hi0
  have HZ0 := Lib.hid hz0
  have HZ1 := Lib.hid hz1
  have HZ2 := Lib.hid hz2
  have HS := Lib.hid hs
  have hwk := wiF_b (n := words) (lo := 1) (hi := 128) (by omega)
  have HW0 := Lib.hid hw
  have HWB0 := Lib.hid hwk
  obtain ⟨W, hW⟩ : ∃ W, wiF words 1 128 = W := ⟨_, rfl⟩
  rw [hW] at HWB0
  have HWB := HWB0
  have HWW := Lib.hid hW
  obtain ⟨kd, ad, va, ol⟩ := o
  have HOF := Lib.hid hof
  simp only [OpV.v]
  have hX := heap_alloc_new w (.cells #[.int .i64 kd, .int .i64 ad, .int .u32 va, .int .u32 ol] 29)
  have hb0 : Below w.heap.size w (w.alloc (.cells #[.int .i64 kd, .int .i64 ad, .int .u32 va, .int .u32 ol] 29)) := (Below.refl _ _).alloc (Nat.le_refl _) _
  have HX0 := Lib.hid hX
  have HB0 := Lib.hid hb0
  clear hs hof hw hwk hi0 hz0 hz1 hz2 HWB0 hW hX hb0
  go_enter Tryd.func8, Tryd.ntmps8
  go_wp2_with fail
  obtain ⟨hO, hhO⟩ : ∃ hO, hO = w.heap.size := ⟨_, rfl⟩
  rw [← hhO] at HX0 ⊢
  generalize w.alloc (.cells #[.int .i64 kd, .int .i64 ad, .int .u32 va, .int .u32 ol] 29) = w0 at *
  clear hhO
  refine (Within_b words 1 128 w0 (by omega) (by omega) (by omega) HW0.out.1 HW0.out.2).mono ?_
  rintro ev w' ⟨rfl, hww⟩
  obtain rfl := hww
  rw [HWW.out]
  go_wp2_with fail
  refine (put_c A _ [] W w0 (HS.out.below HB0.out) ⟨rfl, none, 0, rfl, fun h => absurd h (by simp)⟩ (fun o ho => (by cases ho)) (by simp)).mono ?_
  rintro ev w1 ⟨u1, rfl, hu1, hb1⟩
  have hp0 : putE W [] = .nil := putE_all (fun o ho => (by cases ho)) (by simp)
  rw [hp0] at hu1 ⊢
  have hu1 : winRow w1 w0.heap.size 5 1 u1 (encP []).length (byteV (encP [])) := hu1
  rw [enc_none] at hu1
  obtain ⟨a1, c1, rfl⟩ := hu1.len
  have HU1 := Lib.hid hu1.slc
  have HB1 := Lib.hid (HB0.out.trans (hb1.mono HB0.out.size))
  have HX1 := Lib.hid ((hb1.block hO (Array.getElem?_eq_some_iff.1 HX0.out).1).trans HX0.out)
  rw [show ErrT.nil.val A = .nilIface from rfl]
  clear hu1 hb1 hp0 HX0 HB0
  go_wp2_with fail
  refine (parse_c A _ [0] W w1 (HS.out.below HB1.out) HU1.out (by decide) (by decide) HWB.out).mono ?_
  rintro ev w2 ⟨u2, rfl, hu2, hb2⟩
  have he0 : parE W [0] = .nil ∧ parL W [0] = [] := by
    have := par_enc (W := W) (l := []) (fun o ho => (by cases ho)) (by simp)
    rwa [enc_none] at this
  rw [he0.1] at hu2 ⊢
  have hu2 : winRow w2 w1.heap.size 29 4 u2 (parL W [0]).length (flatP (parL W [0])) := hu2
  rw [he0.2] at hu2
  obtain ⟨a2, c2, rfl⟩ := hu2.len
  have HB2 := Lib.hid (HB1.out.trans (hb2.mono HB1.out.size))
  have HX2 := Lib.hid ((hb2.block hO (Array.getElem?_eq_some_iff.1 HX1.out).1).trans HX1.out)
  rw [show ErrT.nil.val A = .nilIface from rfl]
  clear hu2 hb2 he0 HX1 HB1 HU1
  have q0 := cell_of HX2.out 0
  have q1 := cell_of HX2.out 1
  have q2 := cell_of HX2.out 2
  have q3 := cell_of HX2.out 3
  simp only [List.getElem?_toArray, List.getElem?_cons_zero, List.getElem?_cons_succ] at q0 q1 q2 q3
  have hl2 := (Array.getElem?_eq_some_iff.1 HX2.out).1
  go_wp2_with fail
  refine (right_c ⟨kd, ad, va, ol⟩ W w2).mono ?_
  rintro ev w3 ⟨rfl, hb3⟩
  have HB3 := Lib.hid (HB2.out.trans (hb3.mono HB2.out.size))
  have HX3 := Lib.hid ((hb3.block hO hl2).trans HX2.out)
  clear hb3 q0 q1 q2 q3 hl2 HX2 HB2
  cases hr : rightB ⟨kd, ad, va, ol⟩ W with
  | false =>
    clear hr
    go_wp2_with fail
    refine (progRuns A _ (HS.out.below HB3.out)).mono ?_
    rintro ev wz ⟨rfl, hbz⟩
    go_wp2_with fail
    go_ret
    exact ⟨rfl, HB3.out.trans (hbz.mono HB3.out.size)⟩
  | true =>
    have HR := Lib.hid hr
    clear hr
    go_wp2_with fail
    have HOW := Lib.hid (show hO < w3.heap.size from (Array.getElem?_eq_some_iff.1 HX3.out).1)
    go_loopw [10, 11] (fun s10 s11 wr => ∃ i : Nat, i ≤ 64 ∧ s11 = .int .i64 i ∧ winRow wr w3.heap.size 29 4 s10 i (flatP (List.replicate i ⟨kd, ad, va, ol⟩)) ∧ Below w3.heap.size w3 wr) (fun _ s11 _ => 64 - (intOf s11).toNat)
    case atStart => exact ⟨0, by omega, rfl, winRow_nil .., Below.refl _ _⟩
    case round =>
      obtain ⟨i, hi, rfl, hrow, hB⟩ := hrel
      have HROW := Lib.hid hrow
      have HX := Lib.hid ((hB.block hO (Array.getElem?_eq_some_iff.1 HX3.out).1).trans HX3.out)
      have HB := Lib.hid (HB3.out.trans (hB.mono HB3.out.size))
      have HBI := Lib.hid hB
      obtain ⟨ar, cr, rfl⟩ := hrow.len
      clear hrow hB
      have q0 := cell_of HX.out 0
      have q1 := cell_of HX.out 1
      have q2 := cell_of HX.out 2
      have q3 := cell_of HX.out 3
      simp only [List.getElem?_toArray, List.getElem?_cons_zero, List.getElem?_cons_succ] at q0 q1 q2 q3
      have hlx := (Array.getElem?_eq_some_iff.1 HX.out).1
      by_cases hi64 : i < 64
      · have g1 : decide ((i : Int) < 64) = true := by simp; omega
        go_wp2_with (at_builtin; refine wpList_append_win _ rfl _ _ 30 rfl w3.heap.size 29 i0 _ 4 24 Tryd.underlying30 HI.out HZ0.out HZ1.out HZ2.out rfl (by decide) _ _ _ rfl (HROW.out.below ((Below.refl _ _).alloc (Nat.le_refl _) _)) ⟨wr.heap.size, 0, none⟩ 1 1 (flatP [⟨kd, ad, va, ol⟩]) rfl rfl (by exact cells_new wr [_, _, _, _] _) (flatP_one _) (by omega) (by unfold maxLen; omega) (by omega) (by have := HBI.out.size; simp; omega) ?_; intro g8 off8 cap8 w8 hrow8 hgrow8 hat8 hlt8)
        have hb8 : Below w3.heap.size w3 w8 := (HBI.out.alloc HBI.out.size _).grown hgrow8 (by have := HBI.out.size; simp; omega) fun q hq => (HROW.out.lt q hq).1
        have HB8 := Lib.hid hb8
        have HROW8 := Lib.hid hrow8
        clear hb8 hrow8 hgrow8 hat8 hlt8 q0 q1 q2 q3 hlx
        go_roundw
        case rel =>
          refine ⟨i + 1, by omega, by go_num, ?_, HB8.out⟩
          rw [List.replicate_succ', flatP_append]
          exact HROW8.out
        case measure => simp [intOf] <;> omega
      · obtain rfl : i = 64 := by omega
        obtain ⟨R, hR⟩ : ∃ R, R = List.replicate 64 (⟨kd, ad, va, ol⟩ : OpV) := ⟨_, rfl⟩
        have HRL := Lib.hid (show R.length = 64 by rw [hR, List.length_replicate])
        have HRA := Lib.hid (show ∀ o ∈ R, rightB o W = true ∧ o.fit from fun o ho => by rw [hR] at ho; rw [List.eq_of_mem_replicate ho]; exact ⟨HR.out, HOF.out⟩)
        rw [← hR] at HROW
        have HROW0 := HROW
        have HEN := Lib.hid (par_enc HRA.out (by have := HRL.out; omega))
        have HPU := Lib.hid (putE_all (fun o ho => (HRA.out o ho).1) (by have := HRL.out; omega) : putE W R = .nil)
        have HEL := Lib.hid (encP_len (fun o ho => (HRA.out o ho).2) (by have := HRL.out; omega))
        clear hR hi hi64 q0 q1 q2 q3 hlx HROW
        go_wp2_with fail
        refine (put_c A _ R W wr (HS.out.below HB.out) (by rw [HRL.out]; exact HROW0.out.slc) (fun o ho => (HRA.out o ho).2) (by have := HRL.out; omega)).mono ?_
        rintro ev w4 ⟨u4, rfl, hu4, hb4⟩
        rw [HPU.out] at hu4 ⊢
        have hu4 : winRow w4 wr.heap.size 5 1 u4 (encP R).length (byteV (encP R)) := hu4
        obtain ⟨a4, c4, rfl⟩ := hu4.len
        have HU4 := Lib.hid hu4.slc
        have HB4 := Lib.hid (HB.out.trans (hb4.mono HB.out.size))
        have HBI4 := Lib.hid (HBI.out.trans (hb4.mono HBI.out.size))
        have HROW4 := Lib.hid (HROW0.out.below hb4)
        have HX4 := Lib.hid ((hb4.block hO (Array.getElem?_eq_some_iff.1 HX.out).1).trans HX.out)
        rw [show ErrT.nil.val A = .nilIface from rfl]
        clear hu4 hb4 HB HBI HROW0 HX
        go_wp2_with fail
        refine (parse_c A _ (encP R) W w4 (HS.out.below HB4.out) HU4.out (by have := HEL.out; omega) (encP_byt R) HWB.out).mono ?_
        rintro ev w5 ⟨u5, rfl, hu5, hb5⟩
        rw [HEN.out.1] at hu5 ⊢
        have hu5 : winRow w5 w4.heap.size 29 4 u5 (parL W (encP R)).length (flatP (parL W (encP R))) := hu5
        rw [HEN.out.2] at hu5
        obtain ⟨a5, c5, rfl⟩ := hu5.len
        have HU5 := Lib.hid hu5
        have HB5 := Lib.hid (HB4.out.trans (hb5.mono HB4.out.size))
        have HBI5 := Lib.hid (HBI4.out.trans (hb5.mono HBI4.out.size))
        have HROW5 := Lib.hid (HROW4.out.below hb5)
        have HRB := Lib.hid (show ∀ q, (Value.slice ar 64 cr).ownBlock = some q → q < w4.heap.size from fun q hq => (HROW4.out.lt q hq).2)
        have HX5 := Lib.hid ((hb5.block hO (Array.getElem?_eq_some_iff.1 HX4.out).1).trans HX4.out)
        rw [show ErrT.nil.val A = .nilIface from rfl]
        clear hu5 hb5 HB4 HBI4 HROW4 HX4 HU4
        have q0 := cell_of HX5.out 0
        have q1 := cell_of HX5.out 1
        have q2 := cell_of HX5.out 2
        have q3 := cell_of HX5.out 3
        simp only [List.getElem?_toArray, List.getElem?_cons_zero, List.getElem?_cons_succ] at q0 q1 q2 q3
        have hlx := (Array.getElem?_eq_some_iff.1 HX5.out).1
        go_wp2_with (at_builtin; refine wpList_append_win2 _ rfl _ _ 30 rfl w3.heap.size 29 i0 _ 4 24 Tryd.underlying30 HI.out HZ0.out HZ1.out HZ2.out rfl (by decide) _ _ _ rfl (HROW5.out.below ((Below.refl _ _).alloc (Nat.le_refl _) _)) ⟨w5.heap.size, 0, none⟩ 1 1 (flatP [⟨kd, ad, va, ol⟩]) rfl rfl (by exact cells_new w5 [_, _, _, _] _) (flatP_one _) (by omega) (by unfold maxLen; omega) (by omega) (by have := HBI5.out.size; simp; omega) ?_; intro g8 off8 cap8 w8 hrow8 hgrow8 hat8 hlt8 hold8)
        have HB8 := Lib.hid (HB3.out.trans (((HBI5.out.alloc HBI5.out.size _).grown hgrow8 (by have := HBI5.out.size; simp; omega) fun q hq => (HROW5.out.lt q hq).1).mono HB3.out.size))
        have hsl8 : slc w8 4 (.slice (some ⟨g8, off8, none⟩) 65 cap8) (R ++ [(⟨kd, ad, va, ol⟩ : OpV)]).length (flatP (R ++ [(⟨kd, ad, va, ol⟩ : OpV)])) := by
          rw [List.length_append, HRL.out, flatP_append]
          exact hrow8.slc
        have HSL8 := Lib.hid hsl8
        have HOLD8 := Lib.hid hold8
        have HM8 := Lib.hid (show winRow w8 w4.heap.size 29 4 (.slice a5 R.length c5) R.length (flatP R) from HU5.out.keep fun q hq => by
          have h1 := HU5.out.lt q hq
          rw [hgrow8.block q (by simp; omega) (fun e => by have := HRB.out q e.symm; omega)]
          exact ((Below.refl w5.heap.size w5).alloc (Nat.le_refl _) _).block q h1.2)
        have HLONG := Lib.hid (show putE W (R ++ [(⟨kd, ad, va, ol⟩ : OpV)]) = .wrap pgT 65 (.sent 1) by unfold putE; rw [if_pos (by rw [List.length_append, HRL.out]; simp), List.length_append, HRL.out]; rfl)
        clear hrow8 hgrow8 hat8 hlt8 hold8 hsl8 q0 q1 q2 q3 hlx HB5 HBI5 HROW5 HX5 HU5
        refine (put_c A _ (R ++ [(⟨kd, ad, va, ol⟩ : OpV)]) W w8 (HS.out.below HB8.out) HSL8.out (fun o ho => by
          rcases List.mem_append.1 ho with h | h
          · exact (HRA.out o h).2
          · simp only [List.mem_singleton] at h
            rw [h]
            exact HOF.out) (by rw [List.length_append, HRL.out]; simp)).mono ?_
        rintro ev w9 ⟨u9, rfl, hu9, hb9⟩
        rw [HLONG.out] at hu9 ⊢
        have hu9 : u9 = .slice none 0 0 := hu9
        subst hu9
        rw [show (ErrT.wrap pgT 65 (.sent 1)).val A = .iface 80 (.agg #[.string pgT, .int .i64 65, .iface 138 (.pointer (some (A 1)))]) from rfl]
        have HB9 := Lib.hid (HB8.out.trans (hb9.mono HB8.out.size))
        have HM9 := Lib.hid (HM8.out.below hb9)
        have HOLD9 := Lib.hid (HOLD8.out.below hb9)
        clear hb9 HB8 HM8 HOLD8
        go_wp2_with fail
        refine (sameO_c R _ _ w9 HM9.out.slc (by rw [HRL.out]; exact HOLD9.out.slc) (by have := HRL.out; omega)).mono ?_
        rintro ev w10 ⟨rfl, hb10⟩
        have HB10 := Lib.hid (HB9.out.trans (hb10.mono HB9.out.size))
        clear hb10 HB9 HM9 HOLD9
        go_wp2_with fail
        change Calls Tryd.prog _ #[(ErrT.wrap pgT 65 (.sent 1)).val A, .int .i64 (2 : Int), .string pgT, .int .i64 65] _ _
        refine (is_c A (.wrap pgT 65 (.sent 1)) 2 pgT 65 w10 (HS.out.below HB10.out) ⟨rfl, show (1 : Nat) < 10 by omega⟩ (by omega) (by omega)).mono ?_
        rintro ev w11 ⟨rfl, hb11⟩
        rw [show isK (.wrap pgT 65 (.sent 1)) 2 pgT 65 = true by simp [isK, ErrT.code]]
        have HB11 := Lib.hid (HB10.out.trans (hb11.mono HB10.out.size))
        clear hb11 HB10
        go_wp2_with fail
        refine (progRuns A _ (HS.out.below HB11.out)).mono ?_
        rintro ev wz ⟨rfl, hbz⟩
        go_wp2_with fail
        go_ret
        exact ⟨rfl, HB11.out.trans (hbz.mono HB11.out.size)⟩

end Go.Proofs.YtpljdbcifaeblaaDoor
