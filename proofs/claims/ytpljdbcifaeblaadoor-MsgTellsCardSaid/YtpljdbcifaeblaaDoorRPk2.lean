/- The document's own reader (assentref1): fail and Num. -/
import Derived.Test.YtpljdbcifaeblaaDoorRPk1
import Derived.Test.YtpljdbcifaeblaaDoorRd4
namespace Go.Proofs.YtpljdbcifaeblaaDoor
open Go.RowKit Go.Extern.Stop Go.Stop Go.Extern

theorem slc.keepP {S : Nat → Prop} {w w' : World} {size : Nat} {v : Value} {n : Nat} {xs : List Value} (h : slc w size v n xs) (hm : Mods S w w') (hs : 0 < n → ∀ g, v.ownBlock = some g → ¬ S g) : slc w' size v n xs := by
  obtain ⟨h1, a, cap, hv, h2⟩ := h
  refine ⟨h1, a, cap, hv, fun hn => ?_⟩
  obtain ⟨g, off, ha, hg, hc⟩ := h2 hn
  refine ⟨g, off, ha, Nat.lt_of_lt_of_le hg hm.size, fun j u hu => ?_⟩
  rw [hm.cell (p := ⟨g, off + j, none⟩) hg (hs hn g (by rw [hv, ha]; rfl))]
  exact hc j u hu

/-- The reference's reader at block b: its bytes, its place, the first error's code and place. -/
structure RRAt (w : World) (b : Nat) (v : Value) (L : List Nat) (at_ code place : Nat) : Prop where
  blk : w.heap[b]? = some (.cells #[v, .int .i64 at_, .int .i64 code, .int .i64 place] 93 (0, 0))
  row : slc w 1 v L.length (byteV L)
  own : 0 < L.length → ∀ g, v.ownBlock = some g → g ≠ b
  le : at_ ≤ L.length
  big : L.length ≤ 140737488355320
  byt : ∀ c ∈ L, c < 256
section
variable {w w' : World} {b : Nat} {v : Value} {L : List Nat} {at_ code place : Nat}
theorem RRAt.lt (h : RRAt w b v L at_ code place) : b < w.heap.size := (Array.getElem?_eq_some_iff.1 h.blk).1
theorem RRAt.keep {S : Nat → Prop} (h : RRAt w b v L at_ code place) (hm : Mods S w w') (hb : ¬ S b) (hv : 0 < L.length → ∀ g, v.ownBlock = some g → ¬ S g) : RRAt w' b v L at_ code place :=
  ⟨(hm.block b h.lt hb).trans h.blk, h.row.keepP hm hv, h.own, h.le, h.big, h.byt⟩
theorem RRAt.below (h : RRAt w b v L at_ code place) (hb : Below w.heap.size w w') : RRAt w' b v L at_ code place :=
  ⟨(hb.block b h.lt).trans h.blk, h.row.below hb, h.own, h.le, h.big, h.byt⟩
/-- Its cells turned. -/
theorem RRAt.turn (h : RRAt w b v L at_ code place) {at2 code2 place2 : Nat} (hm : Mods (onlyS b) w w') (hblk : w'.heap[b]? = some (.cells #[v, .int .i64 at2, .int .i64 code2, .int .i64 place2] 93 (0, 0))) (hle : at2 ≤ L.length) : RRAt w' b v L at2 code2 place2 :=
  ⟨hblk, h.row.keepP hm (fun hp g hg hs => h.own hp g hg hs), h.own, hle, h.big, h.byt⟩
end

set_option maxHeartbeats 1000000 in
theorem rfail_c (b : Nat) (v : Value) (L : List Nat) (at_ place c : Nat) (w : World) (h : RRAt w b v L at_ 0 place) :
    Calls Tryd.prog 69 #[.pointer (some ⟨b, 0, none⟩), .int .i64 c] w fun ev w' => ev = .returned (.tuple #[]) ∧ RRAt w' b v L at_ c at_ ∧ Mods (onlyS b) w w' := by
  have c1 := cell_of h.blk 1
  have c2 := cell_of h.blk 2
  have c3 := cell_of h.blk 3
  have z2 := frozen_of h.blk 2
  have z3 := frozen_of h.blk 3
  simp only [List.getElem?_toArray, List.getElem?_cons_zero, List.getElem?_cons_succ] at c1 c2 c3
  have HH := Lib.hid h
  clear h
  go_enter Tryd.func69, Tryd.ntmps69
  go_wp2_with fail
  go_end0
  have hm : Mods (onlyS b) w ((w.setCell ⟨b, 2, none⟩ (.int .i64 c)).setCell ⟨b, 3, none⟩ (.int .i64 at_)) := ((Mods.refl (onlyS b) w).setCell (p := ⟨b, 2, none⟩) (show onlyS b b from rfl) _).setCell (p := ⟨b, 3, none⟩) (show onlyS b b from rfl) _
  exact ⟨rfl, HH.out.turn hm (heap_setCell_at (heap_setCell_at HH.out.blk _) _) HH.out.le, hm⟩

/-- What the reference's Num and In answer, where it is then, its error's code and place. -/
def stepQ (L : List Nat) (at_ code place : Nat) (ok : Int → Bool) : Int × Nat × Nat × Nat :=
  if code = 0 then match nxt L at_ with
    | (n, a, .nil) => if ok n then (n, a, 0, place) else (0, at_, 4, at_)
    | (_, _, .sent k) => (0, at_, k + 1, at_)
    | _ => (0, at_, code, place)
  else (0, at_, code, place)

theorem ret_i {a b : Int} (h : a = b) : Ending.returned (.int .i64 a) = .returned (.int .i64 b) := by rw [h]
theorem unzig_odd {u : Nat} (h : u < 18446744073709551616) (ho : u % 2 = 1) : bits BinOp.xor IntKind.i64 (-1) ((u : Int) / 2) = unzig u := by
  rw [notb (by omega)]
  unfold unzig
  rw [if_neg (by omega)]
  omega
theorem unzig_even {u : Nat} (ho : u % 2 = 0) : (u : Int) / 2 = unzig u := by
  unfold unzig
  rw [if_pos ho]
  omega
theorem and1_bits {u : Nat} (h : u < 18446744073709551616) : bits BinOp.and IntKind.u64 (u : Int) 1 = ((u % 2 : Nat) : Int) := by
  rw [show (1 : Int) = ((1 : Nat) : Int) from rfl, bits_and_u64 h (by omega), and1]

set_option maxRecDepth 100000 in
set_option maxHeartbeats 8000000 in
theorem rrnum_c (b : Nat) (v : Value) (L : List Nat) (at_ code place : Nat) (w : World) (h : RRAt w b v L at_ code place) :
    Calls Tryd.prog 68 #[.pointer (some ⟨b, 0, none⟩)] w fun ev w' => ev = .returned (.int .i64 (stepQ L at_ code place fun _ => true).1) ∧ RRAt w' b v L (stepQ L at_ code place fun _ => true).2.1 (stepQ L at_ code place fun _ => true).2.2.1 (stepQ L at_ code place fun _ => true).2.2.2 ∧ Mods (onlyS b) w w' := by
  have c0 := cell_of h.blk 0
  have c1 := cell_of h.blk 1
  have c2 := cell_of h.blk 2
  simp only [List.getElem?_toArray, List.getElem?_cons_zero, List.getElem?_cons_succ] at c0 c1 c2
  have HH := Lib.hid h
  have hlt := h.lt
  have hle := h.le
  have hbig := h.big
  have HBYT := Lib.hid h.byt
  obtain ⟨_, ad, cap, hvv, hc⟩ := h.row
  have HC := Lib.hid hc
  have HVV := Lib.hid hvv
  rw [hvv] at c0
  clear h hc hvv
  by_cases h0 : code = 0
  · subst h0
    have HQ := Lib.hid (show stepQ L at_ 0 place (fun _ => true) = match nxt L at_ with | (n, a, .nil) => (n, a, 0, place) | (_, _, .sent k) => (0, at_, k + 1, at_) | _ => (0, at_, 0, place) by simp [stepQ])
    go_enter Tryd.func68, Tryd.ntmps68
    go_wp2_with fail
    have HC0 := Lib.hid c0
    have HC1 := Lib.hid c1
    have HLT := Lib.hid hlt
    clear c0 c1 c2
    go_loopw [3, 4] (fun s3 s4 wr => ∃ (i u : Nat), s4 = .int .i64 i ∧ s3 = .int .u64 u ∧ i ≤ L.length - at_ ∧ i ≤ 9 ∧ u < 2 ^ (7 * i) ∧ dec i u ((L.drop at_).drop i) = dec 0 0 (L.drop at_) ∧ Below w.heap.size w wr) (fun _ s4 _ => L.length - at_ - (intOf s4).toNat)
    case atStart => exact ⟨0, 0, rfl, rfl, by omega, by omega, by simp, rfl, Below.refl _ _⟩
    case round =>
      obtain ⟨i, u, rfl, rfl, hil, hi9, hu, hdec, hB⟩ := hrel
      have HD := Lib.hid hdec
      have HU := Lib.hid hu
      have HB := Lib.hid hB
      have HHB := Lib.hid (HH.out.below hB)
      have d0 := (hB.cell (p := ⟨b, 0, none⟩) HLT.out).trans HC0.out
      have d1 := (hB.cell (p := ⟨b, 1, none⟩) HLT.out).trans HC1.out
      have hbr : b < wr.heap.size := Nat.lt_of_lt_of_le HLT.out hB.size
      clear hdec hu hB hlt
      by_cases hlt2 : i < L.length - at_
      · have g1 : decide ((at_ : Int) + i ≥ L.length) = false := by simp; omega
        have D0 := Lib.hid d0
        have D1 := Lib.hid d1
        obtain ⟨g, off, had, hg, hcc⟩ := HC.out (by omega)
        subst had
        have hk : (L.drop at_)[i]? = some (L[at_ + i]'(by omega)) := by rw [List.getElem?_drop]; exact List.getElem?_eq_getElem _
        have hce := (HB.out.cell (p := ⟨g, off + (at_ + i), none⟩) hg).trans (hcc (at_ + i) (.int .u8 (L[at_ + i]'(by omega) : Nat)) (by simp only [byteV, List.getElem?_map, List.getElem?_eq_getElem (show at_ + i < L.length by omega)]; rfl))
        have hc256 := HBYT.out _ (List.getElem_mem (show at_ + i < L.length by omega))
        have HK := Lib.hid hk
        have hgr : g < wr.heap.size := Nat.lt_of_lt_of_le hg HB.out.size
        clear hk hcc
        generalize (L[at_ + i]'(by omega)) = c at *
        have hdd : (L.drop at_).drop i = c :: (L.drop at_).drop (i + 1) := by
          have h1 := List.drop_eq_getElem_cons (l := L.drop at_) (i := i) (by rw [List.length_drop]; omega)
          have h2 := HK.out
          rw [List.getElem?_eq_getElem (by rw [List.length_drop]; omega)] at h2
          rw [h1, Option.some.inj h2]
        have HDD := Lib.hid hdd
        have gl : at_ + i < L.length := by omega
        have gl2 : decide ((at_ : Int) + i < L.length) = true := by simp; omega
        have gl3 : decide ((at_ : Int) + i ≥ 0) = true := by simp; omega
        clear hdd
        go_wp2_with fail
        refine wp_region_lexA ⟨[], []⟩ (fun x => Below wr.heap.size wr x) (by kernel_rfl) (by kernel_rfl) (Below.refl _ _).drew ?_
        intro S hto hof hne
        have y0 : ∀ z : Wd S, z.w.cell? ⟨b, 0, none⟩ = some (.slice (some ⟨g, off, none⟩) L.length cap) := fun z => ((hto z).cell (p := ⟨b, 0, none⟩) hbr).trans d0
        have y1 : ∀ z : Wd S, z.w.cell? ⟨b, 1, none⟩ = some (.int .i64 at_) := fun z => ((hto z).cell (p := ⟨b, 1, none⟩) hbr).trans d1
        have Hof := Lib.hid hof
        clear hto hof d0 d1
        refine lexW_light 12 (by kernel_rfl) ?_
        simp only [List.take_succ_cons, List.take_zero, List.drop_succ_cons, List.drop_zero]
        repeat (first | go_big_quiet_skip | (go_big_quiet_want; go_big_quiet_op; go_big_quiet_on))
        refine wpQuiet_nil ?_
        refine lexW_done ?_
        have hB2 : Below wr.heap.size wr wr.drew := (Below.refl _ _).drew
        have HB2 := Lib.hid (HB.out.trans (hB2.mono HB.out.size))
        have HHD := Lib.hid (HHB.out.below hB2)
        generalize wr.drew = wd at HB2 HHD hB2 ⊢
        have hgd : g < wd.heap.size := Nat.lt_of_lt_of_le hgr hB2.size
        clear y0 y1
        go_wp2_with fail
        refine wp_region_lexA ⟨[], []⟩ (fun x => Below wd.heap.size wd x) (by kernel_rfl) (by kernel_rfl) (Below.refl _ _).drew ?_
        intro S hto hof hne
        have y0 : ∀ z : Wd S, z.w.cell? ⟨b, 0, none⟩ = some (.slice (some ⟨g, off, none⟩) L.length cap) := fun z => ((hto z).cell (p := ⟨b, 0, none⟩) (Nat.lt_of_lt_of_le hbr hB2.size)).trans ((hB2.cell (p := ⟨b, 0, none⟩) hbr).trans (D0.out))
        have y1 : ∀ z : Wd S, z.w.cell? ⟨b, 1, none⟩ = some (.int .i64 at_) := fun z => ((hto z).cell (p := ⟨b, 1, none⟩) (Nat.lt_of_lt_of_le hbr hB2.size)).trans ((hB2.cell (p := ⟨b, 1, none⟩) hbr).trans (D1.out))
        have y2 : ∀ z : Wd S, z.w.cell? ⟨g, off + (at_ + i), none⟩ = some (.int .u8 c) := fun z => ((hto z).cell (p := ⟨g, off + (at_ + i), none⟩) hgd).trans ((hB2.cell (p := ⟨g, off + (at_ + i), none⟩) hgr).trans hce)
        have Hof := Lib.hid hof
        clear hto hof
        refine lexW_light 13 (by kernel_rfl) ?_
        simp only [List.take_succ_cons, List.take_zero, List.drop_succ_cons, List.drop_zero]
        repeat (first | go_big_quiet_skip | (go_big_quiet_want; go_big_quiet_op; go_big_quiet_on))
        refine wpQuiet_nil ?_
        refine lexW_done ?_
        have HB3 := Lib.hid (HB2.out.drew)
        have HHE := Lib.hid (HHD.out.below (Below.refl _ _).drew)
        generalize wd.drew = we at HB3 HHE ⊢
        clear y0 y1 y2 hce hB2 HB2 HHD hgd hgr HHB
        obtain ⟨U, hU⟩ : ∃ U : Nat, U = u + c % 128 * 2 ^ (7 * i) := ⟨_, rfl⟩
        have HUE := Lib.hid hU
        clear hU
        by_cases h9 : i = 9
        · by_cases hc1 : 1 < c
          · have gC : ((i : Int) == 9) = true := by simp; omega
            have gD : decide ((c : Int) > 1) = true := by simp; omega
            have hdn : dec i u (c :: (L.drop at_).drop (i + 1)) = (0, 0, some 3) := if_pos (by omega)
            have hx : nxt L at_ = (0, 0, .sent 3) := by
              have hd := HD.out
              rw [HDD.out, hdn] at hd
              simp only [nxt, ← hd]
            have HQ2 := Lib.hid (HQ.out.trans (by rw [hx] : _ = ((0 : Int), at_, 3 + 1, at_)))
            clear h9 hc1 hdn hx
            go_wp2_with fail
            refine (rfail_c b v L at_ place 4 _ HHE.out).mono ?_
            rintro ev w4 ⟨rfl, hR4, hM4⟩
            go_wp2_with fail
            go_ret
            rw [HQ2.out]
            exact ⟨rfl, hR4, (Mods.of_below (HB3.out)).trans hM4 fun _ _ h => h⟩
          · by_cases hc0 : c = 0
            · have gC : ((i : Int) == 9) = true := by simp; omega
              have gD : decide ((c : Int) > 1) = false := by simp; omega
              have gE : 0 < i := by omega
              have gF : ((c : Int) == 0) = true := by simp; omega
              have hdn : dec i u (c :: (L.drop at_).drop (i + 1)) = (0, 0, some 3) := if_pos (by omega)
              have hx : nxt L at_ = (0, 0, .sent 3) := by
                have hd := HD.out
                rw [HDD.out, hdn] at hd
                simp only [nxt, ← hd]
              have HQ2 := Lib.hid (HQ.out.trans (by rw [hx] : _ = ((0 : Int), at_, 3 + 1, at_)))
              clear h9 hc1 hc0 hdn hx
              go_wp2_with fail
              refine (rfail_c b v L at_ place 4 _ HHE.out).mono ?_
              rintro ev w4 ⟨rfl, hR4, hM4⟩
              go_wp2_with fail
              go_ret
              rw [HQ2.out]
              exact ⟨rfl, hR4, (Mods.of_below (HB3.out)).trans hM4 fun _ _ h => h⟩
            · have gC : ((i : Int) == 9) = true := by simp; omega
              have gD : decide ((c : Int) > 1) = false := by simp; omega
              have gE : 0 < i := by omega
              have gF : ((c : Int) == 0) = false := by simp; omega
              have HSTEP := Lib.hid ((or_step hc256 hi9 HU.out (by omega)).trans (by rw [← HUE.out] : ((u + c % 128 * 2 ^ (7 * i) : Nat) : Int) = (U : Int)))
              have HDN := Lib.hid (show dec i u (c :: (L.drop at_).drop (i + 1)) = if c < 128 then (U, i + 1, none) else dec (i + 1) U ((L.drop at_).drop (i + 1)) by rw [HUE.out]; exact if_neg (by omega))
              have hU64 : U < 18446744073709551616 := by rw [HUE.out]; exact step_lt64 hi9 HU.out (by omega)
              have hsh : i ≤ 9 := hi9

              have hx : nxt L at_ = (unzig U, at_ + (i + 1), .nil) := by
                have hd := HD.out
                rw [HDD.out, HDN.out, if_pos (by omega)] at hd
                simp only [nxt, ← hd]
              have HQ2 := Lib.hid (HQ.out.trans (by rw [hx] : _ = (unzig U, at_ + (i + 1), 0, place)))
              have h128 : decide ((c : Int) < 128) = true := by simp; omega
              have hstep := HSTEP.out
              have e1 := cell_of HHE.out.blk 1
              have z1 := frozen_of HHE.out.blk 1
              simp only [List.getElem?_toArray, List.getElem?_cons_zero, List.getElem?_cons_succ] at e1
              have hA1 := and1_bits hU64
              clear h9 hc1 hc0 hx
              have hM : Mods (onlyS b) we (we.setCell ⟨b, 1, none⟩ (.int .i64 ((at_ : Int) + i + 1))) := (Mods.refl (onlyS b) we).setCell (p := ⟨b, 1, none⟩) (show onlyS b b from rfl) _
              have hR := HHE.out.turn (at2 := at_ + (i + 1)) (code2 := 0) (place2 := place) hM (by
                rw [show ((at_ + (i + 1) : Nat) : Int) = (at_ : Int) + i + 1 by omega]
                exact heap_setCell_at HHE.out.blk _) (by omega)
              have HM := Lib.hid hM
              have HR := Lib.hid hR
              clear hM hR
              rcases Nat.mod_two_eq_zero_or_one U with hpar | hpar
              · have hzz := unzig_even hpar
                have HZZ := Lib.hid hzz
                have hb1 : (bits BinOp.and IntKind.u64 (U : Int) 1 == 1) = false := by rw [hA1, hpar]; rfl
                clear hzz hA1
                go_wp2_with fail
                go_ret
                rw [HQ2.out]
                exact ⟨ret_i HZZ.out, HR.out, (Mods.of_below HB3.out).trans HM.out fun _ _ h => h⟩
              · have hzz := unzig_odd hU64 hpar
                have HZZ := Lib.hid hzz
                have hb1 : (bits BinOp.and IntKind.u64 (U : Int) 1 == 1) = true := by rw [hA1, hpar]; rfl
                clear hzz hA1
                go_wp2_with fail
                go_ret
                rw [HQ2.out]
                exact ⟨ret_i HZZ.out, HR.out, (Mods.of_below HB3.out).trans HM.out fun _ _ h => h⟩
        · by_cases hi0 : 0 < i
          · by_cases hc0 : c = 0
            · have gC : ((i : Int) == 9) = false := by simp; omega
              have gE : 0 < i := by omega
              have gF : ((c : Int) == 0) = true := by simp; omega
              have hdn : dec i u (c :: (L.drop at_).drop (i + 1)) = (0, 0, some 3) := if_pos (by omega)
              have hx : nxt L at_ = (0, 0, .sent 3) := by
                have hd := HD.out
                rw [HDD.out, hdn] at hd
                simp only [nxt, ← hd]
              have HQ2 := Lib.hid (HQ.out.trans (by rw [hx] : _ = ((0 : Int), at_, 3 + 1, at_)))
              clear h9 hi0 hc0 hdn hx
              go_wp2_with fail
              refine (rfail_c b v L at_ place 4 _ HHE.out).mono ?_
              rintro ev w4 ⟨rfl, hR4, hM4⟩
              go_wp2_with fail
              go_ret
              rw [HQ2.out]
              exact ⟨rfl, hR4, (Mods.of_below (HB3.out)).trans hM4 fun _ _ h => h⟩
            · by_cases hlc : c < 128
              · have gC : ((i : Int) == 9) = false := by simp; omega
                have gE : 0 < i := by omega
                have gF : ((c : Int) == 0) = false := by simp; omega
                have HSTEP := Lib.hid ((or_step hc256 hi9 HU.out (by omega)).trans (by rw [← HUE.out] : ((u + c % 128 * 2 ^ (7 * i) : Nat) : Int) = (U : Int)))
                have HDN := Lib.hid (show dec i u (c :: (L.drop at_).drop (i + 1)) = if c < 128 then (U, i + 1, none) else dec (i + 1) U ((L.drop at_).drop (i + 1)) by rw [HUE.out]; exact if_neg (by omega))
                have hU64 : U < 18446744073709551616 := by rw [HUE.out]; exact step_lt64 hi9 HU.out (by omega)
                have hsh : i ≤ 9 := hi9

                have hx : nxt L at_ = (unzig U, at_ + (i + 1), .nil) := by
                  have hd := HD.out
                  rw [HDD.out, HDN.out, if_pos (by omega)] at hd
                  simp only [nxt, ← hd]
                have HQ2 := Lib.hid (HQ.out.trans (by rw [hx] : _ = (unzig U, at_ + (i + 1), 0, place)))
                have h128 : decide ((c : Int) < 128) = true := by simp; omega
                have hstep := HSTEP.out
                have e1 := cell_of HHE.out.blk 1
                have z1 := frozen_of HHE.out.blk 1
                simp only [List.getElem?_toArray, List.getElem?_cons_zero, List.getElem?_cons_succ] at e1
                have hA1 := and1_bits hU64
                clear h9 hi0 hc0 hx
                have hM : Mods (onlyS b) we (we.setCell ⟨b, 1, none⟩ (.int .i64 ((at_ : Int) + i + 1))) := (Mods.refl (onlyS b) we).setCell (p := ⟨b, 1, none⟩) (show onlyS b b from rfl) _
                have hR := HHE.out.turn (at2 := at_ + (i + 1)) (code2 := 0) (place2 := place) hM (by
                  rw [show ((at_ + (i + 1) : Nat) : Int) = (at_ : Int) + i + 1 by omega]
                  exact heap_setCell_at HHE.out.blk _) (by omega)
                have HM := Lib.hid hM
                have HR := Lib.hid hR
                clear hM hR
                rcases Nat.mod_two_eq_zero_or_one U with hpar | hpar
                · have hzz := unzig_even hpar
                  have HZZ := Lib.hid hzz
                  have hb1 : (bits BinOp.and IntKind.u64 (U : Int) 1 == 1) = false := by rw [hA1, hpar]; rfl
                  clear hzz hA1
                  go_wp2_with fail
                  go_ret
                  rw [HQ2.out]
                  exact ⟨ret_i HZZ.out, HR.out, (Mods.of_below HB3.out).trans HM.out fun _ _ h => h⟩
                · have hzz := unzig_odd hU64 hpar
                  have HZZ := Lib.hid hzz
                  have hb1 : (bits BinOp.and IntKind.u64 (U : Int) 1 == 1) = true := by rw [hA1, hpar]; rfl
                  clear hzz hA1
                  go_wp2_with fail
                  go_ret
                  rw [HQ2.out]
                  exact ⟨ret_i HZZ.out, HR.out, (Mods.of_below HB3.out).trans HM.out fun _ _ h => h⟩
              · have gC : ((i : Int) == 9) = false := by simp; omega
                have gE : 0 < i := by omega
                have gF : ((c : Int) == 0) = false := by simp; omega
                have HSTEP := Lib.hid ((or_step hc256 hi9 HU.out (by omega)).trans (by rw [← HUE.out] : ((u + c % 128 * 2 ^ (7 * i) : Nat) : Int) = (U : Int)))
                have HDN := Lib.hid (show dec i u (c :: (L.drop at_).drop (i + 1)) = if c < 128 then (U, i + 1, none) else dec (i + 1) U ((L.drop at_).drop (i + 1)) by rw [HUE.out]; exact if_neg (by omega))
                have hU64 : U < 18446744073709551616 := by rw [HUE.out]; exact step_lt64 hi9 HU.out (by omega)
                have hsh : i ≤ 9 := hi9

                have h128 : decide ((c : Int) < 128) = false := by simp; omega
                have hstep := HSTEP.out
                have hlt8 : i ≤ 8 := by omega
                clear h9 hi0 hc0
                go_wp2_with fail
                clear hstep
                go_roundw
                case measure => simp [intOf]; omega
                case rel =>
                  have hd := HD.out
                  rw [HDD.out, HDN.out, if_neg (by omega)] at hd
                  refine ⟨i + 1, U, by go_num, rfl, by omega, by omega, ?_, hd, HB3.out⟩
                  rw [HUE.out]
                  exact step_lt (by omega) HU.out
          · by_cases hlc : c < 128
            · have gC : ((i : Int) == 9) = false := by simp; omega
              have gE : ¬ 0 < i := by omega
              have HSTEP := Lib.hid ((or_step hc256 hi9 HU.out (by omega)).trans (by rw [← HUE.out] : ((u + c % 128 * 2 ^ (7 * i) : Nat) : Int) = (U : Int)))
              have HDN := Lib.hid (show dec i u (c :: (L.drop at_).drop (i + 1)) = if c < 128 then (U, i + 1, none) else dec (i + 1) U ((L.drop at_).drop (i + 1)) by rw [HUE.out]; exact if_neg (by omega))
              have hU64 : U < 18446744073709551616 := by rw [HUE.out]; exact step_lt64 hi9 HU.out (by omega)
              have hsh : i ≤ 9 := hi9

              have hx : nxt L at_ = (unzig U, at_ + (i + 1), .nil) := by
                have hd := HD.out
                rw [HDD.out, HDN.out, if_pos (by omega)] at hd
                simp only [nxt, ← hd]
              have HQ2 := Lib.hid (HQ.out.trans (by rw [hx] : _ = (unzig U, at_ + (i + 1), 0, place)))
              have h128 : decide ((c : Int) < 128) = true := by simp; omega
              have hstep := HSTEP.out
              have e1 := cell_of HHE.out.blk 1
              have z1 := frozen_of HHE.out.blk 1
              simp only [List.getElem?_toArray, List.getElem?_cons_zero, List.getElem?_cons_succ] at e1
              have hA1 := and1_bits hU64
              clear h9 hi0 hx
              have hM : Mods (onlyS b) we (we.setCell ⟨b, 1, none⟩ (.int .i64 ((at_ : Int) + i + 1))) := (Mods.refl (onlyS b) we).setCell (p := ⟨b, 1, none⟩) (show onlyS b b from rfl) _
              have hR := HHE.out.turn (at2 := at_ + (i + 1)) (code2 := 0) (place2 := place) hM (by
                rw [show ((at_ + (i + 1) : Nat) : Int) = (at_ : Int) + i + 1 by omega]
                exact heap_setCell_at HHE.out.blk _) (by omega)
              have HM := Lib.hid hM
              have HR := Lib.hid hR
              clear hM hR
              rcases Nat.mod_two_eq_zero_or_one U with hpar | hpar
              · have hzz := unzig_even hpar
                have HZZ := Lib.hid hzz
                have hb1 : (bits BinOp.and IntKind.u64 (U : Int) 1 == 1) = false := by rw [hA1, hpar]; rfl
                clear hzz hA1
                go_wp2_with fail
                go_ret
                rw [HQ2.out]
                exact ⟨ret_i HZZ.out, HR.out, (Mods.of_below HB3.out).trans HM.out fun _ _ h => h⟩
              · have hzz := unzig_odd hU64 hpar
                have HZZ := Lib.hid hzz
                have hb1 : (bits BinOp.and IntKind.u64 (U : Int) 1 == 1) = true := by rw [hA1, hpar]; rfl
                clear hzz hA1
                go_wp2_with fail
                go_ret
                rw [HQ2.out]
                exact ⟨ret_i HZZ.out, HR.out, (Mods.of_below HB3.out).trans HM.out fun _ _ h => h⟩
            · have gC : ((i : Int) == 9) = false := by simp; omega
              have gE : ¬ 0 < i := by omega
              have HSTEP := Lib.hid ((or_step hc256 hi9 HU.out (by omega)).trans (by rw [← HUE.out] : ((u + c % 128 * 2 ^ (7 * i) : Nat) : Int) = (U : Int)))
              have HDN := Lib.hid (show dec i u (c :: (L.drop at_).drop (i + 1)) = if c < 128 then (U, i + 1, none) else dec (i + 1) U ((L.drop at_).drop (i + 1)) by rw [HUE.out]; exact if_neg (by omega))
              have hU64 : U < 18446744073709551616 := by rw [HUE.out]; exact step_lt64 hi9 HU.out (by omega)
              have hsh : i ≤ 9 := hi9

              have h128 : decide ((c : Int) < 128) = false := by simp; omega
              have hstep := HSTEP.out
              have hlt8 : i ≤ 8 := by omega
              clear h9 hi0
              go_wp2_with fail
              clear hstep
              go_roundw
              case measure => simp [intOf]; omega
              case rel =>
                have hd := HD.out
                rw [HDD.out, HDN.out, if_neg (by omega)] at hd
                refine ⟨i + 1, U, by go_num, rfl, by omega, by omega, ?_, hd, HB3.out⟩
                rw [HUE.out]
                exact step_lt (by omega) HU.out
      · have g1 : decide ((at_ : Int) + i ≥ L.length) = true := by simp; omega
        have hx : nxt L at_ = (0, 0, .sent 2) := by
          have hd := HD.out
          rw [List.drop_eq_nil_of_le (by rw [List.length_drop]; omega)] at hd
          simp only [nxt, ← hd, dec]
        have HQ2 := Lib.hid (HQ.out.trans (by rw [hx] : _ = ((0 : Int), at_, 2 + 1, at_)))
        clear hx hlt2 hil
        go_wp2_with fail
        refine wp_region_lexA ⟨[], []⟩ (fun x => Below wr.heap.size wr x) (by kernel_rfl) (by kernel_rfl) (Below.refl _ _).drew ?_
        intro S hto hof hne
        have y0 : ∀ z : Wd S, z.w.cell? ⟨b, 0, none⟩ = some (.slice ad L.length cap) := fun z => ((hto z).cell (p := ⟨b, 0, none⟩) hbr).trans d0
        have y1 : ∀ z : Wd S, z.w.cell? ⟨b, 1, none⟩ = some (.int .i64 at_) := fun z => ((hto z).cell (p := ⟨b, 1, none⟩) hbr).trans d1
        have Hof := Lib.hid hof
        clear hto hof d0 d1
        refine lexW_light 12 (by kernel_rfl) ?_
        simp only [List.take_succ_cons, List.take_zero, List.drop_succ_cons, List.drop_zero]
        repeat (first | go_big_quiet_skip | (go_big_quiet_want; go_big_quiet_op; go_big_quiet_on))
        refine wpQuiet_nil ?_
        refine lexW_done ?_
        clear y0 y1
        go_wp2_with fail
        refine (rfail_c b v L at_ place 3 _ (HHB.out.below (Below.refl _ _).drew)).mono ?_
        rintro ev w4 ⟨rfl, hR4, hM4⟩
        go_wp2_with fail
        go_ret
        rw [HQ2.out]
        exact ⟨rfl, hR4, (Mods.of_below (HB.out.drew)).trans hM4 fun _ _ h => h⟩
  · have hr : stepQ L at_ code place (fun _ => true) = (0, at_, code, place) := by unfold stepQ; rw [if_neg h0]
    rw [hr]
    have g0 : ((code : Int) != 0) = true := by simp; omega
    have g1 : ((code : Int) == 0) = false := by simp; omega
    clear hr h0
    go_enter Tryd.func68, Tryd.ntmps68
    go_wp2_with fail
    go_ret
    exact ⟨rfl, HH.out, Mods.refl _ _⟩

end Go.Proofs.YtpljdbcifaeblaaDoor
