/- The document's NewFabric. -/
import Derived.Test.YtbefkkefglkleaaDoorRf3
import Derived.Test.YtbefkkefglkleaaDoorLexN
import Derived.Test.YtbefkkefglkleaaDoorCpy
import Derived.RegionTactic
import Derived.Deep.OwnRows
namespace Go.Proofs.YtbefkkefglkleaaDoor
open Go.RowKit Go.Extern.Stop Go.Stop Go.Extern

theorem nInfoSMM : (Tryd.prog.info? 44).map (fun i => (i.zero, i.size, i.bytes)) = some (some (.slice none 0 0), 1, 24) := by kernel_rfl
/-- The lists that are made. -/
structure RfN (w : World) (b n : Nat) (room : Int) (X : Nat → Value) (p : Nat) (wr : World) : Prop where
  hdr : RfH b n room X wr
  lo : w.heap.size ≤ b
  lst : ∀ q, q < p → winRow wr w.heap.size 44 1 (X q) n (List.replicate n nilS)
  non : ∀ q, p ≤ q → q < 4 → X q = nilS
  xx : ∀ q q', q < p → q' < p → q ≠ q' → ∀ g, (X q).ownBlock = some g → (X q').ownBlock ≠ some g
  xb : ∀ q, q < p → (X q).ownBlock ≠ some b
  below : Below w.heap.size w wr
theorem RfN.full {w : World} {b n : Nat} {room : Int} {X : Nat → Value} {wr : World} (h : RfN w b n room X 4 wr) : RfB w n X (fun _ _ => nilS) (fun _ => []) wr :=
  ⟨fun p hp => by
    have e : (List.range n).map (fun _ => nilS) = List.replicate n nilS := by
      rw [List.map_const']
      simp
    rw [e]
    exact h.lst p hp, fun p c _ _ => winRow_nil _ _ _ _, h.xx, fun p p' c _ _ _ g _ hg => (by cases hg), fun p c p' c' _ _ _ _ _ g hg => (by cases hg), h.below⟩
def setX (X : Nat → Value) (p : Nat) (v : Value) : Nat → Value := fun q => if q = p then v else X q
theorem hdr_set (n : Nat) (room : Int) (X : Nat → Value) (p : Nat) (v : Value) (hp : p < 4) : (hdrV n room X).setIfInBounds (2 + p) v = hdrV n room (setX X p v) := by
  have : p = 0 ∨ p = 1 ∨ p = 2 ∨ p = 3 := by omega
  rcases this with rfl | rfl | rfl | rfl <;> rfl
theorem RfN.next {w wr w1 : World} {b n : Nat} {room : Int} {X : Nat → Value} {p g : Nat} (h : RfN w b n room X p wr) (hp : p < 4) (hn : n ≤ 64) (hb : Below wr.heap.size wr w1) (hg : wr.heap.size ≤ g) (hgb : w1.heap[g]? = some (.cells (madeCells #[.slice none 0 0] n) 44 (0, 0))) :
    RfN w b n room (setX X p (.slice (some ⟨g, 0, none⟩) n n)) (p + 1) (w1.setCell ⟨b, 2 + p, none⟩ (.slice (some ⟨g, 0, none⟩) n n)) := by
  have hbl := h.hdr.lt
  have hgl := (Array.getElem?_eq_some_iff.1 hgb).1
  have hb1 : RfH b n room X w1 := h.hdr.bel hb
  have hne : g ≠ b := by omega
  have hz : ∀ q, q ≠ b → (w1.setCell ⟨b, 2 + p, none⟩ (.slice (some ⟨g, 0, none⟩) n n)).heap[q]? = w1.heap[q]? := fun q hq => Below.heap_setCell _ _ _ _ hq
  have hold : ∀ q, q < p → ∀ k, (X q).ownBlock = some k → k < wr.heap.size := fun q hq k hk => ((h.lst q hq).lt k hk).2
  have hW : Below w.heap.size w w1 := h.below.trans (hb.mono h.below.size)
  have hnew : winRow w1 w.heap.size 44 1 (.slice (some ⟨g, 0, none⟩) n n) n (List.replicate n nilS) := by
    have eB : (madeCells #[Value.slice none 0 0] n).toList = List.replicate n (.slice none 0 0) := toList_madeCells_one _ _
    refine ⟨by simp, .inr ⟨g, 0, n, _, rfl, by have := h.below.size; omega, hgb, by omega, by unfold maxLen; omega, by rw [size_madeCells]; simp, ?_⟩⟩
    rw [eB]
    simp [nilS]
  refine ⟨?_, h.lo, fun q hq => ?_, fun q h1 h2 => ?_, fun q q' hq hq' hne' k hk => ?_, fun q hq => ?_, hW.setCell (p := ⟨b, 2 + p, none⟩) h.lo _⟩
  · have e := heap_setCell_at (k := 2 + p) hb1 (.slice (some ⟨g, 0, none⟩) n n)
    rw [hdr_set n room X p _ hp] at e
    exact e
  · by_cases hqp : q = p
    · subst hqp
      rw [show setX X q (.slice (some ⟨g, 0, none⟩) n n) q = .slice (some ⟨g, 0, none⟩) n n from if_pos rfl]
      exact hnew.keep fun k hk => by
        have hk : g = k := Option.some.inj hk
        exact hz k (by omega)
    · rw [show setX X p (.slice (some ⟨g, 0, none⟩) n n) q = X q from if_neg hqp]
      have hq' : q < p := by omega
      refine ((h.lst q hq').below hb).keep fun k hk => hz k fun e => ?_
      exact h.xb q hq' (by rw [← e]; exact hk)
  · rw [show setX X p (.slice (some ⟨g, 0, none⟩) n n) q = X q from if_neg (by omega)]
    exact h.non q (by omega) h2
  · unfold setX at hk ⊢
    by_cases h1 : q = p
    · rw [if_pos h1] at hk
      have hk : g = k := Option.some.inj hk
      rw [if_neg (by omega)]
      intro e
      have := hold q' (by omega) k e
      omega
    · rw [if_neg h1] at hk
      have h3 := hold q (by omega) k hk
      by_cases h2 : q' = p
      · rw [if_pos h2]
        intro e
        have e : g = k := Option.some.inj e
        omega
      · rw [if_neg h2]
        exact h.xx q q' (by omega) (by omega) hne' k hk
  · unfold setX
    by_cases h1 : q = p
    · rw [if_pos h1]
      intro e
      have e : g = b := Option.some.inj e
      omega
    · rw [if_neg h1]
      exact h.xb q (by omega)

set_option maxRecDepth 100000 in
set_option maxHeartbeats 4000000 in
theorem rnew_ok (n : Nat) (room : Int) (w : World) (h1 : 1 ≤ n) (h2 : n ≤ 64) (h3 : 1 ≤ room) (h4 : room ≤ 64) :
    Calls Tryd.prog 17 #[.int .i64 n, .int .i64 room] w fun ev w' => ∃ b X, ev = .returned (.tuple #[.pointer (some ⟨b, 0, none⟩), .int .i64 0, .int .i64 0]) ∧ RfH b n room X w' ∧ RfB w n X (fun _ _ => nilS) (fun _ => []) w' ∧ ¬ RfOwn n X (fun _ _ => nilS) b ∧ w.heap.size ≤ b := by
  have a1 : decide ((n : Int) < 1) = false := by simp; omega
  have a2 : decide (64 < (n : Int)) = false := by simp; omega
  have a3 : decide (room < 1) = false := by simp; omega
  have a4 : decide (64 < room) = false := by simp; omega
  have hm1 : ∀ w : World, (Instr.makeSlice 47 (.int .i64 n) (.int .i64 n)).run Tryd.prog w = .ok (.slice (some ⟨w.heap.size, 0, none⟩) n n) (w.alloc (.cells (madeCells #[.slice none 0 0] n) 44)) := fun w => run_make_row' _ _ _ 24 Tryd.underlying47 nInfoSMM rfl .i64 .i64 n (by omega) (by omega) w
  have HM1 := Lib.hid hm1
  clear hm1
  go_enter Tryd.func17, Tryd.ntmps17
  go_upto_block 0 with fail
  obtain ⟨b, hb⟩ : ∃ b, b = w.heap.size := ⟨_, rfl⟩
  have HN := Lib.hid (show RfN w b n room (fun _ => nilS) 0 (w.alloc (.cells #[.int .i64 n, .int .i64 room, .slice none 0 0, .slice none 0 0, .slice none 0 0, .slice none 0 0] 50)) from by
    rw [hb]
    exact ⟨heap_alloc_new _ _, Nat.le_refl _, fun q hq => by omega, fun q _ _ => rfl, fun q q' hq => by omega, fun q hq => by omega, (Below.refl _ _).alloc (Nat.le_refl _) _⟩)
  rw [← hb]
  clear hb
  generalize w.alloc (.cells #[.int .i64 n, .int .i64 room, .slice none 0 0, .slice none 0 0, .slice none 0 0, .slice none 0 0] 50) = w1 at *
  go_wp2_with fail
  go_loopw [25] (fun s25 wr => ∃ (p : Nat) (X : Nat → Value), p ≤ 4 ∧ s25 = .int .i64 p ∧ RfN w b n room X p wr) (fun s25 _ => 4 - (intOf s25).toNat)
  case atStart => exact ⟨0, _, by omega, rfl, HN.out⟩
  case round =>
    clear HN
    obtain ⟨p, X, hp4, rfl, hn⟩ := hrel
    have HN := Lib.hid hn
    clear hn
    by_cases hp : p < 4
    · have j1 : decide (p < 4) = true := by simpa using hp
      have j2 : decide ((p : Int) < 4) = true := by simp; omega
      go_upto_region 9 with fail
      refine wp_region_lexA ⟨[], []⟩ (fun _ => True) (by kernel_rfl) (by kernel_rfl) trivial ?_
      intro S hto hof hne
      have Hof := Lib.hid hof
      have hm1 := HM1.out
      clear hto hof
      refine lexW_light 3 (by kernel_rfl) ?_
      simp only [List.take_succ_cons, List.take_zero, List.drop_succ_cons, List.drop_zero]
      repeat (first | go_big_quiet_skip | (go_big_quiet_want; go_big_quiet_op; go_big_quiet_on))
      refine wpQuiet_nil ?_
      refine lexW_heavy (by kernel_rfl) ?_
      go_wp2_with fail
      clear hm1
      obtain ⟨g, hg⟩ : ∃ g, g = wr.heap.size := ⟨_, rfl⟩
      have HB := Lib.hid (show Below wr.heap.size wr (wr.alloc (.cells (madeCells #[.slice none 0 0] n) 44)).drew from ((Below.refl _ _).alloc (Nat.le_refl _) _).drew)
      have HG := Lib.hid (show wr.heap.size ≤ g by omega)
      have HX := Lib.hid (show (wr.alloc (.cells (madeCells #[.slice none 0 0] n) 44)).drew.heap[g]? = some (.cells (madeCells #[.slice none 0 0] n) 44 (0, 0)) from by rw [hg]; exact heap_alloc_new wr _)
      refine lexQ_more (Hof.out _ trivial) ?_
      rw [← hg]
      clear hg
      generalize (wr.alloc (.cells (madeCells #[.slice none 0 0] n) 44)).drew = w2 at *
      have hb2 := HN.out.hdr.bel HB.out
      have zc : w2.cell? ⟨b, 2 + p, none⟩ = some (X p) := by
        rw [cell_of hb2 (2 + p)]
        have : p = 0 ∨ p = 1 ∨ p = 2 ∨ p = 3 := by omega
        rcases this with rfl | rfl | rfl | rfl <;> rfl
      have zf := frozen_of hb2 (2 + p)
      clear hb2
      refine lexW_light 3 (by kernel_rfl) ?_
      simp only [List.take_succ_cons, List.take_zero, List.drop_succ_cons, List.drop_zero]
      repeat (first | go_big_quiet_skip | (go_big_quiet_want; go_big_quiet_op; go_big_quiet_on))
      refine wpQuiet_nil ?_
      refine lexW_heavy (by kernel_rfl) ?_
      go_wp2_with fail
      have HN2 := Lib.hid (HN.out.next hp h2 HB.out HG.out HX.out)
      refine lexQ_more (Hof.out _ trivial) ?_
      refine lexW_done ?_
      clear zc zf Hof hne HX HB HG HN
      generalize w2.setCell ⟨b, 2 + p, none⟩ (.slice (some ⟨g, 0, none⟩) n n) = w3 at *
      go_wp2_with fail
      go_roundw
      case rel => exact ⟨p + 1, _, by omega, by go_num, HN2.out⟩
      case measure => simp [intOf] <;> omega
    · have j1 : decide (p < 4) = false := by simpa using hp
      have j2 : decide ((p : Int) < 4) = false := by simp; omega
      have hp5 : p = 4 := by omega
      have HN4 := Lib.hid (show RfN w b n room X 4 wr from by rw [← hp5]; exact HN.out)
      clear hp5
      go_wp2_with fail
      go_ret3
      refine ⟨b, X, rfl, HN4.out.hdr, HN4.out.full, fun ho => ?_, HN4.out.lo⟩
      rcases ho with ⟨q, hq, e⟩ | ⟨q, c, _, _, e⟩
      · exact HN4.out.xb q hq e
      · cases e
theorem rnew_bad (n room : Int) (w : World) (h : ¬ ((1 ≤ n ∧ n ≤ 64) ∧ 1 ≤ room ∧ room ≤ 64)) :
    Calls Tryd.prog 17 #[.int .i64 n, .int .i64 room] w fun ev w' => ev = .returned (.tuple #[.pointer none, .int .i64 1, .int .i64 (if 1 ≤ n ∧ n ≤ 64 then 1 else 0)]) ∧ w = w' := by
  by_cases hn : 1 ≤ n ∧ n ≤ 64
  · rw [if_pos hn]
    have a1 : decide (n < 1) = false := by simp; omega
    have a2 : decide (64 < n) = false := by simp; omega
    by_cases hr : room < 1
    · have a3 : decide (room < 1) = true := by simpa using hr
      go_enter Tryd.func17, Tryd.ntmps17
      go_wp2_with fail
      go_ret3
      exact ⟨rfl, rfl⟩
    · have a3 : decide (room < 1) = false := by simpa using hr
      have a4 : decide (64 < room) = true := by simp; omega
      go_enter Tryd.func17, Tryd.ntmps17
      go_wp2_with fail
      go_ret3
      exact ⟨rfl, rfl⟩
  · rw [if_neg hn]
    by_cases hr : n < 1
    · have a3 : decide (n < 1) = true := by simpa using hr
      go_enter Tryd.func17, Tryd.ntmps17
      go_wp2_with fail
      go_ret3
      exact ⟨rfl, rfl⟩
    · have a3 : decide (n < 1) = false := by simpa using hr
      have a4 : decide (64 < n) = true := by simp; omega
      go_enter Tryd.func17, Tryd.ntmps17
      go_wp2_with fail
      go_ret3
      exact ⟨rfl, rfl⟩
def fnewE (n m : Int) : ErrT := if (1 ≤ n ∧ n ≤ 64) ∧ 1 ≤ m ∧ m ≤ 64 then .nil else .wrap fbT (if 1 ≤ n ∧ n ≤ 64 then 1 else 0) (.sent 0)
theorem fnew_bad (A : Nat → Addr) (n m : Int) (w : World) (hs : SentAt w A) (h : ¬ ((1 ≤ n ∧ n ≤ 64) ∧ 1 ≤ m ∧ m ≤ 64)) :
    Calls Tryd.prog 10 #[.int .i64 n, .int .i64 m] w fun ev w' => ev = .returned (.tuple #[.pointer none, (fnewE n m).val A]) ∧ w = w' := by
  have hg := hs.glob 0 (by omega)
  simp only [gnum] at hg
  by_cases hn : 1 ≤ n ∧ n ≤ 64
  · have hE : fnewE n m = .wrap fbT 1 (.sent 0) := by unfold fnewE; rw [if_neg h, if_pos hn]
    rw [hE]
    have a1 : decide (n < 1) = false := by simp; omega
    have a2 : decide (64 < n) = false := by simp; omega
    by_cases hm : m < 1
    · have a3 : decide (m < 1) = true := by simpa using hm
      clear hE h hn hm
      go_enter Tryd.func10, Tryd.ntmps10
      go_wp2_with fail
      refine (wrap_c A fbT 1 (.sent 0) w).mono ?_
      rintro e w' ⟨rfl, rfl⟩
      go_wp2_with fail
      go_ret2
      exact ⟨rfl, rfl⟩
    · have a3 : decide (m < 1) = false := by simpa using hm
      have a4 : decide (64 < m) = true := by simp; omega
      clear hE h hn hm
      go_enter Tryd.func10, Tryd.ntmps10
      go_wp2_with fail
      refine (wrap_c A fbT 1 (.sent 0) w).mono ?_
      rintro e w' ⟨rfl, rfl⟩
      go_wp2_with fail
      go_ret2
      exact ⟨rfl, rfl⟩
  · have hE : fnewE n m = .wrap fbT 0 (.sent 0) := by unfold fnewE; rw [if_neg h, if_neg hn]
    rw [hE]
    by_cases hm : n < 1
    · have a3 : decide (n < 1) = true := by simpa using hm
      clear hE h hn hm
      go_enter Tryd.func10, Tryd.ntmps10
      go_wp2_with fail
      refine (wrap_c A fbT 0 (.sent 0) w).mono ?_
      rintro e w' ⟨rfl, rfl⟩
      go_wp2_with fail
      go_ret2
      exact ⟨rfl, rfl⟩
    · have a3 : decide (n < 1) = false := by simpa using hm
      have a4 : decide (64 < n) = true := by simp; omega
      clear hE h hn hm
      go_enter Tryd.func10, Tryd.ntmps10
      go_wp2_with fail
      refine (wrap_c A fbT 0 (.sent 0) w).mono ?_
      rintro e w' ⟨rfl, rfl⟩
      go_wp2_with fail
      go_ret2
      exact ⟨rfl, rfl⟩

end Go.Proofs.YtbefkkefglkleaaDoor
