/- FaultRuns: true; no condition but what a start gives. -/
import Derived.Test.YteljpfbfkpdchaaDoorFlt5
import Derived.Test.YteljpfbfkpdchaaDoorMem
import Derived.Test.YteljpfbfkpdchaaDoorLex2
import Derived.BigQuiet
import Derived.Lib.Hide
namespace Go.Proofs.YteljpfbfkpdchaaDoor
open Go.RowKit Go.Extern.Stop Go.Stop Go.Extern

/-- What FaultRuns asks of a start. -/
structure RunsAt (w : World) (A : Nat → Addr) : Prop where
  core : SentC w A (fun k => k = 5 ∨ k = 6)
  g5 : w.cell? ⟨0, 0, none⟩ = some (.iface 120 (.pointer (some (A 5))))
  g6 : w.cell? ⟨1, 0, none⟩ = some (.iface 120 (.pointer (some (A 6))))
  t5 : w.cell? (A 5) = some (.string ⟨(sentText 5).toArray⟩)
theorem RunsAt.below {w w' : World} {A : Nat → Addr} (h : RunsAt w A) (hb : Below w.heap.size w w') : RunsAt w' A :=
  ⟨h.core.below hb, (hb.cell (World.block_lt_of_cell? _ _ h.g5)).trans h.g5, (hb.cell (World.block_lt_of_cell? _ _ h.g6)).trans h.g6, (hb.cell (World.block_lt_of_cell? _ _ h.t5)).trans h.t5⟩
theorem SentAt.runs {w : World} {A : Nat → Addr} (h : SentAt w A) : RunsAt w A := by
  refine ⟨⟨fun k hk => h.row k (by omega), fun j k hj hk => h.inj j k (by omega) (by omega), h.et⟩, h.glob 5 (by omega), h.glob 6 (by omega), ?_⟩
  obtain ⟨s, h1, h2, _⟩ := h.text 5 (by omega)
  rw [h1]
  congr 2
  obtain ⟨d⟩ := s
  congr 1
  exact Array.toList_inj.1 h2

def aB : ByteArray := ⟨#[97, 46, 66]⟩
def cD : ByteArray := ⟨#[99, 46, 68]⟩
def eA : ErrT := .wrap aB 3 (.sent 5)
def eB : ErrT := .wrap cD 0 eA

theorem cells_two (w : World) (u v : Value) (ty : TypeId) : (w.alloc (.cells #[u, v] ty)).cell? ⟨w.heap.size, 0, none⟩ = some u ∧ (w.alloc (.cells #[u, v] ty)).cell? ⟨w.heap.size, 1, none⟩ = some v := by
  constructor <;> rw [World.cell?_alloc_new] <;> rfl
theorem slc_two (w : World) (u v : Value) (ty : TypeId) : slc (w.alloc (.cells #[u, v] ty)) 1 (.slice (some ⟨w.heap.size, 0, none⟩) 2 2) 2 [u, v] :=
  ⟨rfl, _, _, rfl, fun _ => ⟨w.heap.size, 0, rfl, by simp, fun j x hj => by
    rw [Nat.zero_add]
    match j, hj with
    | 0, hj => obtain rfl := Option.some.inj hj; exact (cells_two w u v ty).1
    | 1, hj => obtain rfl := Option.some.inj hj; exact (cells_two w u v ty).2⟩⟩

set_option maxRecDepth 100000 in
set_option maxHeartbeats 8000000 in
theorem faultRuns (A : Nat → Addr) (w : World) (hs : RunsAt w A) : Calls Tryd.prog 8 #[] w (TruePost w) := by
  have g5 := hs.g5
  go_enter Tryd.func8, Tryd.ntmps8
  go_wp2_with fail
  refine (wrap_c A aB 3 (.sent 5) w).mono ?_
  rintro ev w' ⟨rfl, rfl⟩
  have HEA := Lib.hid (show (wrapE aB 3 (.sent 5)).val A = .iface 63 (.agg #[.string aB, .int .i64 3, .iface 120 (.pointer (some (A 5)))]) from rfl)
  have HEB := Lib.hid (show (wrapE cD 0 eA).val A = .iface 63 (.agg #[.string cD, .int .i64 0, .iface 63 (.agg #[.string aB, .int .i64 3, .iface 120 (.pointer (some (A 5)))])]) from rfl)
  rw [HEA.out]
  go_wp2_with fail
  rw [← HEA.out]
  refine (wrap_c A cD 0 eA _).mono ?_
  rintro ev w' ⟨rfl, rfl⟩
  rw [HEA.out, HEB.out]
  go_wp2_with fail
  rw [← HEA.out]
  change Calls Tryd.prog _ #[eA.val A] _ _
  have hwA : eA.wf := ⟨rfl, show (5 : Nat) < 10 by omega⟩
  have hwB : eB.wf := ⟨rfl, hwA⟩
  refine (find_c A _ eA _ hs.core hwA).mono ?_
  rintro ev w2 ⟨rfl, hb2⟩
  rw [HEA.out, show eA.found A = .agg #[.string aB, .int .i64 3, .iface 120 (.pointer (some (A 5)))] from rfl, show eA.isWrap = true from rfl]
  have hs2 := hs.below hb2
  go_wp2_with fail
  have hBY := hb2.alloc hb2.size (.cells #[.string aB, .int .i64 3, .iface 120 (.pointer (some (A 5)))] 63)
  have hsY := hs2.below ((Below.refl _ _).alloc (Nat.le_refl _) (.cells #[.string aB, .int .i64 3, .iface 120 (.pointer (some (A 5)))] 63))
  have hY := heap_alloc_new w2 (.cells #[.string aB, .int .i64 3, .iface 120 (.pointer (some (A 5)))] 63)
  generalize w2.alloc (.cells #[.string aB, .int .i64 3, .iface 120 (.pointer (some (A 5)))] 63) = Y at hBY hsY hY ⊢
  have hlt := (Array.getElem?_eq_some_iff.1 hY).1
  refine wp_region_lexV ⟨[], []⟩ [(44, 45)] 46 (by rfl) (fun x => Below Y.heap.size Y x) (by kernel_rfl) (by kernel_rfl) (Below.refl _ _).drew ?_
  intro S hto hof hne
  have d0 := cell_of hY 0
  have d1 := cell_of hY 1
  simp only [List.getElem?_toArray, List.getElem?_cons_zero, List.getElem?_cons_succ] at d0 d1
  have x0 : ∀ z : Wd S, z.w.cell? ⟨w2.heap.size, 0, none⟩ = some (.string ⟨#[97, 46, 66]⟩) := fun z => ((hto z).cell (p := ⟨w2.heap.size, 0, none⟩) hlt).trans d0
  have x1 : ∀ z : Wd S, z.w.cell? ⟨w2.heap.size, 1, none⟩ = some (.int .i64 3) := fun z => ((hto z).cell (p := ⟨w2.heap.size, 1, none⟩) hlt).trans d1
  have x5 := fun z : Wd S => (hsY.below (hto z)).g5
  have x6 := fun z : Wd S => (hsY.below (hto z)).g6
  have xe : ∀ z : Wd S, (binOp .eql 24 (.iface 120 (.pointer (some (A 5)))) (.iface 120 (.pointer (some (A 5))))).run Tryd.prog z.w = .ok (.bool true) z.w := fun z => by
    have := eql_sentC (hsY.below (hto z)).core (j := 5) (k := 5) (.inl rfl) (.inl rfl)
    rw [decide_eq_true rfl] at this
    exact this
  have mW := nMethodErrorW
  have sE : ∀ (a : ByteArray) (w : World), (binOp .eql 9 (.string a) (.string a)).run Tryd.prog w = .ok (.bool true) w := fun a w => by rw [binOp_string_eql, beq_self_eq_true]; rfl
  have Hof := Lib.hid hof
  have HSY := Lib.hid hsY
  have HBY := Lib.hid hBY
  clear hto hof hsY hBY hY hlt d0 d1 hs hs2 hb2 g5
  refine lexV_light 1 (by kernel_rfl) (by rfl) ?_
  simp only [List.take_succ_cons, List.take_zero, List.drop_succ_cons, List.drop_zero]
  repeat (first | go_big_quiet_skip | (go_big_quiet_want; go_big_quiet_op; go_big_quiet_on))
  refine wpQuiet_nil ?_
  refine lexV_heavy (by kernel_rfl) (by kernel_rfl) ?_
  go_wp2_with fail
  refine (faultText_c (A 5) _ aB 3 _ (HSY.out.below ((Below.refl _ _).drew)).t5 (World.block_lt_of_cell? _ _ (HSY.out.below ((Below.refl _ _).drew)).t5) (by decide) (by decide)).mono ?_
  rintro ev w3 ⟨rfl, hb3⟩
  rw [show aB ++ ⟨#[58, 32]⟩ ++ (⟨(sentText 5).toArray⟩ : ByteArray) = ⟨#[97, 46, 66, 58, 32, 110, 111, 32, 114, 111, 111, 109]⟩ from by kernel_rfl]
  have H3 := Lib.hid (((Below.refl Y.heap.size Y).drew).trans hb3)
  clear hb3
  go_wp2_with fail
  refine lexVQ_more (Hof.out _ H3.out) ?_
  refine lexV_light 16 (by kernel_rfl) (by rfl) ?_
  simp only [List.take_succ_cons, List.take_zero, List.drop_succ_cons, List.drop_zero]
  repeat (first | go_big_quiet_skip | (go_big_quiet_want; go_big_quiet_op; go_big_quiet_on))
  refine wpQuiet_nil ?_
  refine lexV_heavy (by kernel_rfl) (by kernel_rfl) ?_
  go_wp2_with fail
  change Calls Tryd.prog _ #[eB.val A] _ _
  refine (root_c A eB _ hwB (by decide)).mono ?_
  rintro ev w4 ⟨rfl, hb4⟩
  rw [show eB.root.val A = .iface 120 (.pointer (some (A 5))) from rfl]
  have H4 := Lib.hid (H3.out.trans (hb4.mono H3.out.size))
  clear hb4 H3
  go_wp2_with fail
  refine lexVQ_more (Hof.out _ H4.out) ?_
  refine lexV_light 5 (by kernel_rfl) (by rfl) ?_
  simp only [List.take_succ_cons, List.take_zero, List.drop_succ_cons, List.drop_zero]
  repeat (first | go_big_quiet_skip | (go_big_quiet_want; go_big_quiet_op; go_big_quiet_on))
  refine wpQuiet_nil ?_
  refine lexV_pair (by kernel_rfl) ?_ ?_
  · go_wp2_with fail
    change Calls Tryd.prog _ #[eB.val A] _ _
    refine (ops_c A eB _ hwB (by decide)).mono ?_
    rintro ev w5 ⟨u, rfl, hu, hb5⟩
    have hu2 := hu
    obtain ⟨_, a5, c5, rfl, _⟩ := hu2
    rw [show eB.ops.length = 2 from rfl] at *
    have H5 := Lib.hid (H4.out.trans (hb5.mono H4.out.size))
    clear hb5 H4
    go_wp2_with fail
    refine lexVQ_more (Hof.out _ H5.out) ?_
    refine lexV_heavy (by kernel_rfl) (by kernel_rfl) ?_
    go_wp2_with fail
    have H6 := Lib.hid (H5.out.alloc H5.out.size (.cells #[.string ⟨#[99, 46, 68]⟩, .string ⟨#[97, 46, 66]⟩] 9))
    have hu6 : slc _ 1 _ 2 _ := hu.below ((Below.refl _ _).alloc (Nat.le_refl _) (.cells #[.string ⟨#[99, 46, 68]⟩, .string ⟨#[97, 46, 66]⟩] 9))
    have hl6 : slc _ 1 (.slice (some ⟨w5.heap.size, 0, none⟩) 2 2) 2 _ := slc_two w5 (.string ⟨#[99, 46, 68]⟩) (.string ⟨#[97, 46, 66]⟩) 9
    generalize w5.alloc (.cells #[.string ⟨#[99, 46, 68]⟩, .string ⟨#[97, 46, 66]⟩] 9) = w6 at H6 hu6 hl6 ⊢
    clear hu
    refine lexVQ_more (Hof.out _ H6.out) ?_
    refine lexV_heavy (by kernel_rfl) (by kernel_rfl) ?_
    go_wp2_with fail
    refine (sameS_c [cD, aB] _ _ _ hu6 hl6 (by decide)).mono ?_
    rintro ev w7 ⟨rfl, hb7⟩
    have H7 := Lib.hid (H6.out.trans (hb7.mono H6.out.size))
    clear hb7 H6
    go_wp2_with fail
    refine lexVQ_more (Hof.out _ H7.out) ?_
    refine lexV_light 3 (by kernel_rfl) (by rfl) ?_
    simp only [List.take_succ_cons, List.take_zero, List.drop_succ_cons, List.drop_zero]
    repeat (first | go_big_quiet_skip | (go_big_quiet_want; go_big_quiet_op; go_big_quiet_on))
    refine wpQuiet_nil ?_
    refine lexV_heavy (by kernel_rfl) (by kernel_rfl) ?_
    go_wp2_with fail
    change Calls Tryd.prog _ #[eB.val A] _ _
    refine (depth_c A eB _ hwB (by decide)).mono ?_
    rintro ev w8 ⟨rfl, hb8⟩
    rw [show ((eB.depth : Nat) : Int) = 3 from rfl]
    have H8 := Lib.hid (H7.out.trans (hb8.mono H7.out.size))
    clear hb8 H7
    go_wp2_with fail
    refine lexVQ_more (Hof.out _ H8.out) ?_
    refine lexV_light 6 (by kernel_rfl) (by rfl) ?_
    simp only [List.take_succ_cons, List.take_zero, List.drop_succ_cons, List.drop_zero]
    repeat (first | go_big_quiet_skip | (go_big_quiet_want; go_big_quiet_op; go_big_quiet_on))
    refine wpQuiet_nil ?_
    refine lexV_heavy (by kernel_rfl) (by kernel_rfl) ?_
    go_wp2_with fail
    have H9 := Lib.hid (H8.out.alloc H8.out.size (.cells #[.iface 120 (.pointer (some (A 6))), .iface 120 (.pointer (some (A 5)))] 24))
    have hn9 := cells_two w8 (.iface 120 (.pointer (some (A 6)))) (.iface 120 (.pointer (some (A 5)))) 24
    have hz9 : (w8.alloc (.cells #[.iface 120 (.pointer (some (A 6))), .iface 120 (.pointer (some (A 5)))] 24)).heap.size = w8.heap.size + 1 := by simp
    generalize w8.alloc (.cells #[.iface 120 (.pointer (some (A 6))), .iface 120 (.pointer (some (A 5)))] 24) = w9 at H9 hn9 hz9 ⊢
    refine lexVQ_more (Hof.out _ H9.out) ?_
    refine lexV_heavy (by kernel_rfl) (by kernel_rfl) ?_
    go_wp2_with fail
    change Calls Tryd.prog _ #[eB.val A, _] _ _
    refine (any_c A (fun k => k = 5 ∨ k = 6) eB [6, 5] _ w9 (HSY.out.below H9.out).core hwB (.inl rfl) (by simp) (by decide) (.inr ⟨w8.heap.size, 2, rfl, by omega, fun k c hk => ?_⟩)).mono ?_
    · match k, hk with
      | 0, hk => obtain rfl := Option.some.inj hk; exact hn9.1
      | 1, hk => obtain rfl := Option.some.inj hk; exact hn9.2
    rintro ev w10 ⟨rfl, hb10⟩
    rw [show anyF eB [6, 5] = 1 from rfl]
    have H10 := Lib.hid (H9.out.trans (hb10.mono H9.out.size))
    clear hb10 H9 hn9 hz9
    go_wp2_with fail
    refine lexVQ_more (Hof.out _ H10.out) ?_
    refine lexV_light 3 (by kernel_rfl) (by rfl) ?_
    simp only [List.take_succ_cons, List.take_zero, List.drop_succ_cons, List.drop_zero]
    repeat (first | go_big_quiet_skip | (go_big_quiet_want; go_big_quiet_op; go_big_quiet_on))
    refine wpQuiet_nil ?_
    refine lexV_heavy (by kernel_rfl) (by kernel_rfl) ?_
    go_wp2_with fail
    change Calls Tryd.prog _ #[_, _, ErrT.nil.val A] _ _
    refine (wrap_c A ⟨#[120]⟩ 1 .nil _).mono ?_
    rintro ev w' ⟨rfl, rfl⟩
    rw [show (wrapE ⟨#[120]⟩ 1 .nil).val A = .nilIface from rfl]
    go_wp2_with fail
    refine lexVQ_more (Hof.out _ H10.out) ?_
    refine lexV_light 3 (by kernel_rfl) (by rfl) ?_
    simp only [List.take_succ_cons, List.take_zero, List.drop_succ_cons, List.drop_zero]
    repeat (first | go_big_quiet_skip | (go_big_quiet_want; go_big_quiet_op; go_big_quiet_on))
    refine wpQuiet_nil ?_
    refine lexV_done ?_
    go_wp2_with fail
    go_ret
    exact ⟨rfl, HBY.out.trans (H10.out.mono HBY.out.size)⟩
  · go_wp2_with fail
    have H5 := Lib.hid (H4.out.alloc H4.out.size (.cells #[.string ⟨#[99, 46, 68]⟩, .string ⟨#[97, 46, 66]⟩] 9))
    have hl5 : slc _ 1 (.slice (some ⟨w4.heap.size, 0, none⟩) 2 2) 2 _ := slc_two w4 (.string ⟨#[99, 46, 68]⟩) (.string ⟨#[97, 46, 66]⟩) 9
    generalize w4.alloc (.cells #[.string ⟨#[99, 46, 68]⟩, .string ⟨#[97, 46, 66]⟩] 9) = w5 at H5 hl5 ⊢
    refine lexVQ_more (Hof.out _ H5.out) ?_
    refine lexV_heavy (by kernel_rfl) (by kernel_rfl) ?_
    go_wp2_with fail
    change Calls Tryd.prog _ #[eB.val A] _ _
    refine (ops_c A eB _ hwB (by decide)).mono ?_
    rintro ev w6 ⟨u, rfl, hu, hb6⟩
    have hu2 := hu
    obtain ⟨_, a5, c5, rfl, _⟩ := hu2
    rw [show eB.ops.length = 2 from rfl] at *
    have H6 := Lib.hid (H5.out.trans (hb6.mono H5.out.size))
    have hl6 := hl5.below hb6
    clear hb6 H4 H5 hl5
    go_wp2_with fail
    refine lexVQ_more (Hof.out _ H6.out) ?_
    refine lexV_heavy (by kernel_rfl) (by kernel_rfl) ?_
    go_wp2_with fail
    refine (sameS_c [cD, aB] _ _ _ hu hl6 (by decide)).mono ?_
    rintro ev w7 ⟨rfl, hb7⟩
    have H7 := Lib.hid (H6.out.trans (hb7.mono H6.out.size))
    clear hb7 H6
    go_wp2_with fail
    refine lexVQ_more (Hof.out _ H7.out) ?_
    refine lexV_light 3 (by kernel_rfl) (by rfl) ?_
    simp only [List.take_succ_cons, List.take_zero, List.drop_succ_cons, List.drop_zero]
    repeat (first | go_big_quiet_skip | (go_big_quiet_want; go_big_quiet_op; go_big_quiet_on))
    refine wpQuiet_nil ?_
    refine lexV_heavy (by kernel_rfl) (by kernel_rfl) ?_
    go_wp2_with fail
    change Calls Tryd.prog _ #[eB.val A] _ _
    refine (depth_c A eB _ hwB (by decide)).mono ?_
    rintro ev w8 ⟨rfl, hb8⟩
    rw [show ((eB.depth : Nat) : Int) = 3 from rfl]
    have H8 := Lib.hid (H7.out.trans (hb8.mono H7.out.size))
    clear hb8 H7
    go_wp2_with fail
    refine lexVQ_more (Hof.out _ H8.out) ?_
    refine lexV_light 6 (by kernel_rfl) (by rfl) ?_
    simp only [List.take_succ_cons, List.take_zero, List.drop_succ_cons, List.drop_zero]
    repeat (first | go_big_quiet_skip | (go_big_quiet_want; go_big_quiet_op; go_big_quiet_on))
    refine wpQuiet_nil ?_
    refine lexV_heavy (by kernel_rfl) (by kernel_rfl) ?_
    go_wp2_with fail
    have H9 := Lib.hid (H8.out.alloc H8.out.size (.cells #[.iface 120 (.pointer (some (A 6))), .iface 120 (.pointer (some (A 5)))] 24))
    have hn9 := cells_two w8 (.iface 120 (.pointer (some (A 6)))) (.iface 120 (.pointer (some (A 5)))) 24
    have hz9 : (w8.alloc (.cells #[.iface 120 (.pointer (some (A 6))), .iface 120 (.pointer (some (A 5)))] 24)).heap.size = w8.heap.size + 1 := by simp
    generalize w8.alloc (.cells #[.iface 120 (.pointer (some (A 6))), .iface 120 (.pointer (some (A 5)))] 24) = w9 at H9 hn9 hz9 ⊢
    refine lexVQ_more (Hof.out _ H9.out) ?_
    refine lexV_heavy (by kernel_rfl) (by kernel_rfl) ?_
    go_wp2_with fail
    change Calls Tryd.prog _ #[eB.val A, _] _ _
    refine (any_c A (fun k => k = 5 ∨ k = 6) eB [6, 5] _ w9 (HSY.out.below H9.out).core hwB (.inl rfl) (by simp) (by decide) (.inr ⟨w8.heap.size, 2, rfl, by omega, fun k c hk => ?_⟩)).mono ?_
    · match k, hk with
      | 0, hk => obtain rfl := Option.some.inj hk; exact hn9.1
      | 1, hk => obtain rfl := Option.some.inj hk; exact hn9.2
    rintro ev w10 ⟨rfl, hb10⟩
    rw [show anyF eB [6, 5] = 1 from rfl]
    have H10 := Lib.hid (H9.out.trans (hb10.mono H9.out.size))
    clear hb10 H9 hn9 hz9
    go_wp2_with fail
    refine lexVQ_more (Hof.out _ H10.out) ?_
    refine lexV_light 3 (by kernel_rfl) (by rfl) ?_
    simp only [List.take_succ_cons, List.take_zero, List.drop_succ_cons, List.drop_zero]
    repeat (first | go_big_quiet_skip | (go_big_quiet_want; go_big_quiet_op; go_big_quiet_on))
    refine wpQuiet_nil ?_
    refine lexV_heavy (by kernel_rfl) (by kernel_rfl) ?_
    go_wp2_with fail
    change Calls Tryd.prog _ #[_, _, ErrT.nil.val A] _ _
    refine (wrap_c A ⟨#[120]⟩ 1 .nil _).mono ?_
    rintro ev w' ⟨rfl, rfl⟩
    rw [show (wrapE ⟨#[120]⟩ 1 .nil).val A = .nilIface from rfl]
    go_wp2_with fail
    refine lexVQ_more (Hof.out _ H10.out) ?_
    refine lexV_light 3 (by kernel_rfl) (by rfl) ?_
    simp only [List.take_succ_cons, List.take_zero, List.drop_succ_cons, List.drop_zero]
    repeat (first | go_big_quiet_skip | (go_big_quiet_want; go_big_quiet_op; go_big_quiet_on))
    refine wpQuiet_nil ?_
    refine lexV_done ?_
    go_wp2_with fail
    go_ret
    exact ⟨rfl, HBY.out.trans (H10.out.mono HBY.out.size)⟩

end Go.Proofs.YteljpfbfkpdchaaDoor
