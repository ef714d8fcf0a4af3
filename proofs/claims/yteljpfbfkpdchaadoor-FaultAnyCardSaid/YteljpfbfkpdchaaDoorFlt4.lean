/- The text of a wrapping of a sentinel. -/
import Derived.Test.YteljpfbfkpdchaaDoorFlt3
import Derived.Test.YteljpfbfkpdchaaDoorLex
import Derived.Test.YteljpfbfkpdchaaDoorOpen
import Derived.BigQuiet
import Derived.Lib.Hide
namespace Go.Proofs.YteljpfbfkpdchaaDoor
open Go.RowKit Go.Extern.Stop Go.Stop Go.Extern

theorem errText_c (a : Addr) (s : ByteArray) (w : World) (hc : w.cell? a = some (.string s)) :
    Calls Tryd.prog 83 #[.pointer (some a)] w fun ev w' => ev = .returned (.string s) ∧ w = w' := by
  have hsp := spot_none hc
  obtain ⟨b, off, sp⟩ := a
  simp only at hsp
  subst hsp
  go_enter Tryd.func83, Tryd.ntmps83
  go_wp2_with fail
  go_ret
  exact ⟨rfl, rfl⟩

theorem nMethodErrorE (v : Value) (w : World) : (Go.method 252 120 v "Error").run Tryd.prog w = .ok (83, v) w := by kernel_rfl
theorem nMethodErrorW (v : Value) (w : World) : (Go.method 252 63 v "Error").run Tryd.prog w = .ok (67, v) w := by kernel_rfl

set_option maxRecDepth 100000 in
set_option maxHeartbeats 2000000 in
theorem faultText_c (a : Addr) (s op : ByteArray) (i : Int) (w : World) (hc : w.cell? a = some (.string s)) (ha : a.block < w.heap.size) (hs : s.size ≤ 1000) (hop : op.size ≤ 1000) :
    Calls Tryd.prog 67 #[.agg #[.string op, .int .i64 i, .iface 120 (.pointer (some a))]] w fun ev w' => ev = .returned (.string (op ++ ⟨#[58, 32]⟩ ++ s)) ∧ Below w.heap.size w w' := by
  have mE := nMethodErrorE
  have hB : Below w.heap.size w (w.alloc (.cells #[.string op, .int .i64 i, .iface 120 (.pointer (some a))] 63)) := (Below.refl _ _).alloc (Nat.le_refl _) _
  have hz : (w.alloc (.cells #[.string op, .int .i64 i, .iface 120 (.pointer (some a))] 63)).heap.size = w.heap.size + 1 := by simp
  have hX : (w.alloc (.cells #[.string op, .int .i64 i, .iface 120 (.pointer (some a))] 63)).heap[w.heap.size]? = some (.cells #[.string op, .int .i64 i, .iface 120 (.pointer (some a))] 63) := Array.getElem?_push_size ..
  go_enter Tryd.func67, Tryd.ntmps67
  go_wp2_with fail
  generalize w.alloc (.cells #[.string op, .int .i64 i, .iface 120 (.pointer (some a))] 63) = W at hB hz hX ⊢
  refine wp_region_lexA ⟨[], []⟩ (fun x => Below W.heap.size W x) (by kernel_rfl) (by kernel_rfl) (Below.refl _ _).drew ?_
  intro S hto hof hne
  have x0 : ∀ x : Wd S, x.w.cell? ⟨w.heap.size, 0, none⟩ = some (.string op) := fun x => ((hto x).cell (p := ⟨w.heap.size, 0, none⟩) (by simp only; omega)).trans (by simp [World.cell?, hX])
  have x2 : ∀ x : Wd S, x.w.cell? ⟨w.heap.size, 2, none⟩ = some (.iface 120 (.pointer (some a))) := fun x => ((hto x).cell (p := ⟨w.heap.size, 2, none⟩) (by simp only; omega)).trans (by simp [World.cell?, hX])
  have Hof := Lib.hid hof
  have HZ := Lib.hid hz
  have HX := Lib.hid hX
  have HB := Lib.hid hB
  clear hto hof hz hX hB
  refine lexW_light 5 (by kernel_rfl) ?_
  simp only [List.take_succ_cons, List.take_zero, List.drop_succ_cons, List.drop_zero]
  repeat (first | go_big_quiet_skip | (go_big_quiet_want; go_big_quiet_op; go_big_quiet_on))
  refine wpQuiet_nil ?_
  refine lexW_heavy (by kernel_rfl) ?_
  go_wp2_with fail
  refine (errText_c a s _ ((HB.out.drew.cell ha).trans hc)).mono ?_
  rintro e w' ⟨rfl, rfl⟩
  go_wp2_with fail
  refine lexQ_more (Hof.out _ (Below.refl _ _).drew) ?_
  refine lexW_light 2 (by kernel_rfl) ?_
  simp only [List.take_succ_cons, List.take_zero, List.drop_succ_cons, List.drop_zero]
  repeat (first | go_big_quiet_skip | (go_big_quiet_want; go_big_quiet_op; go_big_quiet_on))
  refine wpQuiet_nil ?_
  refine lexW_done ?_
  go_wp2_with fail
  go_ret
  exact ⟨rfl, HB.out.drew⟩

end Go.Proofs.YteljpfbfkpdchaaDoor
