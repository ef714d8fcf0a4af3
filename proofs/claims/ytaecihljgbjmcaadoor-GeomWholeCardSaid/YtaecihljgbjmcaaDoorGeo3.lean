/- geom.Total. -/
import Derived.Test.YtaecihljgbjmcaaDoorGeo2
namespace Go.Proofs.YtaecihljgbjmcaaDoor
open Go.RowKit

def totalF (g : Nat → Int) : Int := match badAt g with
  | none => g 1 * 4
  | some _ => 0

set_option maxHeartbeats 1000000 in
theorem gtotal (A : Nat → Addr) (g : Nat → Int) (w : World) (hs : SentAt w A) :
    Calls Tryd.prog 29 #[cfgV g] w fun e w' => e = .returned (.int .i64 (totalF g)) ∧ Below w.heap.size w w' := by
  have hs1 : Below w.heap.size w (w.alloc (cfgO g)) := (Below.refl _ _).alloc (Nat.le_refl _) _
  have hz : (w.alloc (cfgO g)).heap.size = w.heap.size + 1 := by simp
  have hc : (w.alloc (cfgO g)).cell? ⟨w.heap.size, 1, none⟩ = some (.int .i64 (g 1)) := by
    rw [cfgO, World.cell?_alloc_new]
    rfl
  simp only [cfgV]
  unfold cfgO at hc hs1 hz
  go_enter Tryd.func29, Tryd.ntmps29
  go_wp2_with fail
  generalize w.alloc (.cells #[.int .i64 (g 0), .int .i64 (g 1), .int .i64 (g 2), .int .i64 (g 3), .int .i64 (g 4), .int .i64 (g 5), .int .i64 (g 6), .int .i64 (g 7), .int .i64 (g 8)] 42) = W at hc hs1 hz ⊢
  have HZ := Lib.hid hz
  clear hz
  refine (gcheck A g W (hs.below hs1)).mono ?_
  rintro e w2 ⟨rfl, hB2⟩
  have hB : Below w.heap.size w w2 := hs1.trans (hB2.mono (by have := HZ.out; omega))
  have hc2 := (hB2.cell (p := ⟨w.heap.size, 1, none⟩) (by have := HZ.out; simp only; omega)).trans hc
  have HB := Lib.hid hB
  clear hB hB2 hc hs1 hs
  unfold cfgErr
  cases hb : badAt g with
  | none =>
    have hl := inR_iff.1 (badAt_none_iff.1 hb 1 (by omega))
    have HD := Lib.hid hb
    clear hb
    simp only [ErrT.val]
    go_wp2_with fail
    go_ret
    exact ⟨by rw [totalF, HD.out]; rfl, HB.out⟩
  | some i =>
    have HD := Lib.hid hb
    clear hb
    have hnil := fun w => run_neq_iface_nil (P := Tryd.prog) (w := w) 24 (by kernel_rfl) 74 (.agg #[.string gcT, .int .i64 i, (ErrT.sent 0).val A])
    simp only [ErrT.val] at hnil ⊢
    go_wp2_with fail
    go_ret
    exact ⟨by rw [totalF, HD.out]; rfl, HB.out⟩

end Go.Proofs.YtaecihljgbjmcaaDoor
