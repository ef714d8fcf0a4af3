/- errors.Is, at the errors of this program. -/
import Derived.Test.YtbefkkefglkleaaDoorErr1
namespace Go.Proofs.YtbefkkefglkleaaDoor
open Go.RowKit Go.Extern.Stop Go.Stop Go.Extern

/-- Does errors.Is find a sentinel? -/
def isB (e : ErrT) (c : Nat) : Bool := decide (e.code = c + 1)

set_option maxHeartbeats 1000000 in
theorem errIsC (A : Nat → Addr) (K : Nat → Prop) (e : ErrT) (c : Nat) (w : World) (hs : SentC w A K) (hw : e.wf) (hr : e.rootIn K) (hc : K c) :
    Calls Tryd.prog 33 #[e.val A, (ErrT.sent c).val A] w fun ev w' => ev = .returned (.bool (isB e c)) ∧ Below w.heap.size w w' := by
  cases hn : e.isNil with
  | true =>
    obtain rfl : e = .nil := by cases e <;> first | rfl | cases hn
    have hn := run_eql_iface_nil_left (P := Tryd.prog) w 116 (.pointer (some (A c))) Tryd.underlying24
    simp only [ErrT.val]
    go_enter Tryd.func33, Tryd.ntmps33
    go_wp2
    go_ret
    exact ⟨by simp [isB, ErrT.code], Below.refl _ _⟩
  | false =>
    have h8 := nCallTypeOf
    have h32 := nCallComparable
    have tT := nIsTypeOf
    have cT := nIsComparable
    have mR := nIsMethodComparable
    have nE := nNoIsE
    have uE := nNoUnwrapE
    have vE := nNoUnwrapsE
    have nW := nNoIsW
    have uW := nHasUnwrapW
    have mU := nMethodUnwrap
    obtain ⟨te, ue, hev⟩ := e.val_iface A hn
    have hcv : (ErrT.sent c).val A = .iface 116 (.pointer (some (A c))) := rfl
    have HE := Lib.hid hev
    rw [hev, hcv]
    clear hev hcv
    go_enter Tryd.func33, Tryd.ntmps33
    go_wp2_with fail
    go_enter Tryd.func42, Tryd.ntmps42
    rw [← HE.out]
    clear HE
    go_wp2_with fail
    go_loopg [0] e.depth (fun g s0 wr => ∃ e' : ErrT, g = e'.depth ∧ s0 = e'.val A ∧ e'.wf ∧ e'.rootIn K ∧ e'.isNil = false ∧ e'.code = e.code ∧ Below w.heap.size w wr)
    case atStart => exact ⟨e, rfl, rfl, hw, hr, hn, rfl, Below.refl _ _⟩
    case round =>
      obtain ⟨e', rfl, rfl, hw', hr', hn', hcode, hB⟩ := hrel
      have HC := Lib.hid hcode
      clear hcode hn hw
      cases e' with
      | nil => cases hn'
      | sent k =>
        have hs' := hs.below hB
        have heq := eql_sentC hs' (j := k) (k := c) hr' hc
        simp only [ErrT.val]
        by_cases hk : k = c
        · subst hk
          simp only [decide_true] at heq
          go_wp2_with fail
          go_ret
          exact ⟨by simp [isB, ← HC.out, ErrT.code], hB⟩
        · simp only [hk, decide_false] at heq
          go_wp2_with fail
          go_ret
          exact ⟨by simp [isB, ← HC.out, ErrT.code, hk], hB⟩
      | wrap op i e2 =>
        have hty := run_eql_iface_types (P := Tryd.prog) 75 116 (.agg #[.string op, .int .i64 i, e2.val A]) (.pointer (some (A c))) Tryd.underlying24 (by decide) wr
        obtain ⟨t2, u2, hev2⟩ := e2.val_iface A hw'.1
        have HE := Lib.hid hev2
        simp only [ErrT.val]
        rw [hev2] at hty ⊢
        clear hev2
        go_wp2_with fail
        refine (unwrap_any op i _ _ ⟨_, _, rfl⟩).mono ?_
        rintro ev w2 ⟨rfl, hB2⟩
        have hB3 := hB.trans (hB2.mono hB.size)
        have hnil := run_eql_iface_nil (P := Tryd.prog) (w := w2) 24 (by kernel_rfl) t2 u2
        go_wp2_with fail
        go_roundg e2.depth
        case measure => simp [ErrT.depth]
        case rel => exact ⟨e2, rfl, HE.out.symm, hw'.2, hr', hw'.1, HC.out, hB3⟩

theorem errIs (A : Nat → Addr) (e : ErrT) (c : Nat) (w : World) (hs : SentAt w A) (hw : e.wf) (hc : c < 10) :
    Calls Tryd.prog 33 #[e.val A, (ErrT.sent c).val A] w fun ev w' => ev = .returned (.bool (isB e c)) ∧ Below w.heap.size w w' :=
  errIsC A _ e c w hs.core hw (ErrT.rootIn_wf hw) hc

end Go.Proofs.YtbefkkefglkleaaDoor
