/- assentkeep.Only; '== nil', '!= nil' at an error. -/
import Derived.Test.YtbefkkefglkleaaDoorErr6
namespace Go.Proofs.YtbefkkefglkleaaDoor
open Go.RowKit Go.Extern.Stop Go.Stop Go.Extern

theorem eqlNil (A : Nat → Addr) (e : ErrT) (w : World) : (binOp .eql 24 (e.val A) .nilIface).run Tryd.prog w = .ok (.bool e.isNil) w := by
  cases e with
  | nil => simp only [ErrT.val, ErrT.isNil]; kernel_rfl
  | sent k => exact run_eql_iface_nil (P := Tryd.prog) (w := w) 24 (by kernel_rfl) _ _
  | wrap op i e => exact run_eql_iface_nil (P := Tryd.prog) (w := w) 24 (by kernel_rfl) _ _
theorem neqNil (A : Nat → Addr) (e : ErrT) (w : World) : (binOp .neq 24 (e.val A) .nilIface).run Tryd.prog w = .ok (.bool !e.isNil) w := by
  cases e with
  | nil => simp only [ErrT.val, ErrT.isNil]; kernel_rfl
  | sent k => exact run_neq_iface_nil (P := Tryd.prog) (w := w) 24 (by kernel_rfl) _ _
  | wrap op i e => exact run_neq_iface_nil (P := Tryd.prog) (w := w) 24 (by kernel_rfl) _ _

theorem eqGuardNil (A : Nat → Addr) (e : ErrT) (op : BinOp) (x : Operand) (c : Value) (w : World) : (eqGuard op 24 x (.const c) (e.val A) .nilIface).run Tryd.prog w = .ok () w := by
  cases e <;> cases op <;> simp [eqGuard, ErrT.val]

def onlyK (e : ErrT) (code : Int) : Bool := (e.code : Int) == code

set_option maxHeartbeats 1000000 in
theorem only_c (A : Nat → Addr) (e : ErrT) (code : Int) (w : World) (hs : SentAt w A) (hw : e.wf) (h1 : 0 ≤ code) (h2 : code ≤ 10) :
    Calls Tryd.prog 21 #[e.val A, .int .i64 code] w fun ev w' => ev = .returned (.bool (onlyK e code)) ∧ Below w.heap.size w w' := by
  have HE := Lib.hid (fun w => eqlNil A e w)
  have hnc : e.isNil = true ↔ e.code = 0 := by
    refine ⟨fun h => (by cases e <;> first | rfl | cases h), fun h => ?_⟩
    cases hn : e.isNil with
    | true => rfl
    | false => exact absurd (ErrT.code_pos hw hn).1 (by omega)
  have HN := Lib.hid hnc
  have HG := Lib.hid (fun op x y w => eqGuardNil A e op x y w)
  have HS := Lib.hid hs
  have HW := Lib.hid hw
  clear hnc hs hw
  generalize hv : e.val A = v at HE HG ⊢
  have HV := Lib.hid hv
  clear hv
  go_enter Tryd.func21, Tryd.ntmps21
  go_wp2_with fail
  go_loopw [5] (fun i wr => ∃ c : Nat, 1 ≤ c ∧ c ≤ 11 ∧ i = .int .i64 c ∧ (∀ d : Nat, 1 ≤ d → d < c → ((e.code : Int) == d) = ((d : Int) == code)) ∧ Below w.heap.size w wr) (fun i _ => 11 - (intOf i).toNat)
  case atStart => exact ⟨1, by omega, by omega, rfl, fun d hd hd' => by omega, Below.refl _ _⟩
  case round =>
    obtain ⟨c, hc1, hc11, rfl, hall, hB⟩ := hrel
    have HALL := Lib.hid hall
    clear hall
    by_cases hc : c ≤ 10
    · go_wp2_with fail
      refine (error_c A wr (HS.out.below hB) (c : Int) (by omega) (by omega)).mono ?_
      rintro ev w' ⟨rfl, rfl⟩
      go_wp2_with fail
      rw [← HV.out]
      refine (errIs A e ((c : Int).toNat - 1) w' (HS.out.below hB) HW.out (by omega)).mono ?_
      rintro ev w2 ⟨rfl, hB2⟩
      have hB3 := hB.trans (hB2.mono hB.size)
      have hbe : isB e ((c : Int).toNat - 1) = ((e.code : Int) == c) := by
        unfold isB
        rw [Bool.eq_iff_iff]
        simp only [decide_eq_true_eq, beq_iff_eq]
        omega
      rw [hbe, HV.out]
      clear hbe hB hB2
      cases hd : (!(((e.code : Int) == c) == ((c : Int) == code))) with
      | true =>
        go_wp2_with fail
        go_ret
        refine ⟨?_, hB3⟩
        have : onlyK e code = false := by
          unfold onlyK
          rw [← Bool.not_eq_true, beq_iff_eq]
          intro h
          rw [h, Bool.not_eq_true', beq_eq_false_iff_ne] at hd
          exact hd (by rw [Bool.eq_iff_iff, beq_iff_eq, beq_iff_eq]; omega)
        rw [this]
        rfl
      | false =>
        go_wp2_with fail
        go_roundw
        case rel =>
          refine ⟨c + 1, by omega, by omega, by go_num, fun d h1 h2 => ?_, hB3⟩
          rcases Nat.lt_succ_iff_lt_or_eq.1 h2 with h | rfl
          · exact HALL.out d h1 h
          · exact beq_iff_eq.1 (by simpa using hd)
        case measure => simp [intOf]; omega
    · have hc' : c = 11 := by omega
      subst hc'
      have hk : (e.code : Int) = code := by
        by_cases h0 : code = 0
        · subst h0
          rcases Nat.eq_zero_or_pos e.code with h | h
          · omega
          · exfalso
            have hle : e.code ≤ 10 := by
              cases hn : e.isNil with
              | true => have := HN.out.1 hn; omega
              | false => exact (ErrT.code_pos HW.out hn).2
            have := HALL.out e.code h (by omega)
            simp at this
            omega
        · have := HALL.out code.toNat (by omega) (by omega)
          rw [show ((code.toNat : Nat) : Int) = code by omega] at this
          simp at this
          exact this
      have hres : (e.isNil == (code == 0)) = true := by
        rw [beq_iff_eq, Bool.eq_iff_iff, HN.out, beq_iff_eq]
        omega
      have hnil := HE.out
      have HK := Lib.hid hk
      clear hk
      have hgd := HG.out
      go_wp2_with fail
      go_ret
      refine ⟨?_, hB⟩
      rw [onlyK, HK.out]
      simp

end Go.Proofs.YtbefkkefglkleaaDoor
