/- errors.Unwrap and fault.way: an error, and what it wraps, step by step. -/
import Derived.Test.YtpljdbcifaeblaaDoorErr7
import Derived.Deep.AppendLies
import Derived.Great.BuildSlice
import Derived.BigCall
namespace Go.Proofs.YtpljdbcifaeblaaDoor
open Go.RowKit Go.Extern.Stop Go.Stop Go.Extern

def ErrT.unw : ErrT → ErrT
  | .wrap _ _ e => e
  | _ => .nil
def ErrT.chain : ErrT → List ErrT
  | .nil => []
  | .sent k => [.sent k]
  | .wrap o i e => .wrap o i e :: e.chain
theorem ErrT.chain_length (e : ErrT) : e.chain.length = e.depth := by
  induction e with
  | nil => rfl
  | sent k => rfl
  | wrap o i e ih => simp only [ErrT.chain, ErrT.depth, List.length_cons, ih]
theorem ErrT.chain_cons {e : ErrT} (h : e.isNil = false) : e.chain = e :: e.unw.chain := by
  cases e with
  | nil => cases h
  | sent k => rfl
  | wrap o i e => rfl
theorem ErrT.depth_unw {e : ErrT} (h : e.isNil = false) : e.depth = e.unw.depth + 1 := by
  cases e with
  | nil => cases h
  | sent k => rfl
  | wrap o i e => rfl
theorem ErrT.unw_wf {e : ErrT} (h : e.wf) : e.unw.wf := by
  cases e with
  | nil => trivial
  | sent k => trivial
  | wrap o i e => exact h.2

set_option maxHeartbeats 1000000 in
theorem unwrap_c (A : Nat → Addr) (e : ErrT) (w : World) (hn : e.isNil = false) (hw : e.wf) :
    Calls Tryd.prog 66 #[e.val A] w fun ev w' => ev = .returned (e.unw.val A) ∧ Below w.heap.size w w' := by
  have uE := nNoUnwrapE
  have uW := nHasUnwrapW
  have mU := nMethodUnwrap
  cases e with
  | nil => cases hn
  | sent k =>
    simp only [ErrT.val, ErrT.unw]
    go_enter Tryd.func66, Tryd.ntmps66
    go_wp2_with fail
    go_ret
    exact ⟨rfl, Below.refl _ _⟩
  | wrap op i e2 =>
    obtain ⟨t2, u2, hev2⟩ := e2.val_iface A hw.1
    simp only [ErrT.val, ErrT.unw]
    rw [hev2]
    clear hev2
    go_enter Tryd.func66, Tryd.ntmps66
    go_wp2_with fail
    refine (unwrap_any op i _ _ ⟨_, _, rfl⟩).mono ?_
    rintro ev w2 ⟨rfl, hB2⟩
    go_wp2_with fail
    go_ret
    exact ⟨rfl, hB2⟩

theorem owns_below {w w' : World} {base : Nat} {e : TypeId} {size : Nat} {v : Value} {n : Nat} {xs : List Value} (h : w.ownsRow base e size v n xs) (hb : Below w.heap.size w w') : w'.ownsRow base e size v n xs := by
  obtain ⟨h1, h2⟩ := h
  refine ⟨h1, ?_⟩
  rcases h2 with h2 | ⟨g, cap, cur, hv, hg, hh, r⟩
  · exact .inl h2
  · exact .inr ⟨g, cap, cur, hv, hg, by rw [hb.block _ (Array.getElem?_eq_some_iff.1 hh).1]; exact hh, r⟩

theorem nInfoErr : (Tryd.prog.info? 24).map (fun i => (i.zero, i.size, i.bytes)) = some (some .nilIface, 1, 16) := by kernel_rfl

set_option maxRecDepth 100000 in
set_option maxHeartbeats 2000000 in
theorem way_c (A : Nat → Addr) (e : ErrT) (w : World) (hw : e.wf) (hd : e.depth ≤ 1000) :
    Calls Tryd.prog 49 #[e.val A] w fun ev w' => ∃ v, ev = .returned v ∧ w'.ownsRow w.heap.size 24 1 v e.chain.length (e.chain.map (·.val A)) ∧ Below w.heap.size w w' := by
  obtain ⟨i0, hi0, hi1⟩ := Option.map_eq_some_iff.1 nInfoErr
  simp only [Prod.mk.injEq] at hi1
  obtain ⟨hz0, hz1, hz2⟩ := hi1
  have HI := Lib.hid hi0
  have HZ0 := Lib.hid hz0
  have HZ1 := Lib.hid hz1
  have HZ2 := Lib.hid hz2
  have HW := Lib.hid hw
  have hclen := e.chain_length
  have HL := Lib.hid hclen
  clear hi0 hz0 hz1 hz2 hw hclen
  go_enter Tryd.func49, Tryd.ntmps49
  go_wp2_with fail
  go_loopg [0, 3] e.depth (fun g s0 s3 wr => ∃ (e' : ErrT) (pre : List ErrT), g = e'.depth ∧ s0 = e'.val A ∧ e.chain = pre ++ e'.chain ∧ e'.wf ∧ wr.ownsRow w.heap.size 24 1 s3 pre.length (pre.map (·.val A)) ∧ Below w.heap.size w wr)
  case atStart => exact ⟨e, [], rfl, rfl, rfl, HW.out, ⟨by simp, .inl ⟨rfl, rfl⟩⟩, Below.refl _ _⟩
  case round =>
    obtain ⟨e', pre, rfl, rfl, hch, hw', hown, hB⟩ := hrel
    have HCH := Lib.hid hch
    have HW' := Lib.hid hw'
    have HOWN := Lib.hid hown
    clear hch hw' hown
    have hneq := fun w => neqNil A e' w
    have hgd := fun op x c w => eqGuardNil A e' op x c w
    cases hn : e'.isNil with
    | true =>
      simp only [hn] at hneq
      generalize hv : e'.val A = v at *
      go_wp2_with fail
      go_ret
      have hnil : e' = .nil := by cases e' <;> first | rfl | cases hn
      refine ⟨_, rfl, ?_, hB⟩
      have := HCH.out
      rw [hnil] at this
      simp only [ErrT.chain, List.append_nil] at this
      rw [this]
      exact HOWN.out
    | false =>
      obtain ⟨t2, u2, hev⟩ := e'.val_iface A hn
      have hnil := fun w => run_neq_iface_nil (P := Tryd.prog) (w := w) 24 (by kernel_rfl) t2 u2
      clear hneq hgd
      have HV := Lib.hid hev
      rw [hev]
      clear hev
      have HI := Lib.hid HI.out
      have hpl : pre.length ≤ 1000 := by
        have h1 := HL.out
        rw [HCH.out, List.length_append] at h1
        omega
      have HPL := Lib.hid hpl
      clear hpl
      go_wp2_with (at_builtin; refine wpList_append_lies _ rfl _ _ 85 rfl w.heap.size 24 i0 .nilIface 1 16 Tryd.underlying85 HI.out HZ0.out HZ1.out HZ2.out rfl (by decide) _ _ _ rfl (HOWN.out.alloc _) ⟨wr.heap.size, 0, none⟩ 1 1 [.iface t2 u2] rfl rfl (cell_one_new _ _ _) (fun x hx => by simp at hx; subst hx; rfl) (by omega) (by have := HPL.out; unfold maxLen; omega) (by have := HPL.out; omega) (by have := hB.size; simp; omega) _ rfl ?_; intro g cap w3 hown3 hgrow3 hat3 hlt3)
      have hB3 : Below w.heap.size w w3 := (hB.alloc hB.size _).grown hgrow3 (by have := hB.size; simp; omega) (fun q hq => (HOWN.out.lt q hq).1)
      rw [← HV.out]
      refine (unwrap_c A e' w3 hn HW'.out).mono ?_
      rintro ev w4 ⟨rfl, hB4⟩
      have hown4 := owns_below hown3 hB4
      have hB5 := hB3.trans (hB4.mono hB3.size)
      clear hown3 hgrow3 hat3 hB3 hB4
      go_wp2_with fail
      go_roundg e'.unw.depth
      case measure => have := e'.depth_unw hn; omega
      case rel =>
        refine ⟨e'.unw, pre ++ [e'], rfl, rfl, ?_, ErrT.unw_wf HW'.out, ?_, hB5⟩
        · rw [HCH.out, ErrT.chain_cons hn]
          simp
        · simp only [List.length_append, List.length_cons, List.length_nil, Nat.zero_add, List.map_append, List.map_cons, List.map_nil, HV.out]
          exact hown4

end Go.Proofs.YtpljdbcifaeblaaDoor
