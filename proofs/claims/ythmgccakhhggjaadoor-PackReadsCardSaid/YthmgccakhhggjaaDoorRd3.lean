/- The reader's Num, In and End. -/
import Derived.Test.YthmgccakhhggjaaDoorRd2
namespace Go.Proofs.YthmgccakhhggjaaDoor
open Go.RowKit Go.Extern.Stop Go.Stop Go.Extern

theorem dec_cnt : ∀ (l : List Nat) (i u U k : Nat), dec i u l = (U, k, none) → k ≤ i + l.length
  | [], i, u, U, k, h => by simp [dec] at h
  | c :: r, i, u, U, k, h => by
    unfold dec at h
    split at h
    · simp at h
    · split at h
      · simp only [Prod.mk.injEq] at h
        simp only [List.length_cons]
        omega
      · have := dec_cnt r (i + 1) _ U k h
        simp only [List.length_cons]
        omega
theorem dec_err : ∀ (l : List Nat) (i u U k s : Nat), dec i u l = (U, k, some s) → U = 0 ∧ k = 0 ∧ (s = 2 ∨ s = 3)
  | [], i, u, U, k, s, h => by simp [dec] at h; omega
  | c :: r, i, u, U, k, s, h => by
    unfold dec at h
    split at h
    · simp at h; omega
    · split at h
      · simp at h
      · exact dec_err r (i + 1) _ U k s h
/-- The next number is one, or there is an error. -/
theorem nxt_or (L : List Nat) (at_ : Nat) (hle : at_ ≤ L.length) : (∃ n a, nxt L at_ = (n, a, .nil) ∧ a ≤ L.length) ∨ ∃ s, nxt L at_ = (0, 0, .sent s) ∧ (s = 2 ∨ s = 3) := by
  cases h : dec 0 0 (L.drop at_) with
  | mk U p =>
    obtain ⟨k, r⟩ := p
    cases r with
    | none =>
      have := dec_cnt _ _ _ _ _ h
      rw [List.length_drop] at this
      exact .inl ⟨unzig U, at_ + k, by simp only [nxt, h], by omega⟩
    | some s => exact .inr ⟨s, by simp only [nxt, h], (dec_err _ _ _ _ _ _ h).2.2⟩

/-- What Num and In answer, where the reader is then, and its error. -/
def stepR (L : List Nat) (at_ : Nat) (e : ErrT) (ok : Int → Bool) : Int × Nat × ErrT :=
  if e.isNil then match nxt L at_ with
    | (n, a, .nil) => if ok n then (n, a, .nil) else (0, at_, .wrap prT at_ (.sent 3))
    | (_, _, .sent k) => (0, at_, .wrap prT at_ (.sent k))
    | _ => (0, at_, e)
  else (0, at_, e)

set_option maxRecDepth 100000 in
set_option maxHeartbeats 4000000 in
theorem rnum_c (A : Nat → Addr) (b : Nat) (v : Value) (L : List Nat) (at_ : Nat) (e : ErrT) (w : World) (hs : SentAt w A) (h : RdAt w A b v L at_ e) :
    Calls Tryd.prog 12 #[.pointer (some ⟨b, 0, none⟩)] w fun ev w' => ev = .returned (.int .i64 (stepR L at_ e fun _ => true).1) ∧ RdAt w' A b v L (stepR L at_ e fun _ => true).2.1 (stepR L at_ e fun _ => true).2.2 ∧ Mods (onlyS b) w w' := by
  have c2 := cell_of h.blk 2
  simp only [List.getElem?_toArray, List.getElem?_cons_zero, List.getElem?_cons_succ] at c2
  have HH := Lib.hid h
  have HS := Lib.hid hs
  clear hs
  cases hn : e.isNil with
  | false =>
    obtain ⟨t2, u2, hev⟩ := e.val_iface A hn
    have hr : stepR L at_ e (fun _ => true) = (0, at_, e) := by unfold stepR; rw [hn]; rfl
    rw [hr]
    rw [hev] at c2
    clear hev hr h
    go_enter Tryd.func12, Tryd.ntmps12
    go_wp2_with fail
    go_ret
    exact ⟨rfl, HH.out, Mods.refl _ _⟩
  | true =>
    obtain rfl : e = .nil := by cases e <;> first | rfl | cases hn
    simp only [ErrT.val] at c2
    have hle := h.le
    clear h
    rcases nxt_or L at_ hle with ⟨n, a, hx, ha⟩ | ⟨s, hx, hs23⟩
    · have hr : stepR L at_ .nil (fun _ => true) = (n, a, .nil) := by simp [stepR, hx, ErrT.isNil]
      rw [hr]
      have HX := Lib.hid hx
      clear hr hx
      go_enter Tryd.func12, Tryd.ntmps12
      go_wp2_with fail
      refine (next_c A b v L at_ .nil w HS.out HH.out).mono ?_
      rintro ev w1 ⟨rfl, hb1⟩
      rw [HX.out]
      have H1 := Lib.hid (HH.out.below hb1)
      have z1 := frozen_of H1.out.blk 1
      have k1 := cell_of H1.out.blk 1
      simp only [List.getElem?_toArray, List.getElem?_cons_zero, List.getElem?_cons_succ] at k1
      rw [show ErrT.nil.val A = .nilIface from rfl]
      clear c2
      go_wp2_with fail
      go_ret
      have hm : Mods (onlyS b) w1 (w1.setCell ⟨b, 1, none⟩ (.int .i64 a)) := (Mods.refl (onlyS b) w1).setCell (p := ⟨b, 1, none⟩) (show onlyS b b from rfl) _
      exact ⟨rfl, H1.out.turn hm (heap_setCell_at H1.out.blk _) ha, (Mods.of_below hb1).trans hm fun _ _ h => h⟩
    · have hr : stepR L at_ .nil (fun _ => true) = (0, at_, .wrap prT at_ (.sent s)) := by simp [stepR, hx, ErrT.isNil]
      rw [hr]
      have HX := Lib.hid hx
      clear hr hx
      go_enter Tryd.func12, Tryd.ntmps12
      go_wp2_with fail
      refine (next_c A b v L at_ .nil w HS.out HH.out).mono ?_
      rintro ev w1 ⟨rfl, hb1⟩
      rw [HX.out]
      have H1 := Lib.hid (HH.out.below hb1)
      rw [show (ErrT.sent s).val A = .iface 97 (.pointer (some (A s))) from rfl]
      clear c2
      go_wp2_with fail
      change Calls Tryd.prog _ #[_, (ErrT.sent s).val A] _ _
      refine (fail_c A b v L at_ .nil s w1 H1.out).mono ?_
      rintro ev w2 ⟨rfl, h2, hm2⟩
      go_wp2_with fail
      go_ret
      exact ⟨rfl, h2, (Mods.of_below hb1).trans hm2 fun _ _ h => h⟩

end Go.Proofs.YthmgccakhhggjaaDoor
