/- Pools never hold more than their room; a row that was built is sent. -/
import Derived.Test.YtbefkkefglkleaaDoorFb3
import Derived.Test.YtbefkkefglkleaaDoorCpy
namespace Go.Proofs.YtbefkkefglkleaaDoor
open Go.RowKit Go.Extern.Stop Go.Stop Go.Extern

/-- No pool holds more than so many. -/
def LeF (F : Plc → List MsgV) (m : Nat) : Prop := ∀ q, (F q).length ≤ m
theorem LeF.nil (m : Nat) : LeF (fun _ => []) m := fun _ => Nat.zero_le _
theorem LeF.mono {F : Plc → List MsgV} {m k : Nat} (h : LeF F m) (hk : m ≤ k) : LeF F k := fun q => Nat.le_trans (h q) hk
theorem firstI_inv {t : Nat → Bool} : ∀ (n i : Nat), firstI t n i = none → ∀ j, i ≤ j → j < i + n → t j = false
  | 0, _, _, j, h1, h2 => by omega
  | n + 1, i, h, j, h1, h2 => by
    simp only [firstI] at h
    by_cases ht : t i = true
    · rw [if_pos ht] at h; cases h
    · rw [if_neg ht] at h
      by_cases hj : j = i
      · subst hj; simpa using ht
      · exact firstI_inv n (i + 1) h j (by omega) (by omega)
theorem fits_inv {cores room : Int} {F : Plc → List MsgV} {l : List MsgV} (h : fitsE cores room F l = .nil) : (∀ j, j < l.length → badB cores l j = false) ∧ ∀ j, j < l.length → fullB room F l j = false := by
  unfold fitsE at h
  split at h
  · cases h
  · rename_i h1
    split at h
    · cases h
    · rename_i h2
      exact ⟨fun j hj => firstI_inv _ 0 h1 j (by omega) (by omega), fun j hj => firstI_inv _ 0 h2 j (by omega) (by omega)⟩
theorem full_room {room : Int} {F : Plc → List MsgV} {q : Plc} (hq : ((F q).length : Int) ≤ room) : ∀ (n : Nat) (l : List MsgV), l.length = n → (∀ j, j < l.length → fullB room F l j = false) → ((F q).length : Int) + (cntP l q : Nat) ≤ room
  | 0, l, hn, _ => by
    obtain rfl := List.eq_nil_of_length_eq_zero hn
    simpa [cntP] using hq
  | n + 1, l, hn, h => by
    obtain ⟨l', m, rfl⟩ : ∃ l' m, l = l' ++ [m] := ⟨l.dropLast, l.getLast (by intro e; rw [e] at hn; cases hn), (List.dropLast_concat_getLast _).symm⟩
    have hl : l'.length = n := by simpa using hn
    have ih := full_room hq n l' hl fun j hj => by
      have h1 := h j (by simp; omega)
      unfold fullB at h1 ⊢
      rw [List.getElem?_append_left hj] at h1
      rw [List.take_append_of_le_length (by omega)] at h1
      exact h1
    rw [cntP_append]
    by_cases hm : plM m = q
    · have h1 := h n (by simp; omega)
      unfold fullB at h1
      rw [List.getElem?_append_right (by omega), hl, Nat.sub_self, List.getElem?_cons_zero] at h1
      simp only [hm, decide_eq_false_iff_not] at h1
      rw [List.take_of_length_le (by simp; omega), cntP_append] at h1
      omega
    · simp only [cntP, hm, if_false]
      omega
theorem LeF.send {F : Plc → List MsgV} {m : Nat} (h : LeF F m) (cores : Int) (l : List MsgV) : LeF (sendF cores m F l) m := fun q => by
  rcases fitsE_form cores m F l with hf | ⟨i, k, hf⟩
  · rw [show sendF cores m F l = addM F l by unfold sendF; rw [hf]; rfl, addM_len]
    have := full_room (q := q) (by have := h q; omega) l.length l rfl (fits_inv hf).2
    omega
  · rw [show sendF cores m F l = F by unfold sendF; rw [hf]; rfl]
    exact h q
theorem LeF.take {F : Plc → List MsgV} {m : Nat} (h : LeF F m) (cores p c k : Int) : LeF (takeF cores F p c k) m := fun q => by
  unfold takeF
  split
  · unfold updF
    split
    · next e => rw [← e]; exact Nat.le_trans (List.length_eraseIdx_le ..) (h q)
    · exact h q
  · exact h q

/-- A row in new memory is sent. -/
theorem fbs_sendB (A : Nat → Addr) (w0 : World) (b n : Nat) (cores room : Int) (rn : Nat) (hrn : room = rn) (F : Plc → List MsgV) (K : List Nat) (l : List MsgV) (w : World) (h : FbS w0 b cores room F n K w) (hs : SentAt w0 A) (hK : ∀ q ∈ K, q < w.heap.size) (hl : l.length ≤ 100000) (hF : LeF F rn) (hro : rn ≤ 100000) :
    Calls Tryd.prog 11 #[.pointer (some ⟨b, 0, none⟩), .slice (some ⟨w.heap.size, 0, none⟩) l.length l.length] (w.alloc (.cells (flatM l).toArray 32)) fun ev w' => ev = .returned ((fitsE cores room F l).val A) ∧ FbS w0 b cores room (sendF cores room F l) (n + sentN cores room F l) K w' ∧ Kp K w w' := by
  have hb : Below w.heap.size w (w.alloc (.cells (flatM l).toArray 32)) := (Below.refl _ _).alloc (Nat.le_refl _) _
  have hsz : (w.alloc (.cells (flatM l).toArray 32)).heap.size = w.heap.size + 1 := by simp
  have h1 := (h.add w.heap.size (Nat.le_refl _)).bel hb
  refine (fbs_send A w0 b n cores room F _ _ l _ h1 hs (slc_built w _ 13 l.length (flatM l) (flatM_length l)) (fun q hq => ?_) (fun q hq => ?_) hl (fun q => by have := hF q; omega) (by omega)).mono ?_
  · have := Option.some.inj (show some w.heap.size = some q from hq)
    rw [← this]
    exact List.mem_cons_self ..
  · rcases List.mem_cons.1 hq with e | hq
    · omega
    · have := hK q hq
      omega
  · rintro ev w' ⟨rfl, h2, h3⟩
    exact ⟨rfl, h2.sub fun q hq => List.mem_cons_of_mem _ hq, (Kp.of_below hb).trans (h3.sub fun q hq => List.mem_cons_of_mem _ hq)⟩

end Go.Proofs.YtbefkkefglkleaaDoor
