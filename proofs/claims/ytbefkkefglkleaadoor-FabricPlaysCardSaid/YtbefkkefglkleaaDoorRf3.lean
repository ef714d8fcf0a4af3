/- The document's fabric with one row turned. -/
import Derived.Test.YtbefkkefglkleaaDoorRf2
namespace Go.Proofs.YtbefkkefglkleaaDoor
open Go.RowKit Go.Extern.Stop Go.Stop Go.Extern

def updV (V : Nat → Nat → Value) (p0 c0 : Nat) (v : Value) : Nat → Nat → Value := fun p c => if p = p0 ∧ c = c0 then v else V p c
theorem map_upd (V : Nat → Nat → Value) (p0 c0 n : Nat) (v : Value) : (List.range n).map (updV V p0 c0 v p0) = ((List.range n).map (V p0)).set c0 v := by
  apply List.ext_getElem?
  intro j
  rw [List.getElem?_set, List.getElem?_map, List.getElem?_map, List.length_map, List.length_range]
  by_cases hj : j < n
  · rw [List.getElem?_range hj]
    by_cases hc : c0 = j
    · rw [if_pos hc, if_pos (by omega)]
      simp [updV, hc]
    · rw [if_neg hc]
      have : ¬ j = c0 := fun e => hc e.symm
      simp [updV, this]
  · have h1 : (List.range n)[j]? = none := List.getElem?_eq_none (by simpa using hj)
    rw [h1]
    by_cases hc : c0 = j
    · rw [if_pos hc, if_neg (by omega)]
      rfl
    · rw [if_neg hc]
      rfl
theorem map_far (V : Nat → Nat → Value) (p0 c0 n p : Nat) (v : Value) (hp : p ≠ p0) : (List.range n).map (updV V p0 c0 v p) = (List.range n).map (V p) := by
  refine List.map_congr_left fun c _ => ?_
  simp [updV, hp]
section
variable {w0 w w1 : World} {n : Nat} {X : Nat → Value} {V : Nat → Nat → Value} {F : Plc → List MsgV}
/-- What a call leaves. -/
def RfPost (w0 : World) (n : Nat) (X : Nat → Value) (V : Nat → Nat → Value) (F' : Plc → List MsgV) (w w' : World) : Prop :=
  ∃ V', RfB w0 n X V' F' w' ∧ Mods (RfOwn n X V) w w' ∧ ∀ q, RfOwn n X V' q → RfOwn n X V q ∨ w.heap.size ≤ q
theorem RfB.put (h : RfB w0 n X V F w) {p0 c0 g off cap : Nat} (hp0 : p0 < 4) (hc0 : c0 < n) (hX : X p0 = .slice (some ⟨g, off, none⟩) n cap) {v : Value} {L : List MsgV}
    (hM : Mods (fun q => (V p0 c0).ownBlock = some q) w w1) (hrow : winRow w1 w0.heap.size 32 13 v L.length (flatM L)) (hv : ∀ q, v.ownBlock = some q → (V p0 c0).ownBlock = some q ∨ w.heap.size ≤ q) :
    RfPost w0 n X V (updF F ((p0 : Int), (c0 : Int)) L) w (w1.setCell ⟨g, off + c0, none⟩ v) := by
  have hXg : (X p0).ownBlock = some g := by rw [hX]; rfl
  have hg := (h.lst p0 hp0).lt g hXg
  have hvg : ∀ q, v.ownBlock = some q → q ≠ g := fun q hq e => by
    rcases hv q hq with h1 | h1
    · exact h.xv p0 p0 c0 hp0 hp0 hc0 g hXg (by rw [← e]; exact h1)
    · omega
  have hM2 : Mods (fun q => q = g ∨ (V p0 c0).ownBlock = some q) w (w1.setCell ⟨g, off + c0, none⟩ v) := by
    have h1 : Mods (fun q => q = g ∨ (V p0 c0).ownBlock = some q) w w1 := ⟨hM.os, hM.tape, hM.output, hM.size, fun k hk hn => hM.block k hk fun e => hn (.inr e)⟩
    exact h1.setCell (p := ⟨g, off + c0, none⟩) (.inl rfl) v
  have hown : ∀ p c q, p < 4 → c < n → (updV V p0 c0 v p c).ownBlock = some q → (V p c).ownBlock = some q ∨ (p = p0 ∧ c = c0 ∧ w.heap.size ≤ q) := fun p c q hp hc hq => by
    unfold updV at hq
    by_cases e : p = p0 ∧ c = c0
    · rw [if_pos e] at hq
      rcases hv q hq with h1 | h1
      · left; rw [e.1, e.2]; exact h1
      · exact .inr ⟨e.1, e.2, h1⟩
    · rw [if_neg e] at hq
      exact .inl hq
  have hsz : ∀ p, p < 4 → ∀ q, (X p).ownBlock = some q → q < w.heap.size := fun p hp q hq => ((h.lst p hp).lt q hq).2
  have hvz : ∀ p c, p < 4 → c < n → ∀ q, (V p c).ownBlock = some q → q < w.heap.size := fun p c hp hc q hq => ((h.row p c hp hc).lt q hq).2
  refine ⟨updV V p0 c0 v, ⟨fun p hp => ?_, fun p c hp hc => ?_, h.xx, fun p p' c hp hp' hc q hq hq' => ?_, fun p c p' c' hp hc hp' hc' hne q hq hq' => ?_, h.below.trans (hM2.below h.below.size fun q hq => ?_)⟩, ⟨hM2.os, hM2.tape, hM2.output, hM2.size, fun k hk hn => hM2.block k hk fun e => ?_⟩, fun q hq => ?_⟩
  · by_cases hpp : p = p0
    · subst hpp
      rw [map_upd]
      have h1 : winRow w1 w0.heap.size 44 1 (X p) n ((List.range n).map (V p)) := (h.lst p hp).keep fun q hq => hM.block q (hsz p hp q hq) (h.xv p p c0 hp hp hc0 q hq)
      exact h1.set hX c0 (by omega) v
    · rw [map_far _ _ _ _ _ _ hpp]
      refine (h.lst p hp).keep fun q hq => hM2.block q (hsz p hp q hq) fun e => ?_
      rcases e with e | e
      · exact h.xx p p0 hp hp0 hpp q hq (by rw [e]; exact hXg)
      · exact h.xv p p0 c0 hp hp0 hc0 q hq e
  · by_cases e : p = p0 ∧ c = c0
    · obtain ⟨rfl, rfl⟩ := e
      have e1 : updV V p c v p c = v := if_pos ⟨rfl, rfl⟩
      have e2 : updF F ((p : Int), (c : Int)) L ((p : Int), (c : Int)) = L := if_pos rfl
      rw [e1, e2]
      exact hrow.keep fun q hq => Below.heap_setCell _ _ _ _ (hvg q hq)
    · have e1 : updV V p0 c0 v p c = V p c := if_neg e
      have e2 : updF F ((p0 : Int), (c0 : Int)) L ((p : Int), (c : Int)) = F ((p : Int), (c : Int)) := if_neg fun e' => by
        have h1 := (Prod.mk.inj e').1
        have h2 := (Prod.mk.inj e').2
        exact e ⟨by omega, by omega⟩
      rw [e1, e2]
      refine (h.row p c hp hc).keep fun q hq => hM2.block q (hvz p c hp hc q hq) fun e' => ?_
      rcases e' with e' | e'
      · exact h.xv p0 p c hp0 hp hc g hXg (by rw [← e']; exact hq)
      · exact h.vv p c p0 c0 hp hc hp0 hc0 (by
          by_cases h1 : p = p0
          · right; intro h2; exact e ⟨h1, h2⟩
          · exact .inl h1) q hq e'
  · rcases hown p' c q hp' hc hq' with e | ⟨_, _, e⟩
    · exact h.xv p p' c hp hp' hc q hq e
    · have := hsz p hp q hq
      omega
  · rcases hown p c q hp hc hq with e | ⟨e1, e2, e⟩
    · rcases hown p' c' q hp' hc' hq' with e' | ⟨_, _, e'⟩
      · exact h.vv p c p' c' hp hc hp' hc' hne q e e'
      · have := hvz p c hp hc q e
        omega
    · rcases hown p' c' q hp' hc' hq' with e' | ⟨e3, e4, _⟩
      · have := hvz p' c' hp' hc' q e'
        omega
      · rcases hne with hne | hne
        · exact hne (by rw [e1, e3])
        · exact hne (by rw [e2, e4])
  · rcases hq with e | e
    · rw [e]; exact hg.1
    · exact ((h.row p0 c0 hp0 hc0).lt q e).1
  · exact hn (e.elim (fun e => .inl ⟨p0, hp0, by rw [e]; exact hXg⟩) fun e => .inr ⟨p0, c0, hp0, hc0, e⟩)
  · rcases hq with ⟨p, hp, e⟩ | ⟨p, c, hp, hc, e⟩
    · exact .inl (.inl ⟨p, hp, e⟩)
    · rcases hown p c q hp hc e with e | ⟨_, _, e⟩
      · exact .inl (.inr ⟨p, c, hp, hc, e⟩)
      · exact .inr e
theorem RfPost.bel {F' : Plc → List MsgV} {w' wx : World} (h : RfPost w0 n X V F' w' wx) (hb : Below w.heap.size w w') : RfPost w0 n X V F' w wx := by
  obtain ⟨V', h1, h2, h3⟩ := h
  exact ⟨V', h1, (Mods.of_below (S := RfOwn n X V) hb).trans h2 fun _ _ e => e, fun q hq => (h3 q hq).imp id fun e => Nat.le_trans hb.size e⟩
theorem RfH.post {b : Nat} {room : Int} {F' : Plc → List MsgV} {w' : World} (h : RfH b n room X w) (hb : ¬ RfOwn n X V b) (hp : RfPost w0 n X V F' w w') : RfH b n room X w' := by
  obtain ⟨V', _, h2, _⟩ := hp
  exact (h2.block b h.lt hb).trans h
end
/-- The answer's code and place. -/
def codeE : ErrT → Int
  | .wrap _ _ (.sent k) => (k : Int) + 1
  | _ => 0
def atE : ErrT → Int
  | .wrap _ i _ => i
  | _ => 0

end Go.Proofs.YtbefkkefglkleaaDoor
