/- The fabric with one row turned. -/
import Derived.Test.YtbefkkefglkleaaDoorFa2
namespace Go.Proofs.YtbefkkefglkleaaDoor
open Go.RowKit Go.Extern.Stop Go.Stop Go.Extern

def updF (F : Plc → List MsgV) (k : Plc) (l : List MsgV) : Plc → List MsgV := fun q => if q = k then l else F q
theorem getV_put (z : Value) (k : Plc) (v : Value) : ∀ (E : List (Plc × Value)) (q : Plc), getV z (putV E k v) q = if q = k then v else getV z E q
  | [], q => by simp [putV, getV]
  | x :: E, q => by
    simp only [putV]
    by_cases h : k = x.1
    · simp only [h, if_true, getV]
      by_cases hq : q = x.1 <;> simp [hq]
    · simp only [h, if_false, getV, getV_put z k v E q]
      by_cases hq : q = x.1
      · have hqk : ¬ q = k := fun e => h (e ▸ hq)
        rw [if_pos hq, if_neg hqk, if_pos hq]
      · simp [hq]
theorem keys_put (k : Plc) (v : Value) : ∀ (E : List (Plc × Value)), (putV E k v).map (·.1) = if k ∈ E.map (·.1) then E.map (·.1) else E.map (·.1) ++ [k]
  | [] => by simp [putV]
  | x :: E => by
    simp only [putV]
    by_cases h : k = x.1
    · simp [h]
    · simp only [h, if_false, List.map_cons, keys_put k v E, List.mem_cons, false_or]
      split <;> simp
theorem nodup_put {E : List (Plc × Value)} (k : Plc) (v : Value) (h : (E.map (·.1)).Nodup) : ((putV E k v).map (·.1)).Nodup := by
  rw [keys_put]
  split
  · exact h
  · next hk => exact List.nodup_append.2 ⟨h, by simp, fun a ha b hb e => by simp only [List.mem_singleton] at hb; exact hk (by rw [← hb, ← e]; exact ha)⟩
theorem getV_absent (z : Value) (k : Plc) : ∀ (E : List (Plc × Value)), k ∉ E.map (·.1) → getV z E k = z
  | [], _ => rfl
  | x :: E, h => by
    simp only [List.map_cons, List.mem_cons, not_or] at h
    simp only [getV, h.1, if_false]
    exact getV_absent z k E h.2
theorem tot_far (F : Plc → List MsgV) (k : Plc) (l : List MsgV) : ∀ (E : List (Plc × Value)), k ∉ E.map (·.1) → totF E (updF F k l) = totF E F
  | [], _ => rfl
  | x :: E, h => by
    simp only [List.map_cons, List.mem_cons, not_or] at h
    have ih := tot_far F k l E h.2
    simp only [totF, List.map_cons, List.sum_cons] at ih ⊢
    rw [ih]
    have e1 : (updF F k l x.1).length = (F x.1).length := by
      unfold updF
      rw [if_neg fun e => h.1 e.symm]
    rw [e1]
theorem tot_put (F : Plc → List MsgV) (k : Plc) (v : Value) (l : List MsgV) : ∀ (E : List (Plc × Value)), (E.map (·.1)).Nodup → (k ∉ E.map (·.1) → F k = []) → totF (putV E k v) (updF F k l) + (F k).length = totF E F + l.length
  | [], _, h => by
    have := h (by simp)
    simp [totF, putV, updF, this]
  | x :: E, hn, h => by
    simp only [List.map_cons, List.nodup_cons] at hn
    simp only [putV]
    by_cases hk : k = x.1
    · have hf := tot_far F k l E (hk ▸ hn.1)
      simp only [totF] at hf
      simp only [hk, if_true, totF, List.map_cons, List.sum_cons] at hf ⊢
      rw [hf]
      simp only [updF, if_true]
      omega
    · have ih := tot_put F k v l E hn.2 fun hx => h (by simp only [List.map_cons, List.mem_cons, not_or]; exact ⟨hk, hx⟩)
      simp only [hk, if_false, totF, List.map_cons, List.sum_cons] at ih ⊢
      have e1 : (updF F k l x.1).length = (F x.1).length := by
        unfold updF
        rw [if_neg fun e => hk e.symm]
      rw [e1]
      omega
theorem FbE.absent {w0 wx : World} {b r : Nat} {cores room : Int} {E : List (Plc × Value)} {F : Plc → List MsgV} (h : FbE w0 b r cores room E F wx) (k : Plc) (hk : k ∉ E.map (·.1)) : F k = [] := by
  have h1 := (h.rows k).2
  rw [getV_absent nilS k E hk] at h1
  rcases h1 with ⟨_, h2⟩ | ⟨_, _, _, _, h2, _⟩
  · exact List.eq_nil_of_length_eq_zero h2
  · cases h2
theorem FbE.tot {w0 wx : World} {b r : Nat} {cores room : Int} {E : List (Plc × Value)} {F : Plc → List MsgV} (h : FbE w0 b r cores room E F wx) (k : Plc) (v : Value) (l : List MsgV) : totF (putV E k v) (updF F k l) + (F k).length = totF E F + l.length := tot_put F k v l E h.nd (h.absent k)
theorem FbE.keep {w0 wx wy : World} {b r : Nat} {cores room : Int} {E : List (Plc × Value)} {F : Plc → List MsgV} {S : Nat → Prop} (h : FbE w0 b r cores room E F wx) (hM : Mods S wx wy) (hb : ¬ S b) (hr : ¬ S r) (ho : ∀ k g, (getV nilS E k).ownBlock = some g → ¬ S g) (hlo : ∀ q, S q → w0.heap.size ≤ q) : FbE w0 b r cores room E F wy :=
  ⟨(hM.block b h.lt.1 hb).trans h.blk, (hM.block r h.lt.2 hr).trans h.map, fun k => (h.rows k).keep fun g hg => hM.block g ((h.rows k).lt g hg).2 (ho k g hg), h.apart, h.own, h.ne, h.lo, h.nd, h.below.trans (hM.below h.below.size hlo)⟩
/-- A row turned, and laid at its key. -/
theorem FbE.put {w0 wx wy : World} {b r : Nat} {cores room : Int} {E : List (Plc × Value)} {F : Plc → List MsgV} {S : Nat → Prop} (h : FbE w0 b r cores room E F wx) (k : Plc) (v : Value) (l : List MsgV) (hM : Mods S wx wy) (hS : ∀ q, S q → q = r ∨ (getV nilS E k).ownBlock = some q)
    (hmap : MapAt wy r (putV E k v)) (hrow : winRow wy w0.heap.size 32 13 v l.length (flatM l)) (hv : ∀ g, v.ownBlock = some g → (getV nilS E k).ownBlock = some g ∨ wx.heap.size ≤ g) : FbE w0 b r cores room (putV E k v) (updF F k l) wy := by
  have hSb : ¬ S b := fun hs => by
    rcases hS b hs with e | e
    · exact h.ne e
    · exact (h.own k b e).1 rfl
  have hov : ∀ q g, (getV nilS (putV E k v) q).ownBlock = some g → (getV nilS E q).ownBlock = some g ∨ (q = k ∧ wx.heap.size ≤ g) := fun q g hg => by
    rw [getV_put] at hg
    by_cases hq : q = k
    · subst hq
      rw [if_pos rfl] at hg
      rcases hv g hg with e | e
      · exact .inl e
      · exact .inr ⟨rfl, e⟩
    · rw [if_neg hq] at hg
      exact .inl hg
  refine ⟨(hM.block b h.lt.1 hSb).trans h.blk, hmap, fun q => ?_, fun q q' hne g hg hg' => ?_, fun q g hg => ?_, h.ne, h.lo, nodup_put k v h.nd, h.below.trans (hM.below h.below.size fun q hq => ?_)⟩
  · rw [getV_put]
    unfold updF
    by_cases hq : q = k
    · rw [if_pos hq, if_pos hq]
      exact hrow
    · rw [if_neg hq, if_neg hq]
      refine (h.rows q).keep fun g hg => hM.block g ((h.rows q).lt g hg).2 fun hs => ?_
      rcases hS g hs with e | e
      · exact (h.own q g hg).2 e
      · exact h.apart q k hq g hg e
  · rcases hov q g hg with e | ⟨rfl, e⟩
    · rcases hov q' g hg' with e' | ⟨rfl, e'⟩
      · exact h.apart q q' hne g e e'
      · have := ((h.rows q).lt g e).2
        omega
    · rcases hov q' g hg' with e' | ⟨e', _⟩
      · have := ((h.rows q').lt g e').2
        omega
      · exact hne e'.symm
  · rcases hov q g hg with e | ⟨_, e⟩
    · exact h.own q g e
    · have := h.lt
      omega
  · rcases hS q hq with e | e
    · rw [e]; exact h.lo.2
    · exact ((h.rows k).lt q e).1

end Go.Proofs.YtbefkkefglkleaaDoor
