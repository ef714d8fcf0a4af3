/- A fabric, and a row of messages beside it. -/
import Derived.Test.YtbefkkefglkleaaDoorLFb3
import Derived.Test.YtbefkkefglkleaaDoorInts
import Derived.Test.YtbefkkefglkleaaDoorCpy
namespace Go.Proofs.YtbefkkefglkleaaDoor
open Go.RowKit Go.Extern.Stop Go.Stop Go.Extern

theorem FbS.mods {w0 w w' : World} {b n : Nat} {cores room : Int} {F : Plc → List MsgV} {K : List Nat} (h : FbS w0 b cores room F n K w) (hb : b ∉ K) (hlo : ∀ q ∈ K, w0.heap.size ≤ q) (hM : Mods (fun q => q ∈ K) w w') : FbS w0 b cores room F n K w' := by
  obtain ⟨r, E, h1, h2, h3⟩ := h
  exact ⟨r, E, h1.keep hM hb (fun hr => h3 r hr (.inl rfl)) (fun k g hg hS => h3 g hS (.inr ⟨k, hg⟩)) hlo, h2, h3⟩
theorem FbS.lt {w0 w : World} {b n : Nat} {cores room : Int} {F : Plc → List MsgV} {K : List Nat} (h : FbS w0 b cores room F n K w) : w0.heap.size ≤ b ∧ b < w.heap.size := by
  obtain ⟨r, E, h1, _⟩ := h
  exact ⟨h1.lo.1, h1.lt.1⟩
theorem mem_own {v : Value} {q : Nat} : q ∈ v.ownBlock.toList ↔ v.ownBlock = some q := by
  cases v.ownBlock <;> simp [eq_comm]
/-- A fabric, and a row of messages that is none of its own. -/
structure FbR (w0 : World) (b : Nat) (cores room : Int) (F : Plc → List MsgV) (n : Nat) (v : Value) (L : List MsgV) (w : World) : Prop where
  fab : FbS w0 b cores room F n v.ownBlock.toList w
  ne : v.ownBlock ≠ some b
  row : winRow w w0.heap.size 32 13 v L.length (flatM L)
section
variable {w0 w w' : World} {b n : Nat} {cores room : Int} {F : Plc → List MsgV} {v v' : Value} {L L' : List MsgV}
theorem FbR.bel (h : FbR w0 b cores room F n v L w) (hb : Below w.heap.size w w') : FbR w0 b cores room F n v L w' := ⟨h.fab.bel hb, h.ne, h.row.below hb⟩
theorem FbR.below (h : FbR w0 b cores room F n v L w) : Below w0.heap.size w0 w := h.fab.below
theorem FbR.own (h : FbR w0 b cores room F n v L w) : ∀ q ∈ v.ownBlock.toList, w0.heap.size ≤ q ∧ q < w.heap.size := fun q hq => h.row.lt q (mem_own.1 hq)
theorem FbR.grow (h : FbR w0 b cores room F n v L w) (hr : winRow w' w0.heap.size 32 13 v' L'.length (flatM L')) (hg : w.grownBy w' v.ownBlock) (ho : ∀ g, v'.ownBlock = some g → v.ownBlock = some g ∨ w.heap.size ≤ g) : FbR w0 b cores room F n v' L' w' := by
  have hM : Mods (fun q => q ∈ v.ownBlock.toList) w w' := Mods.grown hg fun q hq => mem_own.2 hq
  have hbl := h.fab.lt
  refine ⟨?_, fun e => ?_, hr⟩
  · obtain ⟨r, E, h1, h2, h3⟩ := h.fab
    have h4 := h.fab.mods (fun hb => h.ne (mem_own.1 hb)) (fun q hq => (h.own q hq).1) hM
    refine ⟨r, E, h1.keep hM (fun hb => h.ne (mem_own.1 hb)) (fun hr => h3 r hr (.inl rfl)) (fun k g hg hS => h3 g hS (.inr ⟨k, hg⟩)) (fun q hq => (h.own q hq).1), h2, fun q hq hf => ?_⟩
    rcases ho q (mem_own.1 hq) with e | e
    · exact h3 q (mem_own.2 e) hf
    · have := (FbOwn.lt h1 hf).2
      omega
  · rcases ho b e with e | e
    · exact h.ne e
    · omega
theorem FbR.fresh (h : FbR w0 b cores room F n v L w) (hb : Below w.heap.size w w') (hr : winRow w' w.heap.size 32 13 v' L'.length (flatM L')) : FbR w0 b cores room F n v' L' w' := by
  have hbl := h.fab.lt
  refine ⟨?_, fun e => ?_, hr.base_le fun g hg => by have := (hr.lt g hg).1; have := h.below.size; omega⟩
  · obtain ⟨r, E, h1, h2, h3⟩ := h.fab
    refine ⟨r, E, h1.bel hb, h2, fun q hq hf => ?_⟩
    have := (FbOwn.lt h1 hf).2
    have := (hr.lt q (mem_own.1 hq)).1
    omega
  · have := (hr.lt b e).1
    omega
theorem FbR.nil (h : FbS w0 b cores room F n [] w) : FbR w0 b cores room F n nilS [] w := ⟨h, fun e => (by cases e), winRow_nil _ _ _ _⟩
theorem FbR.kp {F' : Plc → List MsgV} {n' : Nat} (h : FbR w0 b cores room F n v L w) (hf : FbS w0 b cores room F' n' v.ownBlock.toList w') (hk : Kp v.ownBlock.toList w w') : FbR w0 b cores room F' n' v L w' :=
  ⟨hf, h.ne, h.row.keep fun g hg => hk.keep g (mem_own.2 hg) (h.row.lt g hg).2⟩
end
theorem fbr_sendB (A : Nat → Addr) (w0 : World) (b n : Nat) (cores room : Int) (rn : Nat) (hrn : room = rn) (F : Plc → List MsgV) (v : Value) (L l : List MsgV) (w : World) (h : FbR w0 b cores room F n v L w) (hs : SentAt w0 A) (hl : l.length ≤ 100000) (hF : LeF F rn) (hro : rn ≤ 100000) :
    Calls Tryd.prog 11 #[.pointer (some ⟨b, 0, none⟩), .slice (some ⟨w.heap.size, 0, none⟩) l.length l.length] (w.alloc (.cells (flatM l).toArray 32)) fun ev w' => ev = .returned ((fitsE cores room F l).val A) ∧ FbR w0 b cores room (sendF cores room F l) (n + sentN cores room F l) v L w' ∧ Kp v.ownBlock.toList w w' := by
  refine (fbs_sendB A w0 b n cores room rn hrn F _ l w h.fab hs (fun q hq => (h.own q hq).2) hl hF hro).mono ?_
  rintro ev w' ⟨rfl, h1, h2⟩
  exact ⟨rfl, h.kp h1 h2, h2⟩
theorem fbr_sendX (A : Nat → Addr) (w0 : World) (b n : Nat) (cores room : Int) (rn : Nat) (hrn : room = rn) (F : Plc → List MsgV) (v : Value) (L l : List MsgV) (w : World) (X : List Nat) (h : FbR w0 b cores room F n v L w) (hX : FbS w0 b cores room F n (X ++ v.ownBlock.toList) w) (hXl : ∀ q ∈ X, q < w.heap.size) (hs : SentAt w0 A) (hl : l.length ≤ 100000) (hF : LeF F rn) (hro : rn ≤ 100000) :
    Calls Tryd.prog 11 #[.pointer (some ⟨b, 0, none⟩), .slice (some ⟨w.heap.size, 0, none⟩) l.length l.length] (w.alloc (.cells (flatM l).toArray 32)) fun ev w' => ev = .returned ((fitsE cores room F l).val A) ∧ FbR w0 b cores room (sendF cores room F l) (n + sentN cores room F l) v L w' ∧ FbS w0 b cores room (sendF cores room F l) (n + sentN cores room F l) (X ++ v.ownBlock.toList) w' ∧ Kp (X ++ v.ownBlock.toList) w w' := by
  refine (fbs_sendB A w0 b n cores room rn hrn F _ l w hX hs (fun q hq => (List.mem_append.1 hq).elim (hXl q) fun hq => (h.own q hq).2) hl hF hro).mono ?_
  rintro ev w' ⟨rfl, h1, h2⟩
  exact ⟨rfl, h.kp (h1.sub fun q hq => List.mem_append_right _ hq) (h2.sub fun q hq => List.mem_append_right _ hq), h1, h2⟩
theorem cat_new (w : World) (m : MsgV) : ∀ j u, m.cs[j]? = some u → (w.alloc (.cells m.cs.toArray 32)).cell? ((⟨w.heap.size, 0, none⟩ : Addr).add j) = some u := fun j u hj => by
  rw [Addr.add_lit, Nat.zero_add, World.cell?_alloc_new, List.getElem?_toArray]
  exact hj
theorem fbr_take (w0 : World) (b n : Nat) (cores room p c k : Int) (F : Plc → List MsgV) (v : Value) (L : List MsgV) (w : World) (h : FbR w0 b cores room F n v L w) :
    Calls Tryd.prog 13 #[.pointer (some ⟨b, 0, none⟩), .int .i64 p, .int .i64 c, .int .i64 k] w fun ev w' => ev = .returned (.tuple #[(peekP cores F p c k).1.v, .bool (peekP cores F p c k).2]) ∧ FbR w0 b cores room (takeF cores F p c k) (n + 0 - tookN cores F p c k) v L w' := by
  refine (fbs_take w0 b n cores room p c k F _ w h.fab (fun q hq => (h.own q hq).2)).mono ?_
  rintro ev w' ⟨rfl, h1, h2⟩
  exact ⟨rfl, h.kp h1 h2⟩
theorem peek_at {cores : Int} {F : Plc → List MsgV} {p c : Int} {k : Nat} {q : Plc} {M : MsgV} (h1 : placeOk cores p c = true) (h2 : placeP p c = q) (h3 : (F q)[k]? = some M) : peekP cores F p c k = (M, true) ∧ takeF cores F p c k = updF F q ((F q).eraseIdx k) ∧ tookN cores F p c k = 1 := by
  have hk := (List.getElem?_eq_some_iff.1 h3).1
  have h : peekP cores F p c k = (M, true) := by
    unfold peekP
    rw [h2, if_pos ⟨h1, by omega, by omega⟩, Int.toNat_natCast, h3]
    rfl
  refine ⟨h, ?_, ?_⟩
  · unfold takeF
    rw [h, h2, Int.toNat_natCast]
    rfl
  · unfold tookN
    rw [h]
    rfl
theorem peek_off {cores : Int} {F : Plc → List MsgV} {p c : Int} {k : Nat} (h : (F (placeP p c)).length ≤ k) : peekP cores F p c k = (zeroM, false) ∧ takeF cores F p c k = F ∧ tookN cores F p c k = 0 := by
  have h : peekP cores F p c k = (zeroM, false) := by
    unfold peekP
    rw [if_neg]
    rintro ⟨_, _, h3⟩
    omega
  refine ⟨h, ?_, ?_⟩
  · unfold takeF
    rw [h]
    rfl
  · unfold tookN
    rw [h]
    rfl
theorem flatM_split (W : List MsgV) (k : Nat) : flatM W = flatM (W.take k) ++ flatM (W.drop k) := by rw [← flatM_append, List.take_append_drop]
theorem slc_takeM {w : World} {a : Option Addr} {n cap k : Nat} {W : List MsgV} (h : slc w 13 (.slice a n cap) n (flatM W)) (hn : n = W.length) (hk : k ≤ n) : slc w 13 (.slice a k cap) k (flatM (W.take k)) := by
  obtain ⟨_, a', cap', hv, hc⟩ := h
  simp only [Value.slice.injEq, true_and] at hv
  obtain ⟨rfl, rfl⟩ := hv
  refine ⟨by rw [flatM_length, List.length_take, Nat.min_eq_left (by omega)], _, _, rfl, fun h0 => ?_⟩
  obtain ⟨g, off, rfl, hg, hcc⟩ := hc (by omega)
  refine ⟨g, off, rfl, hg, fun j u hj => hcc j u ?_⟩
  rw [flatM_split W k, List.getElem?_append_left (List.getElem?_eq_some_iff.1 hj).1]
  exact hj
theorem slc_dropM {w : World} {g off n cap k : Nat} {W : List MsgV} (h : slc w 13 (.slice (some ⟨g, off, none⟩) n cap) n (flatM W)) (hn : n = W.length) (hk : k ≤ n) (hcap : n ≤ cap) :
    ∃ ad, (if cap = k then some (⟨g, off, none⟩ : Addr) else some ⟨g, off + k * 13, none⟩) = some ad ∧ slc w 13 (.slice (some ad) (n - k) (cap - k)) (n - k) (flatM (W.drop k)) := by
  obtain ⟨_, a', cap', hv, hc⟩ := h
  simp only [Value.slice.injEq, true_and] at hv
  obtain ⟨rfl, rfl⟩ := hv
  have hl : (flatM (W.drop k)).length = (n - k) * 13 := by rw [flatM_length, List.length_drop, hn]
  by_cases hck : cap = k
  · exact ⟨_, if_pos hck, hl, _, _, rfl, fun h0 => by omega⟩
  · refine ⟨_, if_neg hck, hl, _, _, rfl, fun h0 => ?_⟩
    obtain ⟨g', off', he, hg, hcc⟩ := hc (by omega)
    simp only [Option.some.injEq, Addr.mk.injEq, and_true] at he
    obtain ⟨rfl, rfl⟩ := he
    refine ⟨_, _, rfl, hg, fun j u hj => ?_⟩
    rw [Nat.add_assoc]
    refine hcc _ u ?_
    have h2 : (flatM (W.take k)).length = k * 13 := by rw [flatM_length, List.length_take, Nat.min_eq_left (by omega)]
    rw [flatM_split W k, List.getElem?_append_right (by omega), h2, Nat.add_sub_cancel_left]
    exact hj

end Go.Proofs.YtbefkkefglkleaaDoor
