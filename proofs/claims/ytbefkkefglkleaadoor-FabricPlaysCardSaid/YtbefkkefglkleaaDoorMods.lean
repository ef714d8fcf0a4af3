/- What a call may turn: laws on footprints. -/
import Derived.Test.YtbefkkefglkleaaDoorWin
import Derived.Test.YtbefkkefglkleaaDoorMem
namespace Go.Proofs.YtbefkkefglkleaaDoor
open Go.RowKit

/-- What a call may turn: the blocks of a set, and new ones. -/
structure Mods (S : Nat → Prop) (w w' : World) : Prop where
  os : w'.os = w.os
  tape : w'.tape = w.tape
  output : w'.output = w.output
  size : w.heap.size ≤ w'.heap.size
  block : ∀ k, k < w.heap.size → ¬ S k → w'.heap[k]? = w.heap[k]?
theorem Mods.refl (S : Nat → Prop) (w : World) : Mods S w w := ⟨rfl, rfl, rfl, Nat.le_refl _, fun _ _ _ => rfl⟩
theorem Mods.of_below {S : Nat → Prop} {w w' : World} (h : Below w.heap.size w w') : Mods S w w' := ⟨h.os, h.tape, h.output, h.size, fun k hk _ => h.block k hk⟩
theorem Mods.trans {S T : Nat → Prop} {a b c : World} (h : Mods S a b) (k : Mods T b c) (hT : ∀ i, i < a.heap.size → T i → S i) : Mods S a c :=
  ⟨k.os.trans h.os, k.tape.trans h.tape, k.output.trans h.output, Nat.le_trans h.size k.size, fun i hi hs => (k.block i (Nat.lt_of_lt_of_le hi h.size) fun ht => hs (hT i hi ht)).trans (h.block i hi hs)⟩
theorem Mods.below {S : Nat → Prop} {B : Nat} {w w' : World} (h : Mods S w w') (hB : B ≤ w.heap.size) (hS : ∀ k, S k → B ≤ k) : Below B w w' :=
  ⟨h.os, h.tape, h.output, h.size, fun k hk => h.block k (by omega) fun hs => by have := hS k hs; omega⟩
theorem Mods.cell {S : Nat → Prop} {w w' : World} (h : Mods S w w') {p : Addr} (hp : p.block < w.heap.size) (hs : ¬ S p.block) : w'.cell? p = w.cell? p := World.cell?_of_block (w := w) (h.block p.block hp hs)
theorem Mods.alloc (S : Nat → Prop) (w : World) (o : Obj) : Mods S w (w.alloc o) := .of_below ((Below.refl _ _).alloc (Nat.le_refl _) _)
theorem Mods.drew {S : Nat → Prop} {a w : World} (h : Mods S a w) : Mods S a w.drew := ⟨h.os, h.tape, h.output, h.size, h.block⟩
theorem Mods.grown {S : Nat → Prop} {w w' : World} {row : Option Nat} (h : w.grownBy w' row) (hS : ∀ k, row = some k → S k) : Mods S w w' :=
  ⟨h.os, h.tape, h.output, h.size, fun k hk hs => h.block k hk fun e => hs (hS k e.symm)⟩
theorem Mods.setCell {S : Nat → Prop} {a w : World} (h : Mods S a w) {p : Addr} (hp : S p.block) (u : Value) : Mods S a (w.setCell p u) :=
  ⟨h.os, h.tape, h.output, by have := h.size; simpa using this, fun k hk hs => by
    rw [Below.heap_setCell _ _ _ _ (fun e => hs (by rw [e]; exact hp))]
    exact h.block k hk hs⟩

theorem frozen_of {X : World} {b : Nat} {cs : Array Value} {ty : TypeId} (h : X.heap[b]? = some (.cells cs ty (0, 0))) (k : Nat) : X.frozen? ⟨b, k, none⟩ = false := by simp [World.frozen?, h]
theorem slc.keep {S : Nat → Prop} {w w' : World} {size : Nat} {v : Value} {n : Nat} {xs : List Value} (h : slc w size v n xs) (hm : Mods S w w') (hs : ∀ g, v.ownBlock = some g → ¬ S g) : slc w' size v n xs := by
  obtain ⟨h1, a, cap, hv, h2⟩ := h
  refine ⟨h1, a, cap, hv, fun hn => ?_⟩
  obtain ⟨g, off, ha, hg, hc⟩ := h2 hn
  refine ⟨g, off, ha, Nat.lt_of_lt_of_le hg hm.size, fun j u hu => ?_⟩
  rw [hm.cell (p := ⟨g, off + j, none⟩) hg (hs g (by rw [hv, ha]; rfl))]
  exact hc j u hu

end Go.Proofs.YtbefkkefglkleaaDoor
