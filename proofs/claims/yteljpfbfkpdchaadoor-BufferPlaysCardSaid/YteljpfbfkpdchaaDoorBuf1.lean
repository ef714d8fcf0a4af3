/- The store buffer in memory: what stands at its pointer. -/
import Derived.Test.YteljpfbfkpdchaaDoorWin
import Derived.Test.YteljpfbfkpdchaaDoorErr7
import Derived.Test.YteljpfbfkpdchaaDoorLex
import Derived.Test.YteljpfbfkpdchaaDoorMem
import Derived.BigQuiet
import Derived.Lib.Hide
namespace Go.Proofs.YteljpfbfkpdchaaDoor
open Go.RowKit Go.Extern.Stop Go.Stop Go.Extern

/-- A store that waits: its word and its value, as two cells. -/
def flatW : List (Int × Int) → List Value
  | [] => []
  | x :: l => .int .i64 x.1 :: .int .u32 x.2 :: flatW l
theorem flatW_length (l : List (Int × Int)) : (flatW l).length = l.length * 2 := by
  induction l with
  | nil => rfl
  | cons x l ih => simp only [flatW, List.length_cons, ih]; omega
theorem flatW_append (l r : List (Int × Int)) : flatW (l ++ r) = flatW l ++ flatW r := by
  induction l with
  | nil => rfl
  | cons x l ih => simp [flatW, ih]
theorem flatW_at {l : List (Int × Int)} {k : Nat} {x : Int × Int} (h : l[k]? = some x) : (flatW l)[2 * k]? = some (.int .i64 x.1) ∧ (flatW l)[2 * k + 1]? = some (.int .u32 x.2) := by
  induction l generalizing k with
  | nil => simp at h
  | cons y l ih =>
    cases k with
    | zero => simp at h; subst h; exact ⟨rfl, rfl⟩
    | succ k =>
      have := ih (by simpa using h)
      rw [show 2 * (k + 1) = 2 * k + 1 + 1 by omega]
      simpa [flatW] using this
theorem flatW_one (l : List (Int × Int)) : ∀ u ∈ flatW l, u.oneCell' = true := by
  induction l with
  | nil => intro u hu; cases hu
  | cons x l ih =>
    intro u hu
    simp only [flatW, List.mem_cons] at hu
    rcases hu with rfl | rfl | hu
    · rfl
    · rfl
    · exact ih u hu
theorem flatW_drop (l : List (Int × Int)) : (flatW l).drop 2 = flatW (l.drop 1) := by
  cases l <;> rfl

/-- What a call may turn: the blocks of a set, and new ones. -/
structure Mods (S : Nat → Prop) (w w' : World) : Prop where
  os : w'.os = w.os
  tape : w'.tape = w.tape
  output : w'.output = w.output
  size : w.heap.size ≤ w'.heap.size
  block : ∀ k, k < w.heap.size → ¬ S k → w'.heap[k]? = w.heap[k]?
theorem Mods.refl (S : Nat → Prop) (w : World) : Mods S w w := ⟨rfl, rfl, rfl, Nat.le_refl _, fun _ _ _ => rfl⟩
theorem Mods.of_below {S : Nat → Prop} {w w' : World} (h : Below w.heap.size w w') : Mods S w w' := ⟨h.os, h.tape, h.output, h.size, fun k hk _ => h.block k hk⟩
theorem Mods.trans {S T : Nat → Prop} {a b c : World} (h : Mods S a b) (k : Mods T b c) (hT : ∀ i, i < a.heap.size → T i → S i) : Mods S a c :=
  ⟨k.os.trans h.os, k.tape.trans h.tape, k.output.trans h.output, Nat.le_trans h.size k.size, fun i hi hs => (k.block i (Nat.lt_of_lt_of_le hi h.size) fun ht => hs (hT i hi ht)).trans (h.block i hi hs)⟩
theorem Mods.below {S : Nat → Prop} {B : Nat} {w w' : World} (h : Mods S w w') (hB : B ≤ w.heap.size) (hS : ∀ k, S k → B ≤ k) : Below B w w' :=
  ⟨h.os, h.tape, h.output, h.size, fun k hk => h.block k (by omega) fun hs => by have := hS k hs; omega⟩
theorem Mods.cell {S : Nat → Prop} {w w' : World} (h : Mods S w w') {p : Addr} (hp : p.block < w.heap.size) (hs : ¬ S p.block) : w'.cell? p = w.cell? p := World.cell?_of_block (w := w) (h.block p.block hp hs)
theorem Mods.alloc (S : Nat → Prop) (w : World) (o : Obj) : Mods S w (w.alloc o) := .of_below ((Below.refl _ _).alloc (Nat.le_refl _) _)
theorem Mods.drew {S : Nat → Prop} {a w : World} (h : Mods S a w) : Mods S a w.drew := ⟨h.os, h.tape, h.output, h.size, h.block⟩
theorem Mods.grown {S : Nat → Prop} {w w' : World} {row : Option Nat} (h : w.grownBy w' row) (hS : ∀ k, row = some k → S k) : Mods S w w' :=
  ⟨h.os, h.tape, h.output, h.size, fun k hk hs => h.block k hk fun e => hs (hS k e.symm)⟩
theorem Mods.setCell {S : Nat → Prop} {a w : World} (h : Mods S a w) {p : Addr} (hp : S p.block) (u : Value) : Mods S a (w.setCell p u) :=
  ⟨h.os, h.tape, h.output, by have := h.size; simpa using this, fun k hk hs => by
    rw [Below.heap_setCell _ _ _ _ (fun e => hs (by rw [e]; exact hp))]
    exact h.block k hk hs⟩

/-- A buffer at block b: so many at most, what waits. -/
structure BufAt (w : World) (b : Nat) (v : Value) (n : Int) (L : List (Int × Int)) : Prop where
  blk : w.heap[b]? = some (.cells #[.int .i64 n, v] 85 (0, 0))
  row : winRow w (b + 1) 32 2 v L.length (flatW L)
theorem BufAt.lt {w : World} {b : Nat} {v : Value} {n : Int} {L : List (Int × Int)} (h : BufAt w b v n L) : b < w.heap.size := (Array.getElem?_eq_some_iff.1 h.blk).1
theorem BufAt.keep {S : Nat → Prop} {w w' : World} {b : Nat} {v : Value} {n : Int} {L : List (Int × Int)} (h : BufAt w b v n L) (hm : Mods S w w') (hb : ¬ S b) (hv : ∀ g, v.ownBlock = some g → ¬ S g) : BufAt w' b v n L :=
  ⟨(hm.block b h.lt hb).trans h.blk, h.row.keep fun g hg => hm.block g (h.row.lt g hg).2 (hv g hg)⟩
theorem BufAt.below {w w' : World} {b : Nat} {v : Value} {n : Int} {L : List (Int × Int)} (h : BufAt w b v n L) (hb : Below w.heap.size w w') : BufAt w' b v n L :=
  h.keep (S := fun _ => False) (.of_below hb) id fun _ _ => id
theorem cells_new (w : World) (cs : List Value) (ty : TypeId) : ∀ j u, cs[j]? = some u → (w.alloc (.cells cs.toArray ty)).cell? ((⟨w.heap.size, 0, none⟩ : Addr).add j) = some u := fun j u h => by
  rw [Addr.add_lit, Nat.zero_add, World.cell?_alloc_new]
  simpa using h
/-- Where the row of a buffer has grown, the buffer's own cells stand. -/
theorem BufAt.blk_grown {w W w' : World} {b : Nat} {v : Value} {n : Int} {L : List (Int × Int)} (h : BufAt w b v n L) (hb : Below w.heap.size w W) (hg : W.grownBy w' v.ownBlock) :
    w'.heap[b]? = some (.cells #[.int .i64 n, v] 85 (0, 0)) := by
  rw [hg.block b (Nat.lt_of_lt_of_le h.lt hb.size) (fun e => by have := (h.row.lt b e.symm).1; omega), hb.block b h.lt]
  exact h.blk
theorem frozen_of {X : World} {b : Nat} {cs : Array Value} {ty : TypeId} (h : X.heap[b]? = some (.cells cs ty (0, 0))) (k : Nat) : X.frozen? ⟨b, k, none⟩ = false := by simp [World.frozen?, h]
/-- Its own blocks. -/
def bufS (b : Nat) (v : Value) : Nat → Prop := fun k => k = b ∨ v.ownBlock = some k

theorem nInfoW : (Tryd.prog.info? 32).map (fun i => (i.zero, i.size, i.bytes)) = some (some (.agg #[.int .i64 0, .int .u32 0]), 2, 16) := by kernel_rfl

end Go.Proofs.YteljpfbfkpdchaaDoor
