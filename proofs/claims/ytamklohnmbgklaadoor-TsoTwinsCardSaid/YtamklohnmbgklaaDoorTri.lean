/- Three models and a row of events side by side. -/
import Derived.Test.YtamklohnmbgklaaDoorTwo
namespace Go.Proofs.YtamklohnmbgklaaDoor
open Go.RowKit Go.Extern.Stop Go.Stop Go.Extern

/-- The program's model, the document's, a twin, and a row of events. -/
structure Tri (w wr : World) (b1 b2 bt : Nat) (F1 F2 Ft : Nat → Prop) (s : Value) (row : List Ev) (B1 : Bufs) (M1 : List Int) (B2 : Bufs) (M2 : List Int) (Bt : Bufs) (Mt : List Int) : Prop where
  p : Md tyP wr w.heap.size b1 F1 B1 M1
  r : Md tyR wr w.heap.size b2 F2 B2 M2
  t : Md tyP wr w.heap.size bt Ft Bt Mt
  row : winRow wr w.heap.size 24 6 s row.length (flatE row)
  d12 : ∀ k, F1 k → ¬ F2 k
  d1t : ∀ k, F1 k → ¬ Ft k
  d2t : ∀ k, F2 k → ¬ Ft k
  s1 : ∀ q, s.ownBlock = some q → ¬ F1 q
  s2 : ∀ q, s.ownBlock = some q → ¬ F2 q
  st : ∀ q, s.ownBlock = some q → ¬ Ft q
  bel : Below w.heap.size w wr
section
variable {w wr : World} {b1 b2 bt : Nat} {F1 F2 Ft : Nat → Prop} {s : Value} {row : List Ev} {B1 B2 Bt : Bufs} {M1 M2 Mt : List Int}
theorem Tri.below {wq : World} (h : Tri w wr b1 b2 bt F1 F2 Ft s row B1 M1 B2 M2 Bt Mt) (hb : Below wr.heap.size wr wq) : Tri w wq b1 b2 bt F1 F2 Ft s row B1 M1 B2 M2 Bt Mt :=
  ⟨h.p.below hb, h.r.below hb, h.t.below hb, h.row.below hb, h.d12, h.d1t, h.d2t, h.s1, h.s2, h.st, h.bel.trans (hb.mono h.bel.size)⟩
theorem Tri.stepP {w3 : World} {F' : Nat → Prop} {B' : Bufs} {M' : List Int} (h : Tri w wr b1 b2 bt F1 F2 Ft s row B1 M1 B2 M2 Bt Mt) (hp : Md tyP w3 w.heap.size b1 F' B' M') (hM : Mods F1 wr w3) (hF : ∀ k, F' k → F1 k ∨ wr.heap.size ≤ k) : Tri w w3 b1 b2 bt F' F2 Ft s row B' M' B2 M2 Bt Mt :=
  ⟨hp, h.r.keep hM fun k hk hk1 => h.d12 k hk1 hk, h.t.keep hM fun k hk hk1 => h.d1t k hk1 hk, h.row.keep fun q hq => hM.block q (h.row.lt q hq).2 (h.s1 q hq),
    fun k hk hk2 => (hF k hk).elim (fun h3 => h.d12 k h3 hk2) fun h3 => by have := (h.r.lt k hk2).2; omega, fun k hk hk2 => (hF k hk).elim (fun h3 => h.d1t k h3 hk2) fun h3 => by have := (h.t.lt k hk2).2; omega, h.d2t,
    fun q hq hk => (hF q hk).elim (h.s1 q hq) fun h3 => by have := (h.row.lt q hq).2; omega, h.s2, h.st, h.bel.trans (hM.below h.bel.size fun k hk => (h.p.lt k hk).1)⟩
theorem Tri.stepR {w3 : World} {F' : Nat → Prop} {B' : Bufs} {M' : List Int} (h : Tri w wr b1 b2 bt F1 F2 Ft s row B1 M1 B2 M2 Bt Mt) (hp : Md tyR w3 w.heap.size b2 F' B' M') (hM : Mods F2 wr w3) (hF : ∀ k, F' k → F2 k ∨ wr.heap.size ≤ k) : Tri w w3 b1 b2 bt F1 F' Ft s row B1 M1 B' M' Bt Mt :=
  ⟨h.p.keep hM fun k hk hk1 => h.d12 k hk hk1, hp, h.t.keep hM fun k hk hk1 => h.d2t k hk1 hk, h.row.keep fun q hq => hM.block q (h.row.lt q hq).2 (h.s2 q hq),
    fun k hk hk2 => (hF k hk2).elim (fun h3 => h.d12 k hk h3) fun h3 => by have := (h.p.lt k hk).2; omega, h.d1t, fun k hk hk2 => (hF k hk).elim (fun h3 => h.d2t k h3 hk2) fun h3 => by have := (h.t.lt k hk2).2; omega,
    h.s1, fun q hq hk => (hF q hk).elim (h.s2 q hq) fun h3 => by have := (h.row.lt q hq).2; omega, h.st, h.bel.trans (hM.below h.bel.size fun k hk => (h.r.lt k hk).1)⟩
theorem Tri.stepT {w3 : World} {F' : Nat → Prop} {B' : Bufs} {M' : List Int} (h : Tri w wr b1 b2 bt F1 F2 Ft s row B1 M1 B2 M2 Bt Mt) (hp : Md tyP w3 w.heap.size bt F' B' M') (hM : Mods Ft wr w3) (hF : ∀ k, F' k → Ft k ∨ wr.heap.size ≤ k) : Tri w w3 b1 b2 bt F1 F2 F' s row B1 M1 B2 M2 B' M' :=
  ⟨h.p.keep hM fun k hk hk1 => h.d1t k hk hk1, h.r.keep hM fun k hk hk1 => h.d2t k hk hk1, hp, h.row.keep fun q hq => hM.block q (h.row.lt q hq).2 (h.st q hq), h.d12,
    fun k hk hk2 => (hF k hk2).elim (fun h3 => h.d1t k hk h3) fun h3 => by have := (h.p.lt k hk).2; omega, fun k hk hk2 => (hF k hk2).elim (fun h3 => h.d2t k hk h3) fun h3 => by have := (h.r.lt k hk).2; omega,
    h.s1, h.s2, fun q hq hk => (hF q hk).elim (h.st q hq) fun h3 => by have := (h.row.lt q hq).2; omega, h.bel.trans (hM.below h.bel.size fun k hk => (h.t.lt k hk).1)⟩
theorem Tri.twin {w3 : World} {tb : Nat} {F' : Nat → Prop} {B' : Bufs} {M' : List Int} (h : Tri w wr b1 b2 bt F1 F2 Ft s row B1 M1 B2 M2 Bt Mt) (ht : Md tyP w3 wr.heap.size tb F' B' M') (hb : Below wr.heap.size wr w3) : Tri w w3 b1 b2 tb F1 F2 F' s row B1 M1 B2 M2 B' M' :=
  ⟨h.p.below hb, h.r.below hb, ht.base h.bel.size, h.row.below hb, h.d12, fun k hk hk2 => by have := (h.p.lt k hk).2; have := (ht.lt k hk2).1; omega, fun k hk hk2 => by have := (h.r.lt k hk).2; have := (ht.lt k hk2).1; omega,
    h.s1, h.s2, fun q hq hk => by have := (h.row.lt q hq).2; have := (ht.lt q hk).1; omega, h.bel.trans (hb.mono h.bel.size)⟩
theorem Tri.more {wq wz : World} {g off cap : Nat} {e : Ev} (h : Tri w wr b1 b2 bt F1 F2 Ft s row B1 M1 B2 M2 Bt Mt) (hall : Below wr.heap.size wr wq) (hrow : winRow wz w.heap.size 24 6 (.slice (some ⟨g, off, none⟩) (row.length + 1) cap) (row.length + 1) (flatE row ++ flatE [e]))
    (hgrow : wq.grownBy wz s.ownBlock) (hat : s.ownBlock = some g ∨ g = wq.heap.size) : Tri w wz b1 b2 bt F1 F2 Ft (.slice (some ⟨g, off, none⟩) (row ++ [e]).length cap) (row ++ [e]) B1 M1 B2 M2 Bt Mt := by
  have h2 := h.below hall
  have hM : Mods (fun k => s.ownBlock = some k) wq wz := Mods.grown hgrow fun k hk => hk
  have hlen : (row ++ [e]).length = row.length + 1 := by simp
  have key : ∀ (F : Nat → Prop), (∀ q, s.ownBlock = some q → ¬ F q) → (∀ k, F k → k < wq.heap.size) → ∀ q, (Value.slice (some ⟨g, off, none⟩) (row ++ [e]).length cap).ownBlock = some q → ¬ F q := fun F h3 h4 q hq => by
    simp only [Value.ownBlock, Option.some.injEq] at hq
    subst hq
    rcases hat with h1 | h1
    · exact h3 _ h1
    · subst h1
      exact fun hh => by have := h4 _ hh; omega
  exact ⟨h2.p.keep hM fun q hq hk => h.s1 q hk hq, h2.r.keep hM fun q hq hk => h.s2 q hk hq, h2.t.keep hM fun q hq hk => h.st q hk hq, by rw [hlen, flatE_append]; exact hrow, h.d12, h.d1t, h.d2t,
    key _ h.s1 fun k hk => (h2.p.lt k hk).2, key _ h.s2 fun k hk => (h2.r.lt k hk).2, key _ h.st fun k hk => (h2.t.lt k hk).2, h2.bel.grown hgrow h2.bel.size fun k hk => (h.row.lt k hk).1⟩
end

end Go.Proofs.YtamklohnmbgklaaDoor
