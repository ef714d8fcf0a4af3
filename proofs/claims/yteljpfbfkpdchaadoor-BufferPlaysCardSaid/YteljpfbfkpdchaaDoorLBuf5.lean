/- BufferPlays: where the buffer and the document's own one stand. -/
import Derived.Test.YteljpfbfkpdchaaDoorRBuf2
namespace Go.Proofs.YteljpfbfkpdchaaDoor
open Go.RowKit Go.Extern.Stop Go.Stop Go.Extern

theorem pushE_wf (n a : Int) (L : List (Int × Int)) : (pushE n L a).wf := by
  unfold pushE
  split
  · split
    · trivial
    · exact ⟨rfl, show (5 : Nat) < 10 by omega⟩
  · exact ⟨rfl, show (0 : Nat) < 10 by omega⟩
theorem pushE_is (n a : Int) (L : List (Int × Int)) : isK (pushE n L a) (pushK n L a) bpT a = true := by
  unfold pushE pushK
  split
  · split
    · simp [isK, ErrT.isNil]
    · simp [isK, ErrT.code]
  · simp [isK, ErrT.code]
theorem pushE_only (n a : Int) (L : List (Int × Int)) : onlyK (pushE n L a) (pushK n L a) = true := by
  unfold pushE pushK onlyK
  split
  · split <;> simp [ErrT.code]
  · simp [ErrT.code]
theorem pushK_b (n a : Int) (L : List (Int × Int)) : 0 ≤ pushK n L a ∧ pushK n L a ≤ 10 := by
  unfold pushK
  split
  · split <;> omega
  · omega
theorem pushL_len {n a x : Int} {L : List (Int × Int)} (h : (L.length : Int) ≤ n) : ((pushL n L a x).length : Int) ≤ n := by
  unfold pushL
  split
  · split
    · simp; omega
    · exact h
  · exact h

/-- Both buffers, and that they are apart. -/
structure PlAt (w wr : World) (b1 b2 : Nat) (n : Int) (v1 v2 : Value) (La Lb : List (Int × Int)) : Prop where
  buf : BufAt wr b1 v1 n La
  ref : RefAt wr b2 v2 n Lb
  d1 : ∀ g, v1.ownBlock = some g → g ≠ b2 ∧ v2.ownBlock ≠ some g
  d2 : ∀ g, v2.ownBlock = some g → g ≠ b1
  ne : w.heap.size ≤ b1 ∧ b1 < b2
  bel : Below w.heap.size w wr
section
variable {w wr wq : World} {b1 b2 : Nat} {n : Int} {v1 v2 : Value} {La Lb : List (Int × Int)}
theorem PlAt.below (h : PlAt w wr b1 b2 n v1 v2 La Lb) (hb : Below wr.heap.size wr wq) : PlAt w wq b1 b2 n v1 v2 La Lb :=
  ⟨h.buf.below hb, h.ref.below hb, h.d1, h.d2, h.ne, h.bel.trans (hb.mono h.bel.size)⟩
theorem PlAt.one (h : PlAt w wr b1 b2 n v1 v2 La Lb) {v1' : Value} {L : List (Int × Int)} (hA : BufAt wq b1 v1' n L) (hM : Mods (bufS b1 v1) wr wq) (hO : ∀ g, v1'.ownBlock = some g → v1.ownBlock = some g ∨ wr.heap.size ≤ g) : PlAt w wq b1 b2 n v1' v2 L Lb := by
  have hb2 := h.ref.lt
  refine ⟨hA, h.ref.keep hM (fun hs => ?_) (fun g hg hs => ?_), fun g hg => ?_, h.d2, h.ne, ?_⟩
  · rcases hs with hs | hs
    · have := h.ne.2; omega
    · exact (h.d1 _ hs).1 rfl
  · rcases hs with hs | hs
    · exact h.d2 g hg hs
    · exact (h.d1 g hs).2 hg
  · rcases hO g hg with h1 | h1
    · exact h.d1 g h1
    · refine ⟨by omega, fun e => ?_⟩
      have := (h.ref.row.lt g e).2
      omega
  · exact h.bel.trans (h.buf.mods_below hM h.ne.1)
theorem PlAt.two (h : PlAt w wr b1 b2 n v1 v2 La Lb) {v2' : Value} {L : List (Int × Int)} (hA : RefAt wq b2 v2' n L) (hM : Mods (bufS b2 v2) wr wq) (hO : ∀ g, v2'.ownBlock = some g → v2.ownBlock = some g ∨ wr.heap.size ≤ g) : PlAt w wq b1 b2 n v1 v2' La L := by
  have hb1 := h.buf.lt
  have hne := h.ne
  refine ⟨h.buf.keep hM (fun hs => ?_) (fun g hg hs => ?_), hA, fun g hg => ⟨(h.d1 g hg).1, fun e => ?_⟩, fun g hg => ?_, h.ne, ?_⟩
  · rcases hs with hs | hs
    · omega
    · exact h.d2 _ hs rfl
  · rcases hs with hs | hs
    · exact (h.d1 g hg).1 hs
    · exact (h.d1 g hg).2 hs
  · rcases hO g e with h1 | h1
    · exact (h.d1 g hg).2 h1
    · have := (h.buf.row.lt g hg).2
      omega
  · rcases hO g hg with h1 | h1
    · exact h.d2 g h1
    · omega
  · exact h.bel.trans (h.ref.mods_below hM (by omega))
/-- A block that is none of theirs. -/
def farP (b1 b2 : Nat) (v1 v2 : Value) (g : Nat) : Prop := g ≠ b1 ∧ g ≠ b2 ∧ v1.ownBlock ≠ some g ∧ v2.ownBlock ≠ some g
theorem PlAt.far (h : PlAt w wr b1 b2 n v1 v2 La Lb) {g : Nat} (hg : wr.heap.size ≤ g) : farP b1 b2 v1 v2 g := by
  have h1 := h.buf.lt
  have h2 := h.ref.lt
  refine ⟨by omega, by omega, fun e => ?_, fun e => ?_⟩
  · have := (h.buf.row.lt g e).2
    omega
  · have := (h.ref.row.lt g e).2
    omega
theorem PlAt.set (h : PlAt w wr b1 b2 n v1 v2 La Lb) {p : Addr} (hp : farP b1 b2 v1 v2 p.block) (hw : w.heap.size ≤ p.block) (u : Value) : PlAt w (wr.setCell p u) b1 b2 n v1 v2 La Lb := by
  obtain ⟨f1, f2, f3, f4⟩ := hp
  have hm : Mods (fun k => k = p.block) wr (wr.setCell p u) := (Mods.refl (fun k => k = p.block) wr).setCell rfl u
  exact ⟨h.buf.keep hm (fun e => f1 e.symm) (fun g hg e => f3 (by rw [← e]; exact hg)), h.ref.keep hm (fun e => f2 e.symm) (fun g hg e => f4 (by rw [← e]; exact hg)), h.d1, h.d2, h.ne, h.bel.setCell hw u⟩
end

theorem cell_set_ne {X : World} {b o q : Nat} {cs : Array Value} {ty : TypeId} (h : X.heap[b]? = some (.cells cs ty (0, 0))) (hne : o ≠ q) (u : Value) : (X.setCell ⟨b, o, none⟩ u).cell? ⟨b, q, none⟩ = X.cell? ⟨b, q, none⟩ := by
  rw [cell_of (heap_setCell_at h u) q, cell_of h q, Array.getElem?_setIfInBounds_ne hne]
/-- What the law's own list still has, from a place on. -/
def GotAt (wq : World) (ad : Option Addr) (lo : Nat) (L : List (Int × Int)) (k : Nat) : Prop :=
  ∀ gu ou, ad = some ⟨gu, ou, none⟩ → k < L.length → (∃ cur ty, wq.heap[gu]? = some (.cells cur ty (0, 0))) ∧ lo ≤ gu ∧ ∀ j (y : Int × Int), k ≤ j → L[j]? = some y → wq.cell? ⟨gu, ou + j * 2, none⟩ = some (.int .i64 y.1) ∧ wq.cell? ⟨gu, ou + j * 2 + 1, none⟩ = some (.int .u32 y.2)
theorem GotAt.start {wq : World} {base cap : Nat} {ad : Option Addr} {L : List (Int × Int)} (h : winRow wq base 32 2 (.slice ad L.length cap) L.length (flatW L)) : GotAt wq ad base L 0 := by
  intro gu ou ha hp
  subst ha
  obtain ⟨g, off, cap', hv, _, hbg, hg, hc⟩ := h.form hp
  simp only [Value.slice.injEq, Option.some.injEq, Addr.mk.injEq] at hv
  obtain ⟨⟨rfl, rfl, _⟩, _, rfl⟩ := hv
  refine ⟨?_, hbg, fun j y _ hj => ?_⟩
  · rcases h.2 with ⟨h2, _⟩ | ⟨g', off', cap', cur, hv', _, hb, _⟩
    · cases h2
    · simp only [Value.slice.injEq, Option.some.injEq, Addr.mk.injEq] at hv'
      obtain ⟨⟨rfl, rfl, _⟩, _, rfl⟩ := hv'
      exact ⟨cur, _, hb⟩
  · have h1 := hc _ _ (flatW_at hj).1
    have h2 := hc _ _ (flatW_at hj).2
    rw [Nat.mul_comm 2 j] at h1 h2
    rw [← Nat.add_assoc] at h2
    exact ⟨h1, h2⟩
theorem GotAt.next {wq wz : World} {ad : Option Addr} {lo gu ou : Nat} {L : List (Int × Int)} {k : Nat} {u : Value} (h : GotAt wq ad lo L k) (ha : ad = some ⟨gu, ou, none⟩) (hk : k < L.length) (hz : ∀ p, wz.cell? p = wq.cell? p) (hzh : wz.heap[gu]? = wq.heap[gu]?) : GotAt (wz.setCell ⟨gu, ou + k * 2 + 1, none⟩ u) ad lo L (k + 1) := by
  intro g o hgo hp
  rw [ha] at hgo
  simp only [Option.some.injEq, Addr.mk.injEq, and_true] at hgo
  obtain ⟨rfl, rfl⟩ := hgo
  obtain ⟨⟨cur, ty, hh⟩, hlo, hc⟩ := h gu ou ha hk
  refine ⟨⟨_, _, heap_setCell_at (hzh.trans hh) u⟩, hlo, fun j y hj hy => ?_⟩
  obtain ⟨h1, h2⟩ := hc j y (by omega) hy
  rw [cell_set_ne (hzh.trans hh) (by omega) u, cell_set_ne (hzh.trans hh) (by omega) u, hz, hz]
  exact ⟨h1, h2⟩

end Go.Proofs.YteljpfbfkpdchaaDoor
