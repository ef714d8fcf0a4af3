/- Two fabrics, and a row of messages beside them. -/
import Derived.Test.YtbefkkefglkleaaDoorFb5
namespace Go.Proofs.YtbefkkefglkleaaDoor
open Go.RowKit Go.Extern.Stop Go.Stop Go.Extern

theorem FbE.rebase {w0 w1 wx : World} {b r : Nat} {cores room : Int} {E : List (Plc × Value)} {F : Plc → List MsgV} (h : FbE w1 b r cores room E F wx) (hb : Below w0.heap.size w0 w1) : FbE w0 b r cores room E F wx :=
  ⟨h.blk, h.map, fun k => (h.rows k).base_le fun g hg => Nat.le_trans hb.size ((h.rows k).lt g hg).1, h.apart, h.own, h.ne, ⟨Nat.le_trans hb.size h.lo.1, Nat.le_trans hb.size h.lo.2⟩, h.nd, hb.trans (h.below.mono hb.size)⟩
/-- Two fabrics that share no block, and a row that is none of theirs. -/
structure FbT (w0 : World) (ba ra bb rb : Nat) (cores room : Int) (Ea Eb : List (Plc × Value)) (Fa Fb : Plc → List MsgV) (v : Value) (L : List MsgV) (w : World) : Prop where
  a : FbE w0 ba ra cores room Ea Fa w
  b : FbE w0 bb rb cores room Eb Fb w
  ab : ∀ q, FbOwn Ea ra q → ¬ FbOwn Eb rb q ∧ q ≠ bb
  ba' : ∀ q, FbOwn Eb rb q → q ≠ ba
  ne : ba ≠ bb
  row : winRow w w0.heap.size 32 13 v L.length (flatM L)
  out : ∀ q, v.ownBlock = some q → (¬ FbOwn Ea ra q ∧ q ≠ ba) ∧ (¬ FbOwn Eb rb q ∧ q ≠ bb)
def FbTwo (w0 : World) (ba bb : Nat) (cores room : Int) (Fa : Plc → List MsgV) (na : Nat) (Fb : Plc → List MsgV) (nb : Nat) (v : Value) (L : List MsgV) (w : World) : Prop :=
  ∃ ra rb Ea Eb, FbT w0 ba ra bb rb cores room Ea Eb Fa Fb v L w ∧ totF Ea Fa = na ∧ totF Eb Fb = nb
section
variable {w0 w w' : World} {ba ra bb rb na nb : Nat} {cores room : Int} {Ea Eb : List (Plc × Value)} {Fa Fb : Plc → List MsgV} {v v' : Value} {L L' : List MsgV}
theorem FbT.bel (h : FbT w0 ba ra bb rb cores room Ea Eb Fa Fb v L w) (hb : Below w.heap.size w w') : FbT w0 ba ra bb rb cores room Ea Eb Fa Fb v L w' :=
  ⟨h.a.bel hb, h.b.bel hb, h.ab, h.ba', h.ne, h.row.below hb, h.out⟩
theorem FbT.swap (h : FbT w0 ba ra bb rb cores room Ea Eb Fa Fb v L w) : FbT w0 bb rb ba ra cores room Eb Ea Fb Fa v L w :=
  ⟨h.b, h.a, fun q hq => ⟨fun ha => (h.ab q ha).1 hq, h.ba' q hq⟩, fun q hq => (h.ab q hq).2, fun e => h.ne e.symm, h.row, fun q hq => ⟨(h.out q hq).2, (h.out q hq).1⟩⟩
theorem FbT.post {Fa' : Plc → List MsgV} {d c : Nat} (h : FbT w0 ba ra bb rb cores room Ea Eb Fa Fb v L w) (hp : FbPost w0 ba ra cores room Ea Fa Fa' w d c w') : ∃ Ea', FbT w0 ba ra bb rb cores room Ea' Eb Fa' Fb v L w' ∧ totF Ea' Fa' + d = totF Ea Fa + c := by
  obtain ⟨Ea', h1, h2, h3, h4⟩ := hp
  have hlo : ∀ q, FbOwn Ea ra q → w0.heap.size ≤ q := fun q hq => (FbOwn.lt h.a hq).1
  refine ⟨Ea', ⟨h1, h.b.keep h2 (fun e => (h.ab _ e).2 rfl) (fun e => (h.ab _ e).1 (.inl rfl)) (fun k g hg e => (h.ab g e).1 (.inr ⟨k, hg⟩)) hlo, fun q hq => ?_, h.ba', h.ne, h.row.keep fun g hg => h2.block g (h.row.lt g hg).2 (h.out g hg).1.1, fun q hq => ⟨⟨fun e => ?_, (h.out q hq).1.2⟩, (h.out q hq).2⟩⟩, h4⟩
  · rcases h3 q hq with e | e
    · exact h.ab q e
    · refine ⟨fun hb => ?_, fun hb => ?_⟩
      · have := (FbOwn.lt h.b hb).2
        omega
      · have := h.b.lt.1
        omega
  · rcases h3 q e with e | e
    · exact (h.out q hq).1.1 e
    · have := (h.row.lt q hq).2
      omega
theorem FbT.grow (h : FbT w0 ba ra bb rb cores room Ea Eb Fa Fb v L w) (hr : winRow w' w0.heap.size 32 13 v' L'.length (flatM L')) (hg : w.grownBy w' v.ownBlock) (ho : ∀ g, v'.ownBlock = some g → v.ownBlock = some g ∨ w.heap.size ≤ g) : FbT w0 ba ra bb rb cores room Ea Eb Fa Fb v' L' w' := by
  have hM : Mods (fun q => v.ownBlock = some q) w w' := Mods.grown hg fun q hq => hq
  have hlo : ∀ q, v.ownBlock = some q → w0.heap.size ≤ q := fun q hq => (h.row.lt q hq).1
  refine ⟨h.a.keep hM (fun e => (h.out _ e).1.2 rfl) (fun e => (h.out _ e).1.1 (.inl rfl)) (fun k g hg e => (h.out g e).1.1 (.inr ⟨k, hg⟩)) hlo, h.b.keep hM (fun e => (h.out _ e).2.2 rfl) (fun e => (h.out _ e).2.1 (.inl rfl)) (fun k g hg e => (h.out g e).2.1 (.inr ⟨k, hg⟩)) hlo, h.ab, h.ba', h.ne, hr, fun q hq => ?_⟩
  rcases ho q hq with e | e
  · exact h.out q e
  · have h1 := h.a.lt.1
    have h2 := h.b.lt.1
    refine ⟨⟨fun hf => ?_, by omega⟩, ⟨fun hf => ?_, by omega⟩⟩
    · have := (FbOwn.lt h.a hf).2
      omega
    · have := (FbOwn.lt h.b hf).2
      omega
theorem FbTwo.bel (h : FbTwo w0 ba bb cores room Fa na Fb nb v L w) (hb : Below w.heap.size w w') : FbTwo w0 ba bb cores room Fa na Fb nb v L w' := by
  obtain ⟨ra, rb, Ea, Eb, h1, h2, h3⟩ := h
  exact ⟨ra, rb, Ea, Eb, h1.bel hb, h2, h3⟩
theorem FbTwo.swap (h : FbTwo w0 ba bb cores room Fa na Fb nb v L w) : FbTwo w0 bb ba cores room Fb nb Fa na v L w := by
  obtain ⟨ra, rb, Ea, Eb, h1, h2, h3⟩ := h
  exact ⟨rb, ra, Eb, Ea, h1.swap, h3, h2⟩
theorem FbTwo.sa (h : FbTwo w0 ba bb cores room Fa na Fb nb v L w) : FbS w0 ba cores room Fa na [] w := by
  obtain ⟨ra, rb, Ea, Eb, h1, h2, h3⟩ := h
  exact ⟨ra, Ea, h1.a, h2, fun q hq => by cases hq⟩
theorem FbTwo.sb (h : FbTwo w0 ba bb cores room Fa na Fb nb v L w) : FbS w0 bb cores room Fb nb [] w := h.swap.sa
theorem FbTwo.below (h : FbTwo w0 ba bb cores room Fa na Fb nb v L w) : Below w0.heap.size w0 w := h.sa.below
theorem FbTwo.row (h : FbTwo w0 ba bb cores room Fa na Fb nb v L w) : winRow w w0.heap.size 32 13 v L.length (flatM L) := by
  obtain ⟨ra, rb, Ea, Eb, h1, h2, h3⟩ := h
  exact h1.row
theorem FbTwo.grow (h : FbTwo w0 ba bb cores room Fa na Fb nb v L w) (hr : winRow w' w0.heap.size 32 13 v' L'.length (flatM L')) (hg : w.grownBy w' v.ownBlock) (ho : ∀ g, v'.ownBlock = some g → v.ownBlock = some g ∨ w.heap.size ≤ g) : FbTwo w0 ba bb cores room Fa na Fb nb v' L' w' := by
  obtain ⟨ra, rb, Ea, Eb, h1, h2, h3⟩ := h
  exact ⟨ra, rb, Ea, Eb, h1.grow hr hg ho, h2, h3⟩
theorem FbTwo.start {w1 : World} {wx : World} (h1 : FbE w0 ba ra cores room Ea Fa w1) (h2 : FbE w1 bb rb cores room [] Fb wx) (hna : totF Ea Fa = na) (hnb : totF [] Fb = nb) : FbTwo w0 ba bb cores room Fa na Fb nb nilS [] wx := by
  have hb := h1.below
  have ho : ∀ q, FbOwn ([] : List (Plc × Value)) rb q → w1.heap.size ≤ q := fun q hq => (FbOwn.lt h2 hq).1
  have hl := h1.lt.1
  have hl2 := h2.lo.1
  refine ⟨ra, rb, Ea, [], ⟨h1.bel h2.below, h2.rebase hb, fun q hq => ⟨fun e => ?_, ?_⟩, fun q hq => ?_, by omega, winRow_nil _ _ _ _, fun q hq => by cases hq⟩, hna, hnb⟩
  · have := ho q e
    have := (FbOwn.lt h1 hq).2
    omega
  · have := (FbOwn.lt h1 hq).2
    omega
  · have := ho q hq
    omega
end
theorem two_sendB (A : Nat → Addr) (w0 : World) (ba bb na nb : Nat) (cores room : Int) (rn : Nat) (hrn : room = rn) (Fa Fb : Plc → List MsgV) (v : Value) (L l : List MsgV) (w : World) (h : FbTwo w0 ba bb cores room Fa na Fb nb v L w) (hs : SentAt w0 A) (hl : l.length ≤ 100000) (hF : LeF Fa rn) (hro : rn ≤ 100000) :
    Calls Tryd.prog 11 #[.pointer (some ⟨ba, 0, none⟩), .slice (some ⟨w.heap.size, 0, none⟩) l.length l.length] (w.alloc (.cells (flatM l).toArray 32)) fun ev w' => ev = .returned ((fitsE cores room Fa l).val A) ∧ FbTwo w0 ba bb cores room (sendF cores room Fa l) (na + sentN cores room Fa l) Fb nb v L w' := by
  obtain ⟨ra, rb, Ea, Eb, h1, h2, h3⟩ := h
  have hb : Below w.heap.size w (w.alloc (.cells (flatM l).toArray 32)) := (Below.refl _ _).alloc (Nat.le_refl _) _
  have h4 := h1.bel hb
  refine (fsend_c A w0 ba ra cores room Ea Fa _ l _ h4.a (hs.below h4.a.below) (slc_built w _ 13 l.length (flatM l) (flatM_length l)) (fun q hq hf => ?_) hl (fun q => by have := hF q; omega) (by omega)).mono ?_
  · have e := Option.some.inj (show some w.heap.size = some q from hq)
    have := (FbOwn.lt h1.a hf).2
    omega
  · rintro ev w' ⟨rfl, hp⟩
    obtain ⟨Ea', h5, h6⟩ := h4.post hp
    exact ⟨rfl, ra, rb, Ea', Eb, h5, by omega, h3⟩
theorem two_sendR (A : Nat → Addr) (w0 : World) (ba bb na nb : Nat) (cores room : Int) (rn : Nat) (hrn : room = rn) (Fa Fb : Plc → List MsgV) (v : Value) (L : List MsgV) (w : World) (h : FbTwo w0 ba bb cores room Fa na Fb nb v L w) (hs : SentAt w0 A) (hl : L.length ≤ 100000) (hF : LeF Fa rn) (hro : rn ≤ 100000) :
    Calls Tryd.prog 11 #[.pointer (some ⟨ba, 0, none⟩), v] w fun ev w' => ev = .returned ((fitsE cores room Fa L).val A) ∧ FbTwo w0 ba bb cores room (sendF cores room Fa L) (na + sentN cores room Fa L) Fb nb v L w' := by
  obtain ⟨ra, rb, Ea, Eb, h1, h2, h3⟩ := h
  refine (fsend_c A w0 ba ra cores room Ea Fa v L _ h1.a (hs.below h1.a.below) h1.row.slc (fun q hq => (h1.out q hq).1.1) hl (fun q => by have := hF q; omega) (by omega)).mono ?_
  rintro ev w' ⟨rfl, hp⟩
  obtain ⟨Ea', h5, h6⟩ := h1.post hp
  exact ⟨rfl, ra, rb, Ea', Eb, h5, by omega, h3⟩

/-- The plain law: in one go as one by one. -/
theorem whole_full {k : Nat} {L : List MsgV} {n : Nat} {m : MsgV} (hm : L[n]? = some m) : fullB k (fun _ => []) L n = decide ((k : Int) < ((addM (fun _ => []) (L.take n) (plM m)).length : Int) + 1) := by
  unfold fullB
  rw [hm]
  simp only
  rw [addM_len, List.take_add_one, hm, cntP_append]
  simp [cntP]
theorem whole_one {k : Nat} {L : List MsgV} {n : Nat} {m : MsgV} (hm : L[n]? = some m) (hb : badM 4 m = false) : fitsE 4 k (addM (fun _ => []) (L.take n)) [m] = if fullB k (fun _ => []) L n then .wrap fsT 0 (.sent 5) else .nil := by
  rw [fits_one hb, whole_full hm]
  by_cases h : (k : Int) < ((addM (fun _ => []) (L.take n) (plM m)).length : Int) + 1 <;> simp [h]
theorem whole_next {k : Nat} {L : List MsgV} {n : Nat} {m : MsgV} (hm : L[n]? = some m) (h : fitsE 4 k (addM (fun _ => []) (L.take n)) [m] = .nil) : sendF 4 k (addM (fun _ => []) (L.take n)) [m] = addM (fun _ => []) (L.take (n + 1)) := by
  rw [(send_one h).1, List.take_add_one, hm]
  exact (addM_snoc m (L.take n) (fun _ => [])).symm
theorem whole_bad {L : List MsgV} (h : ∀ m ∈ L, badM 4 m = false) : ∀ j, j < L.length → badB 4 L j = false := fun j hj => by
  unfold badB
  rw [List.getElem?_eq_getElem hj]
  exact h _ (List.getElem_mem _)

end Go.Proofs.YtbefkkefglkleaaDoor
