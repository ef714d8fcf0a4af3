/- errors.As at a target of type *api.Fault. -/
import Derived.Test.YtbefkkefglkleaaDoorErr3
namespace Go.Proofs.YtbefkkefglkleaaDoor
open Go.RowKit Go.Extern.Stop Go.Stop Go.Extern

def ErrT.isWrap : ErrT → Bool
  | .wrap _ _ _ => true
  | _ => false

/-- Behind errors.As: the target's block holds the Fault, if one was found; nothing else that was there has turned. -/
structure AsPost (A : Nat → Addr) (e : ErrT) (t : Nat) (w w' : World) : Prop where
  os : w'.os = w.os
  tape : w'.tape = w.tape
  output : w'.output = w.output
  size : w.heap.size ≤ w'.heap.size
  block : ∀ k, k < w.heap.size → k ≠ t → w'.heap[k]? = w.heap[k]?
  tgt : w'.heap[t]? = match e with
    | .wrap op i e2 => some (.cells #[.string op, .int .i64 i, e2.val A] 75 (0, 0))
    | _ => w.heap[t]?

theorem AsPost.below {A : Nat → Addr} {e : ErrT} {t : Nat} {w w' : World} (h : AsPost A e t w w') (ht : t ≤ w.heap.size) : Below t w w' :=
  ⟨h.os, h.tape, h.output, h.size, fun k hk => h.block k (by omega) (by omega)⟩
theorem AsPost.of_below {A : Nat → Addr} {e : ErrT} {t : Nat} {w w' : World} (h : Below w.heap.size w w') (ht : t < w.heap.size) (he : ∀ op i e2, e ≠ .wrap op i e2) : AsPost A e t w w' :=
  ⟨h.os, h.tape, h.output, h.size, fun k hk _ => h.block k hk, by
    rw [h.block t ht]
    cases e with
    | wrap op i e2 => exact absurd rfl (he op i e2)
    | _ => rfl⟩

theorem there_of_row {W : World} {t : Nat} {old : Array Value} {ty : TypeId} (h : W.heap[t]? = some (.cells old ty (0, 0))) (hz : old.size = 3) : W.there t 0 3 := by
  intro j hj
  constructor
  · simp [World.cell?, h]
    omega
  · simp [World.frozen?, h]

theorem heap_setCell_at {W : World} {t k : Nat} {cs : Array Value} {ty : TypeId} {fr : Nat × Nat} (h : W.heap[t]? = some (.cells cs ty fr)) (v : Value) :
    (W.setCell ⟨t, k, none⟩ v).heap[t]? = some (.cells (cs.setIfInBounds k v) ty fr) := by
  simp only [World.setCell, Array.getElem?_modify, h]
  simp

theorem AsPost.of_set {A : Nat → Addr} {op : ByteArray} {i : Int} {e2 : ErrT} {t : Nat} {old : Array Value} {w W : World} {v : Value} (hb : Below w.heap.size w W)
    (hold : w.heap[t]? = some (.cells old 75 (0, 0))) (hz : old.size = 3) (hv : e2.val A = v) (o1 o2 : Obj) :
    AsPost A (.wrap op i e2) t w (((W.alloc o1).alloc o2).setCells t 0 [.string op, .int .i64 i, v]) := by
  have htl : t < w.heap.size := (Array.getElem?_eq_some_iff.1 hold).1
  have hb2 : Below w.heap.size w ((W.alloc o1).alloc o2) := (hb.alloc hb.size o1).alloc (by have := hb.size; simp; omega) o2
  generalize (W.alloc o1).alloc o2 = X at hb2 ⊢
  have hX : X.heap[t]? = some (.cells old 75 (0, 0)) := (hb2.block t htl).trans hold
  have hsz : ∀ (Y : World) (a : Addr) (u : Value), (Y.setCell a u).heap.size = Y.heap.size := fun Y a u => by simp [World.setCell]
  refine ⟨hb2.os, hb2.tape, hb2.output, ?_, fun k hk hkt => ?_, ?_⟩
  · simp only [World.setCells, hsz]
    exact hb2.size
  · simp only [World.setCells]
    rw [Below.heap_setCell _ _ _ _ hkt, Below.heap_setCell _ _ _ _ hkt, Below.heap_setCell _ _ _ _ hkt]
    exact hb2.block k hk
  · simp only [World.setCells]
    rw [heap_setCell_at (heap_setCell_at (heap_setCell_at hX _) _) _, hv]
    obtain ⟨l⟩ := old
    match l, hz with
    | [a, b, c], _ => rfl

set_option maxHeartbeats 4000000 in
theorem errAsC (A : Nat → Addr) (K : Nat → Prop) (e : ErrT) (t : Nat) (old : Array Value) (w : World) (hs : SentC w A K) (hw : e.wf) (hold : w.heap[t]? = some (.cells old 75 (0, 0))) (hz : old.size = 3) :
    Calls Tryd.prog 35 #[e.val A, .iface 79 (.pointer (some ⟨t, 0, none⟩))] w fun ev w' => ev = .returned (.bool e.isWrap) ∧ AsPost A e t w w' := by
  have htl : t < w.heap.size := (Array.getElem?_eq_some_iff.1 hold).1
  cases hn : e.isNil with
  | true =>
    obtain rfl : e = .nil := by cases e <;> first | rfl | cases hn
    simp only [ErrT.val]
    go_enter Tryd.func35, Tryd.ntmps35
    go_wp2
    go_ret
    exact ⟨rfl, AsPost.of_below (Below.refl _ _) htl (by simp)⟩
  | false =>
    have c1 := nCallValueOf
    have c2 := nCallType
    have c3 := nCallIsNil
    have c4 := nCallElemV
    have c5 := nCallSet
    have c6 := nCallKind
    have c7 := nCallElemT
    have c8 := nCallImplements
    have c9 := nCallAssignable
    have c10 := nCallTypeOf
    have f1 := nValueOfP
    have f2 := nTypeP
    have f3 := nMethodKind
    have f4 := nKindP
    have f5 := nKindF
    have f6 := nMethodElem
    have f7 := nMethodImplements
    have f8 := nMethodAssignable
    have f9 := nElemT
    have f10 := nImplements
    have f11 := nTypeOfF
    have f12 := nAssignF
    have f13 := nAssignE
    have f14 := nValueOfF
    have f15 := nIsTypeOf
    have g1 := nNoAsE
    have g2 := nNoUnwrapE
    have g3 := nNoUnwrapsE
    obtain ⟨te, ue, hev⟩ := e.val_iface A hn
    have HE := Lib.hid hev
    rw [hev]
    clear hev
    have n8 := nIsNil w.heap.size ⟨t, 0, none⟩ ((w.alloc (.cells #[.pointer (some ⟨t, 0, none⟩)] 79)).alloc (.cells #[hd 79, .pointer (some ⟨w.heap.size, 0, none⟩), .int .u64 150] 93)) (by simp)
    have hg2 : ((w.alloc (.cells #[.pointer (some ⟨t, 0, none⟩)] 79)).alloc (.cells #[hd 79, .pointer (some ⟨w.heap.size, 0, none⟩), .int .u64 150] 93)).cell? ⟨10, 0, none⟩ = some (rt 24) := by
      have hl := World.block_lt_of_cell? _ _ hs.et
      simp only at hl
      rw [World.cell?_alloc_lt _ _ _ (by simp; omega), World.cell?_alloc_lt _ _ _ (by simpa using hl)]
      exact hs.et
    go_enter Tryd.func35, Tryd.ntmps35
    go_wp2_with fail
    clear c2 c3 c6 c7 c8 f1 f2 f3 f4 f5 f6 f7 f9 f10 n8 hg2
    rw [← HE.out]
    clear HE
    have hb2 : Below w.heap.size w ((w.alloc (.cells #[.pointer (some ⟨t, 0, none⟩)] 79)).alloc (.cells #[hd 79, .pointer (some ⟨w.heap.size, 0, none⟩), .int .u64 150] 93)) :=
      ((Below.refl _ _).alloc (Nat.le_refl _) _).alloc (by simp) _
    have hz2 : ((w.alloc (.cells #[.pointer (some ⟨t, 0, none⟩)] 79)).alloc (.cells #[hd 79, .pointer (some ⟨w.heap.size, 0, none⟩), .int .u64 150] 93)).heap.size = w.heap.size + 2 := by simp
    have hp2 : ((w.alloc (.cells #[.pointer (some ⟨t, 0, none⟩)] 79)).alloc (.cells #[hd 79, .pointer (some ⟨w.heap.size, 0, none⟩), .int .u64 150] 93)).cell? ⟨w.heap.size, 0, none⟩ = some (.pointer (some ⟨t, 0, none⟩)) := by
      rw [World.cell?_alloc_lt _ _ _ (by simp)]
      simp
    generalize ((w.alloc (.cells #[.pointer (some ⟨t, 0, none⟩)] 79)).alloc (.cells #[hd 79, .pointer (some ⟨w.heap.size, 0, none⟩), .int .u64 150] 93)) = W at hb2 hz2 hp2 ⊢
    cases e with
    | nil => cases hn
    | sent k =>
      simp only [ErrT.val]
      go_enter Tryd.func46, Tryd.ntmps46
      go_wp2_with fail
      refine wp_loop_rounds 1 ?_
      rw [rounds_succ]
      go_wp2_with fail
      go_ret
      exact ⟨rfl, AsPost.of_below (hb2.alloc (by omega) _) htl (by simp)⟩
    | wrap op i e2 =>
      obtain ⟨t2, u2, hev2⟩ := e2.val_iface A hw.1
      have HE := Lib.hid hev2
      simp only [ErrT.val]
      rw [hev2]
      clear hev2
      have hthere : ∀ o : Obj, ((W.alloc o).alloc (.cells #[.string op, .int .i64 i, .iface t2 u2] 75)).there t 0 3 := fun o =>
        there_of_row (old := old) (ty := 75) (by
          rw [Below.heap_alloc _ _ _ (by simp; omega), Below.heap_alloc _ _ _ (by omega), hb2.block t htl]; exact hold) hz
      have hrange : ∀ o : Obj, ((W.alloc o).alloc (.cells #[.string op, .int .i64 i, .iface t2 u2] 75)).rangeAt (W.heap.size + 1) 0 [.string op, .int .i64 i, .iface t2 u2] := by
        intro o j v hj
        rw [World.cell?_alloc_at _ _ _ _ (by simp)]
        simpa using hj
      have el := nElemV w.heap.size ⟨t, 0, none⟩ (W.alloc (.cells #[hd 79, .pointer (some ⟨w.heap.size, 0, none⟩), .int .u64 150] 93)) (by rw [World.cell?_alloc_lt _ _ _ (by simp; omega)]; exact hp2)
      have st := nSet t (W.heap.size + 1) op i (.iface t2 u2) ((W.alloc (.cells #[hd 79, .pointer (some ⟨w.heap.size, 0, none⟩), .int .u64 150] 93)).alloc (.cells #[.string op, .int .i64 i, .iface t2 u2] 75)) rfl (hrange _) (hthere _)
      have HZ := Lib.hid hz2
      have HP := Lib.hid hp2
      clear hz2 hp2 hthere hrange
      go_enter Tryd.func46, Tryd.ntmps46
      go_wp2_with fail
      refine wp_loop_rounds 1 ?_
      rw [rounds_succ]
      go_wp2_with fail
      go_ret
      exact ⟨rfl, AsPost.of_set hb2 hold hz HE.out _ _⟩

theorem errAs (A : Nat → Addr) (e : ErrT) (t : Nat) (old : Array Value) (w : World) (hs : SentAt w A) (hw : e.wf) (hold : w.heap[t]? = some (.cells old 75 (0, 0))) (hz : old.size = 3) :
    Calls Tryd.prog 35 #[e.val A, .iface 79 (.pointer (some ⟨t, 0, none⟩))] w fun ev w' => ev = .returned (.bool e.isWrap) ∧ AsPost A e t w w' :=
  errAsC A _ e t old w hs.core hw hold hz

end Go.Proofs.YtbefkkefglkleaaDoor
