/- pack.Read, a reader in memory; Wrong, At and fail. -/
import Derived.Test.YtpljdbcifaeblaaDoorPk2
import Derived.Test.YtpljdbcifaeblaaDoorMods
namespace Go.Proofs.YtpljdbcifaeblaaDoor
open Go.RowKit Go.Extern.Stop Go.Stop Go.Extern

/-- A reader at block b: its bytes, its place, its error. -/
structure RdAt (w : World) (A : Nat → Addr) (b : Nat) (v : Value) (L : List Nat) (at_ : Nat) (e : ErrT) : Prop where
  blk : w.heap[b]? = some (.cells #[v, .int .i64 at_, e.val A] 103 (0, 0))
  row : slc w 1 v L.length (byteV L)
  own : ∀ g, v.ownBlock = some g → g ≠ b
  le : at_ ≤ L.length
  big : L.length ≤ 140737488355320
  byt : ∀ c ∈ L, c < 256
  cap : ∀ a n c, v = .slice a n c → n ≤ c
def onlyS (b : Nat) : Nat → Prop := fun k => k = b
section
variable {w w' : World} {A : Nat → Addr} {b : Nat} {v : Value} {L : List Nat} {at_ : Nat} {e : ErrT}
theorem RdAt.lt (h : RdAt w A b v L at_ e) : b < w.heap.size := (Array.getElem?_eq_some_iff.1 h.blk).1
theorem RdAt.below (h : RdAt w A b v L at_ e) (hb : Below w.heap.size w w') : RdAt w' A b v L at_ e :=
  ⟨(hb.block b h.lt).trans h.blk, h.row.below hb, h.own, h.le, h.big, h.byt, h.cap⟩
theorem RdAt.keep {S : Nat → Prop} (h : RdAt w A b v L at_ e) (hm : Mods S w w') (hb : ¬ S b) (hv : ∀ g, v.ownBlock = some g → ¬ S g) : RdAt w' A b v L at_ e :=
  ⟨(hm.block b h.lt hb).trans h.blk, h.row.keep hm hv, h.own, h.le, h.big, h.byt, h.cap⟩
/-- Its place and its error turned. -/
theorem RdAt.turn (h : RdAt w A b v L at_ e) {at2 : Nat} {e2 : ErrT} (hm : Mods (onlyS b) w w') (hblk : w'.heap[b]? = some (.cells #[v, .int .i64 at2, e2.val A] 103 (0, 0))) (hle : at2 ≤ L.length) : RdAt w' A b v L at2 e2 :=
  ⟨hblk, h.row.keep hm (fun g hg hs => h.own g hg hs), h.own, hle, h.big, h.byt, h.cap⟩
end

set_option maxHeartbeats 1000000 in
theorem read_c (A : Nat → Addr) (v0 : Value) (L : List Nat) (w : World) (hv : slc w 1 v0 L.length (byteV L)) (hbig : L.length ≤ 140737488355320) (hbyt : ∀ c ∈ L, c < 256) :
    Calls Tryd.prog 43 #[v0] w fun ev w' => ∃ b v, ev = .returned (.pointer (some ⟨b, 0, none⟩)) ∧ RdAt w' A b v L 0 .nil ∧ w.heap.size ≤ b ∧ (∀ g, v.ownBlock = some g → w.heap.size ≤ g) ∧ Below w.heap.size w w' := by
  have HV := Lib.hid hv
  obtain ⟨_, ad0, cap0, rfl, _⟩ := hv
  go_enter Tryd.func43, Tryd.ntmps43
  go_wp2_with fail
  refine (cloneB_c _ L w HV.out hbig).mono ?_
  rintro ev w1 ⟨u1, rfl, hu1, hB1⟩
  have HU := Lib.hid hu1
  obtain ⟨ad1, cap1, rfl⟩ := hu1.len
  clear hu1
  go_wp2_with fail
  go_ret
  have hb2 : Below w1.heap.size w1 (w1.alloc (.cells #[.slice ad1 L.length cap1, .int .i64 0, .nilIface] 103)) := (Below.refl _ _).alloc (Nat.le_refl _) _
  refine ⟨w1.heap.size, _, rfl, ⟨heap_alloc_new w1 _, HU.out.slc.below hb2, fun g hg => ?_, Nat.zero_le _, hbig, hbyt, fun a n c hv => ?_⟩, hB1.size, fun g hg => (HU.out.lt g hg).1, hB1.trans (hb2.mono hB1.size)⟩
  · have := (HU.out.lt g hg).2
    omega
  · simp only [Value.slice.injEq] at hv
    obtain ⟨_, rfl, rfl⟩ := hv
    rcases Nat.eq_zero_or_pos L.length with h | h
    · omega
    · obtain ⟨g, off, c2, he, hcap, _⟩ := HU.out.form h
      simp only [Value.slice.injEq] at he
      omega

set_option maxHeartbeats 1000000 in
theorem wrong_c (A : Nat → Addr) (b : Nat) (v : Value) (L : List Nat) (at_ : Nat) (e : ErrT) (w : World) (h : RdAt w A b v L at_ e) :
    Calls Tryd.prog 58 #[.pointer (some ⟨b, 0, none⟩)] w fun ev w' => ev = .returned (e.val A) ∧ w = w' := by
  have c2 := cell_of h.blk 2
  simp only [List.getElem?_toArray, List.getElem?_cons_zero, List.getElem?_cons_succ] at c2
  cases hn : e.isNil with
  | true =>
    obtain rfl : e = .nil := by cases e <;> first | rfl | cases hn
    simp only [ErrT.val] at c2 ⊢
    go_enter Tryd.func58, Tryd.ntmps58
    go_wp2_with fail
    go_ret
    exact ⟨rfl, rfl⟩
  | false =>
    obtain ⟨t2, u2, hev⟩ := e.val_iface A hn
    rw [hev] at c2 ⊢
    clear hev
    go_enter Tryd.func58, Tryd.ntmps58
    go_wp2_with fail
    go_ret
    exact ⟨rfl, rfl⟩


def prT : ByteArray := ⟨#[112, 97, 99, 107, 46, 82, 101, 97, 100]⟩
set_option maxHeartbeats 1000000 in
theorem fail_c (A : Nat → Addr) (b : Nat) (v : Value) (L : List Nat) (at_ : Nat) (e : ErrT) (k : Nat) (w : World) (h : RdAt w A b v L at_ e) :
    Calls Tryd.prog 59 #[.pointer (some ⟨b, 0, none⟩), (ErrT.sent k).val A] w fun ev w' => ev = .returned (.int .i64 0) ∧ RdAt w' A b v L at_ (.wrap prT at_ (.sent k)) ∧ Mods (onlyS b) w w' := by
  have c1 := cell_of h.blk 1
  have c2 := cell_of h.blk 2
  have z2 := frozen_of h.blk 2
  simp only [List.getElem?_toArray, List.getElem?_cons_zero, List.getElem?_cons_succ] at c1 c2
  have HH := Lib.hid h
  rw [show (ErrT.sent k).val A = .iface 138 (.pointer (some (A k))) from rfl]
  clear h
  go_enter Tryd.func59, Tryd.ntmps59
  go_wp2_with fail
  change Calls Tryd.prog _ #[_, _, (ErrT.sent k).val A] _ _
  refine (wrap_c A prT at_ (.sent k) w).mono ?_
  rintro ev w' ⟨rfl, hww⟩
  obtain rfl := hww.symm
  rw [show (wrapE prT (at_ : Int) (.sent k)).val A = .iface 80 (.agg #[.string prT, .int .i64 at_, .iface 138 (.pointer (some (A k)))]) from rfl]
  go_wp2_with fail
  go_ret
  have hm : Mods (onlyS b) w (w.setCell ⟨b, 2, none⟩ (.iface 80 (.agg #[.string prT, .int .i64 at_, .iface 138 (.pointer (some (A k)))]))) := (Mods.refl (onlyS b) w).setCell (p := ⟨b, 2, none⟩) (show onlyS b b from rfl) _
  exact ⟨rfl, HH.out.turn hm (heap_setCell_at HH.out.blk _) HH.out.le, hm⟩

end Go.Proofs.YtpljdbcifaeblaaDoor
