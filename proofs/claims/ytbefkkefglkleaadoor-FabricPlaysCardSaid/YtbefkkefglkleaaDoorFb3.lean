/- of; the fabric as its callers see it. -/
import Derived.Test.YtbefkkefglkleaaDoorFb2
import Derived.Test.YtbefkkefglkleaaDoorFa4
import Derived.Test.YtbefkkefglkleaaDoorErr7
namespace Go.Proofs.YtbefkkefglkleaaDoor
open Go.RowKit Go.Extern.Stop Go.Stop Go.Extern

def ofM (k c : Int) : MsgV := ⟨k, c, 0, 0, 0, 0, 0, 0, 0, 0, 0, 0, false⟩
set_option maxRecDepth 100000 in
set_option maxHeartbeats 4000000 in
theorem of_c (k c : Int) (w : World) : Calls Tryd.prog 12 #[.int .i64 k, .int .i64 c] w fun ev w' => ev = .returned (ofM k c).v ∧ Below w.heap.size w w' := by
  have hba : Below w.heap.size w (w.alloc (.cells #[.int .i64 0, .int .i64 0, .int .i64 0, .int .i64 0, .int .i64 0, .int .i64 0, .int .i64 0, .int .u32 0, .int .u32 0, .int .u32 0, .int .u32 0, .int .u32 0, .bool false] 32)) := (Below.refl _ _).alloc (Nat.le_refl _) _
  have HBA := Lib.hid hba
  have HXA := Lib.hid (heap_alloc_new w (.cells #[.int .i64 0, .int .i64 0, .int .i64 0, .int .i64 0, .int .i64 0, .int .i64 0, .int .i64 0, .int .u32 0, .int .u32 0, .int .u32 0, .int .u32 0, .int .u32 0, .bool false] 32))
  clear hba
  go_enter Tryd.func12, Tryd.ntmps12
  go_upto_region 1 with fail
  obtain ⟨h8, hh8⟩ : ∃ h, h = w.heap.size := ⟨_, rfl⟩
  have HLE := Lib.hid (show w.heap.size ≤ h8 by omega)
  rw [← hh8] at HXA ⊢
  generalize w.alloc (.cells #[.int .i64 0, .int .i64 0, .int .i64 0, .int .i64 0, .int .i64 0, .int .i64 0, .int .i64 0, .int .u32 0, .int .u32 0, .int .u32 0, .int .u32 0, .int .u32 0, .bool false] 32) = w2 at *
  clear hh8
  have hxr := HXA.out
  have r0 := cell_of hxr 0
  have r1 := cell_of hxr 1
  have r2 := cell_of hxr 2
  have r3 := cell_of hxr 3
  have r4 := cell_of hxr 4
  have r5 := cell_of hxr 5
  have r6 := cell_of hxr 6
  have r7 := cell_of hxr 7
  have r8 := cell_of hxr 8
  have r9 := cell_of hxr 9
  have r10 := cell_of hxr 10
  have r11 := cell_of hxr 11
  have r12 := cell_of hxr 12
  simp only [List.getElem?_toArray, List.getElem?_cons_zero, List.getElem?_cons_succ] at r0 r1 r2 r3 r4 r5 r6 r7 r8 r9 r10 r11 r12
  have hlr := (Array.getElem?_eq_some_iff.1 hxr).1
  have zr0 := frozen_of hxr 0
  have zr1 := frozen_of hxr 1
  have zr2 := frozen_of hxr 2
  have zr3 := frozen_of hxr 3
  have zr4 := frozen_of hxr 4
  have zr5 := frozen_of hxr 5
  have zr6 := frozen_of hxr 6
  have zr7 := frozen_of hxr 7
  have zr8 := frozen_of hxr 8
  have zr9 := frozen_of hxr 9
  have zr10 := frozen_of hxr 10
  have zr11 := frozen_of hxr 11
  have zr12 := frozen_of hxr 12
  go_wp2_with fail
  rw [← set13 w2 h8]
  have hz := block13 hxr (.int .i64 k) (.int .i64 c) (.int .i64 0) (.int .i64 0) (.int .i64 0) (.int .i64 0) (.int .i64 0) (.int .u32 0) (.int .u32 0) (.int .u32 0) (.int .u32 0) (.int .u32 0) (.bool false)
  have HBZ := Lib.hid (HBA.out.trans ((mods13 w2 h8 (.int .i64 k) (.int .i64 c) (.int .i64 0) (.int .i64 0) (.int .i64 0) (.int .i64 0) (.int .i64 0) (.int .u32 0) (.int .u32 0) (.int .u32 0) (.int .u32 0) (.int .u32 0) (.bool false)).below HBA.out.size fun q (hq : q = h8) => by have := HLE.out; omega))
  clear hxr hlr r0 r1 r2 r3 r4 r5 r6 r7 r8 r9 r10 r11 r12 zr0 zr1 zr2 zr3 zr4 zr5 zr6 zr7 zr8 zr9 zr10 zr11 zr12
  generalize w2.setCells h8 0 [.int .i64 k, .int .i64 c, .int .i64 0, .int .i64 0, .int .i64 0, .int .i64 0, .int .i64 0, .int .u32 0, .int .u32 0, .int .u32 0, .int .u32 0, .int .u32 0, .bool false] = wz at *
  have e0 := cell_of hz 0
  have e1 := cell_of hz 1
  have e2 := cell_of hz 2
  have e3 := cell_of hz 3
  have e4 := cell_of hz 4
  have e5 := cell_of hz 5
  have e6 := cell_of hz 6
  have e7 := cell_of hz 7
  have e8 := cell_of hz 8
  have e9 := cell_of hz 9
  have e10 := cell_of hz 10
  have e11 := cell_of hz 11
  have e12 := cell_of hz 12
  simp only [List.getElem?_toArray, List.getElem?_cons_zero, List.getElem?_cons_succ] at e0 e1 e2 e3 e4 e5 e6 e7 e8 e9 e10 e11 e12
  refine bodyPost_ret_by (v := (ofM k c).v) (by simp [results, Tryd.results12, go_sem, ofM, MsgV.v, e0, e1, e2, e3, e4, e5, e6, e7, e8, e9, e10, e11, e12]) rfl ?_
  exact ⟨rfl, HBZ.out⟩

/-- What a caller keeps stays. -/
structure Kp (K : List Nat) (w w' : World) : Prop where
  size : w.heap.size ≤ w'.heap.size
  keep : ∀ q ∈ K, q < w.heap.size → w'.heap[q]? = w.heap[q]?
theorem Kp.of_below {K : List Nat} {w w' : World} (h : Below w.heap.size w w') : Kp K w w' := ⟨h.size, fun q _ hq => h.block q hq⟩
theorem Kp.trans {K : List Nat} {a b c : World} (h : Kp K a b) (k : Kp K b c) : Kp K a c := ⟨Nat.le_trans h.size k.size, fun q hq hl => (k.keep q hq (Nat.lt_of_lt_of_le hl h.size)).trans (h.keep q hq hl)⟩
theorem Kp.sub {K K' : List Nat} {a b : World} (h : Kp K a b) (hs : ∀ q ∈ K', q ∈ K) : Kp K' a b := ⟨h.size, fun q hq => h.keep q (hs q hq)⟩
theorem Kp.at {K : List Nat} {w w' : World} (h : Kp K w w') {q : Nat} (hq : q ∈ K) {o : Obj} (ho : w.heap[q]? = some o) : w'.heap[q]? = some o := (h.keep q hq (Array.getElem?_eq_some_iff.1 ho).1).trans ho
theorem Kp.cell {K : List Nat} {w w' : World} (h : Kp K w w') {p : Addr} (hp : p.block ∈ K) (hl : p.block < w.heap.size) : w'.cell? p = w.cell? p := World.cell?_of_block (w := w) (h.keep p.block hp hl)
theorem Kp.slc {K : List Nat} {w w' : World} (h : Kp K w w') {size : Nat} {v : Value} {n : Nat} {xs : List Value} (hv : slc w size v n xs) (ho : ∀ q, v.ownBlock = some q → q ∈ K) : slc w' size v n xs := by
  obtain ⟨h1, a, cap, rfl, h2⟩ := hv
  refine ⟨h1, a, cap, rfl, fun hn => ?_⟩
  obtain ⟨g, off, rfl, hg, hc⟩ := h2 hn
  exact ⟨g, off, rfl, Nat.lt_of_lt_of_le hg h.size, fun j u hj => (h.cell (p := ⟨g, off + j, none⟩) (ho g rfl) hg).trans (hc j u hj)⟩

/-- The fabric: the blocks K are the caller's. -/
def FbS (w0 : World) (b : Nat) (cores room : Int) (F : Plc → List MsgV) (n : Nat) (K : List Nat) (w : World) : Prop :=
  ∃ r E, FbE w0 b r cores room E F w ∧ totF E F = n ∧ ∀ q ∈ K, ¬ FbOwn E r q
section
variable {w0 w w' : World} {b n : Nat} {cores room : Int} {F : Plc → List MsgV} {K : List Nat}
theorem FbS.below (h : FbS w0 b cores room F n K w) : Below w0.heap.size w0 w := by
  obtain ⟨r, E, h, _⟩ := h
  exact h.below
theorem FbOwn.lt {r : Nat} {E : List (Plc × Value)} (h : FbE w0 b r cores room E F w) {q : Nat} (hq : FbOwn E r q) : w0.heap.size ≤ q ∧ q < w.heap.size := by
  rcases hq with e | ⟨k, hk⟩
  · exact ⟨by rw [e]; exact h.lo.2, by rw [e]; exact h.lt.2⟩
  · exact (h.rows k).lt q hk
theorem FbS.bel (h : FbS w0 b cores room F n K w) (hb : Below w.heap.size w w') : FbS w0 b cores room F n K w' := by
  obtain ⟨r, E, h1, h2, h3⟩ := h
  exact ⟨r, E, h1.bel hb, h2, h3⟩
theorem FbS.add (h : FbS w0 b cores room F n K w) (q : Nat) (hq : w.heap.size ≤ q) : FbS w0 b cores room F n (q :: K) w := by
  obtain ⟨r, E, h1, h2, h3⟩ := h
  refine ⟨r, E, h1, h2, fun k hk ho => ?_⟩
  rcases List.mem_cons.1 hk with e | hk
  · have := FbOwn.lt h1 ho
    omega
  · exact h3 k hk ho
theorem FbS.old (h : FbS w0 b cores room F n K w) (q : Nat) (hq : q < w0.heap.size) : FbS w0 b cores room F n (q :: K) w := by
  obtain ⟨r, E, h1, h2, h3⟩ := h
  refine ⟨r, E, h1, h2, fun k hk ho => ?_⟩
  rcases List.mem_cons.1 hk with e | hk
  · have := FbOwn.lt h1 ho
    omega
  · exact h3 k hk ho
theorem FbS.sub {K' : List Nat} (h : FbS w0 b cores room F n K w) (hs : ∀ q ∈ K', q ∈ K) : FbS w0 b cores room F n K' w := by
  obtain ⟨r, E, h1, h2, h3⟩ := h
  exact ⟨r, E, h1, h2, fun q hq => h3 q (hs q hq)⟩
theorem FbS.post {r : Nat} {E : List (Plc × Value)} {F' : Plc → List MsgV} {d a : Nat} (hn : totF E F = n) (hk : ∀ q ∈ K, ¬ FbOwn E r q) (hp : FbPost w0 b r cores room E F F' w d a w') (hl : ∀ q ∈ K, q < w.heap.size) : FbS w0 b cores room F' (n + a - d) K w' ∧ Kp K w w' := by
  obtain ⟨E', h1, h2, h3, h4⟩ := hp
  refine ⟨⟨r, E', h1, by omega, fun q hq ho => ?_⟩, h2.size, fun q hq hlt => h2.block q hlt (hk q hq)⟩
  rcases h3 q ho with e | e
  · exact hk q hq e
  · have := hl q hq
    omega
end
theorem fbs_new (cores room : Int) (K : List Nat) (w : World) (h1 : 1 ≤ cores) (h2 : cores ≤ 64) (h3 : 1 ≤ room) (h4 : room ≤ 64) (hK : ∀ q ∈ K, q < w.heap.size) :
    Calls Tryd.prog 10 #[.int .i64 cores, .int .i64 room] w fun ev w' => ∃ b, ev = .returned (.tuple #[.pointer (some ⟨b, 0, none⟩), .nilIface]) ∧ FbS w b cores room (fun _ => []) 0 K w' := by
  refine (fnew_ok cores room w h1 h2 h3 h4).mono ?_
  rintro ev w' ⟨b, r, rfl, h⟩
  refine ⟨b, rfl, r, [], h, rfl, fun q hq ho => ?_⟩
  have := FbOwn.lt h ho
  have := hK q hq
  omega
theorem fbs_fits (A : Nat → Addr) (w0 : World) (b n : Nat) (cores room : Int) (F : Plc → List MsgV) (K : List Nat) (v : Value) (l : List MsgV) (w : World) (h : FbS w0 b cores room F n K w) (hs : SentAt w0 A) (hv : slc w 13 v l.length (flatM l)) (hl : l.length ≤ 100000) (hF : ∀ q, (F q).length ≤ 100000) (hro : 0 ≤ room ∧ room ≤ 100000) :
    Calls Tryd.prog 18 #[.pointer (some ⟨b, 0, none⟩), v] w fun ev w' => ev = .returned ((fitsE cores room F l).val A) ∧ Below w.heap.size w w' := by
  obtain ⟨r, E, h1, h2, h3⟩ := h
  exact ffits_c A w0 b r cores room E F v l w h1 (hs.below h1.below) hv hl hF hro
theorem fbs_send (A : Nat → Addr) (w0 : World) (b n : Nat) (cores room : Int) (F : Plc → List MsgV) (K : List Nat) (v : Value) (l : List MsgV) (w : World) (h : FbS w0 b cores room F n K w) (hs : SentAt w0 A) (hv : slc w 13 v l.length (flatM l)) (ho : ∀ q, v.ownBlock = some q → q ∈ K) (hK : ∀ q ∈ K, q < w.heap.size) (hl : l.length ≤ 100000) (hF : ∀ q, (F q).length ≤ 100000) (hro : 0 ≤ room ∧ room ≤ 100000) :
    Calls Tryd.prog 11 #[.pointer (some ⟨b, 0, none⟩), v] w fun ev w' => ev = .returned ((fitsE cores room F l).val A) ∧ FbS w0 b cores room (sendF cores room F l) (n + sentN cores room F l) K w' ∧ Kp K w w' := by
  obtain ⟨r, E, h1, h2, h3⟩ := h
  refine (fsend_c A w0 b r cores room E F v l w h1 (hs.below h1.below) hv (fun _ q hq => h3 q (ho q hq)) hl hF hro).mono ?_
  rintro ev w' ⟨rfl, hp⟩
  exact ⟨rfl, FbS.post h2 h3 hp hK⟩
theorem fbs_take (w0 : World) (b n : Nat) (cores room p c k : Int) (F : Plc → List MsgV) (K : List Nat) (w : World) (h : FbS w0 b cores room F n K w) (hK : ∀ q ∈ K, q < w.heap.size) :
    Calls Tryd.prog 13 #[.pointer (some ⟨b, 0, none⟩), .int .i64 p, .int .i64 c, .int .i64 k] w fun ev w' => ev = .returned (.tuple #[(peekP cores F p c k).1.v, .bool (peekP cores F p c k).2]) ∧ FbS w0 b cores room (takeF cores F p c k) (n + 0 - tookN cores F p c k) K w' ∧ Kp K w w' := by
  obtain ⟨r, E, h1, h2, h3⟩ := h
  refine (ftake_c w0 b r cores room p c k E F w h1).mono ?_
  rintro ev w' ⟨rfl, hp⟩
  exact ⟨rfl, FbS.post h2 h3 hp hK⟩
theorem fbs_peek (w0 : World) (b n : Nat) (cores room p c k : Int) (F : Plc → List MsgV) (K : List Nat) (w : World) (h : FbS w0 b cores room F n K w) :
    Calls Tryd.prog 22 #[.pointer (some ⟨b, 0, none⟩), .int .i64 p, .int .i64 c, .int .i64 k] w fun ev w' => ev = .returned (.tuple #[(peekP cores F p c k).1.v, .bool (peekP cores F p c k).2]) ∧ Below w.heap.size w w' := by
  obtain ⟨r, E, h1, h2, h3⟩ := h
  exact fpeek_c w0 b r cores room p c k E F w h1
theorem fbs_len (w0 : World) (b n : Nat) (cores room p c : Int) (F : Plc → List MsgV) (K : List Nat) (w : World) (h : FbS w0 b cores room F n K w) :
    Calls Tryd.prog 16 #[.pointer (some ⟨b, 0, none⟩), .int .i64 p, .int .i64 c] w fun ev w' => ev = .returned (.int .i64 (lenP cores F p c)) ∧ Below w.heap.size w w' := by
  obtain ⟨r, E, h1, h2, h3⟩ := h
  exact flen_c w0 b r cores room p c E F w h1
theorem fbs_all (w0 : World) (b n : Nat) (cores room : Int) (F : Plc → List MsgV) (K : List Nat) (w : World) (h : FbS w0 b cores room F n K w) (hn : n ≤ 1000000) :
    Calls Tryd.prog 14 #[.pointer (some ⟨b, 0, none⟩)] w fun ev w' => ev = .returned (.int .i64 (n : Nat)) ∧ Below w.heap.size w w' := by
  obtain ⟨r, E, h1, h2, h3⟩ := h
  rw [← h2] at hn ⊢
  exact fall_c w0 b r cores room E F w h1 hn

end Go.Proofs.YtbefkkefglkleaaDoor
