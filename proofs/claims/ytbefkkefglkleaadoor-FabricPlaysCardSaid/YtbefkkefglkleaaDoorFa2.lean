/- The fabric in memory; New, Len. -/
import Derived.Test.YtbefkkefglkleaaDoorFa1
import Derived.Test.YtbefkkefglkleaaDoorMf1
namespace Go.Proofs.YtbefkkefglkleaaDoor
open Go.RowKit Go.Extern.Stop Go.Stop Go.Extern

/-- The cells of a row of messages. -/
def flatM : List MsgV → List Value
  | [] => []
  | m :: l => m.cs ++ flatM l
theorem cs_length (m : MsgV) : m.cs.length = 13 := rfl
theorem flatM_length (l : List MsgV) : (flatM l).length = l.length * 13 := by
  induction l with
  | nil => rfl
  | cons x l ih => simp only [flatM, List.length_append, cs_length, List.length_cons, ih]; omega
theorem flatM_append (l r : List MsgV) : flatM (l ++ r) = flatM l ++ flatM r := by
  induction l with
  | nil => rfl
  | cons x l ih => simp [flatM, ih]
theorem cs_one (m : MsgV) : ∀ u ∈ m.cs, u.oneCell' = true := by
  intro u hu
  simp only [MsgV.cs, List.mem_cons, List.not_mem_nil, or_false] at hu
  rcases hu with rfl | rfl | rfl | rfl | rfl | rfl | rfl | rfl | rfl | rfl | rfl | rfl | rfl <;> rfl
theorem flatM_one (l : List MsgV) : ∀ u ∈ flatM l, u.oneCell' = true := by
  induction l with
  | nil => intro u hu; cases hu
  | cons x l ih =>
    intro u hu
    simp only [flatM, List.mem_append] at hu
    rcases hu with hu | hu
    · exact cs_one x u hu
    · exact ih u hu
theorem flatM_at {l : List MsgV} {k : Nat} {e : MsgV} (h : l[k]? = some e) {c : Nat} {v : Value} (hc : e.cs[c]? = some v) : (flatM l)[k * 13 + c]? = some v := by
  induction l generalizing k with
  | nil => simp at h
  | cons y l ih =>
    have hc6 : c < 13 := (List.getElem?_eq_some_iff.1 hc).1
    cases k with
    | zero =>
      simp only [List.getElem?_cons_zero, Option.some.injEq] at h
      subst h
      rw [flatM, Nat.zero_mul, Nat.zero_add, List.getElem?_append_left (by rw [cs_length]; exact hc6)]
      exact hc
    | succ k =>
      simp only [List.getElem?_cons_succ] at h
      rw [flatM, List.getElem?_append_right (by rw [cs_length]; omega), cs_length, show (k + 1) * 13 + c - 13 = k * 13 + c by omega]
      exact ih h
def nilS : Value := .slice none 0 0
/-- How many wait in all. -/
def totF (E : List (Plc × Value)) (F : Plc → List MsgV) : Nat := (E.map fun x => (F x.1).length).sum
/-- A fabric: its struct at b, its map at r; F: what waits at each place; n: how many wait. -/
structure FbE (w0 : World) (b r : Nat) (cores room : Int) (E : List (Plc × Value)) (F : Plc → List MsgV) (wx : World) : Prop where
  blk : wx.heap[b]? = some (.cells #[.int .i64 cores, .int .i64 room, .map (some r)] 68 (0, 0))
  map : MapAt wx r E
  rows : ∀ k, winRow wx w0.heap.size 32 13 (getV nilS E k) (F k).length (flatM (F k))
  apart : ∀ k k', k ≠ k' → ∀ g, (getV nilS E k).ownBlock = some g → (getV nilS E k').ownBlock ≠ some g
  own : ∀ k g, (getV nilS E k).ownBlock = some g → g ≠ b ∧ g ≠ r
  ne : b ≠ r
  lo : w0.heap.size ≤ b ∧ w0.heap.size ≤ r
  nd : (E.map (·.1)).Nodup
  below : Below w0.heap.size w0 wx
section
variable {w0 wx wy : World} {b r : Nat} {cores room : Int} {E : List (Plc × Value)} {F : Plc → List MsgV}
theorem FbE.lt (h : FbE w0 b r cores room E F wx) : b < wx.heap.size ∧ r < wx.heap.size := ⟨(Array.getElem?_eq_some_iff.1 h.blk).1, (Array.getElem?_eq_some_iff.1 h.map).1⟩
theorem FbE.bel (h : FbE w0 b r cores room E F wx) (hb : Below wx.heap.size wx wy) : FbE w0 b r cores room E F wy :=
  ⟨(hb.block b h.lt.1).trans h.blk, (hb.block r h.lt.2).trans h.map, fun k => (h.rows k).below hb, h.apart, h.own, h.ne, h.lo, h.nd, h.below.trans (hb.mono h.below.size)⟩
end
theorem run_newMap (t : TypeId) (w : World) : (Instr.makeMap t none).run Tryd.prog w = .ok (.map (some w.heap.size)) (w.alloc (.map #[] 0)) := by
  simp [Instr.makeMap]
def lenP (cores : Int) (F : Plc → List MsgV) (p c : Int) : Int := if placeOk cores p c then ((F (placeP p c)).length : Int) else 0
def fbT : ByteArray := ⟨#[102, 97, 98, 114, 105, 99, 46, 78, 101, 119]⟩
def fsT : ByteArray := ⟨#[102, 97, 98, 114, 105, 99, 46, 83, 101, 110, 100]⟩

theorem fnew_ok (cores room : Int) (w : World) (h1 : 1 ≤ cores) (h2 : cores ≤ 64) (h3 : 1 ≤ room) (h4 : room ≤ 64) :
    Calls Tryd.prog 10 #[.int .i64 cores, .int .i64 room] w fun ev w' => ∃ b r, ev = .returned (.tuple #[.pointer (some ⟨b, 0, none⟩), .nilIface]) ∧ FbE w b r cores room [] (fun _ => []) w' := by
  have hmk := fun w => run_newMap 66 w
  have HF := Lib.hid (show FbE w (w.heap.size + 1) w.heap.size cores room [] (fun _ => []) ((w.alloc (.map #[] 0)).alloc (.cells #[.int .i64 cores, .int .i64 room, .map (some w.heap.size)] 68)) from by
    have hb1 : Below w.heap.size w (w.alloc (.map #[] 0)) := (Below.refl _ _).alloc (Nat.le_refl _) _
    have hs1 : (w.alloc (.map #[] 0)).heap.size = w.heap.size + 1 := by simp
    have hb2 : Below (w.alloc (.map #[] 0)).heap.size (w.alloc (.map #[] 0)) ((w.alloc (.map #[] 0)).alloc (.cells #[.int .i64 cores, .int .i64 room, .map (some w.heap.size)] 68)) := (Below.refl _ _).alloc (Nat.le_refl _) _
    have hn := heap_alloc_new (w.alloc (.map #[] 0)) (.cells #[.int .i64 cores, .int .i64 room, .map (some w.heap.size)] 68)
    rw [hs1] at hb2 hn
    exact ⟨hn, (hb2.block w.heap.size (by omega)).trans (heap_alloc_new _ _), fun k => winRow_nil _ _ _ _, fun _ _ _ g hg => (by cases hg), fun _ g hg => (by cases hg), by omega, ⟨by omega, Nat.le_refl _⟩, List.nodup_nil, hb1.trans (hb2.mono (by omega))⟩)
  go_enter Tryd.func10, Tryd.ntmps10
  go_wp2_with fail
  go_ret2
  exact ⟨_, _, rfl, HF.out⟩

set_option maxRecDepth 100000 in
set_option maxHeartbeats 2000000 in
theorem flen_c (w0 : World) (b r : Nat) (cores room p c : Int) (E : List (Plc × Value)) (F : Plc → List MsgV) (w : World) (h : FbE w0 b r cores room E F w) :
    Calls Tryd.prog 16 #[.pointer (some ⟨b, 0, none⟩), .int .i64 p, .int .i64 c] w fun ev w' => ev = .returned (.int .i64 (lenP cores F p c)) ∧ Below w.heap.size w w' := by
  have HF := Lib.hid h
  have hxb := h.blk
  have g0 := cell_of hxb 0
  have g2 := cell_of hxb 2
  simp only [List.getElem?_toArray, List.getElem?_cons_zero, List.getElem?_cons_succ] at g0 g2
  clear h
  go_enter Tryd.func16, Tryd.ntmps16
  go_wp2_with fail
  refine (at_c b cores p c w g0).mono ?_
  rintro ev w1 ⟨rfl, hb1⟩
  generalize hk : placeP p c = k at *
  obtain ⟨kp, kc⟩ := k
  simp only [keyV]
  have HK := Lib.hid hk
  have HF1 := Lib.hid (HF.out.bel hb1)
  have HB1 := Lib.hid hb1
  clear hb1 hk g0 g2 hxb
  go_upto_region 2 with fail
  have hb2 : Below w1.heap.size w1 (w1.alloc (.cells #[.int .i64 kp, .int .i64 kc] 70)) := (Below.refl _ _).alloc (Nat.le_refl _) _
  have HF2 := Lib.hid (HF1.out.bel hb2)
  have HB2 := Lib.hid (HB1.out.trans (hb2.mono HB1.out.size))
  have HP2 := Lib.hid (heap_alloc_new w1 (.cells #[.int .i64 kp, .int .i64 kc] 70))
  obtain ⟨h7, hh7⟩ : ∃ h, h = w1.heap.size := ⟨_, rfl⟩
  rw [← hh7] at HP2 ⊢
  generalize w1.alloc (.cells #[.int .i64 kp, .int .i64 kc] 70) = w2 at *
  clear hb2 hh7 HF1 HB1
  have HLP := Lib.hid (show lenP cores F p c = if placeOk cores p c then ((F (placeP p c)).length : Int) else 0 from rfl)
  obtain ⟨ok, hok⟩ : ∃ ok, placeOk cores p c = ok := ⟨_, rfl⟩
  rw [hok] at HLP ⊢
  clear hok
  cases ok with
  | false =>
    go_wp2_with fail
    go_ret
    exact ⟨by rw [HLP.out]; rfl, HB2.out⟩
  | true =>
    go_upto_region 4 with fail
    have hxb := HF2.out.blk
    have g0 := cell_of hxb 0
    have g2 := cell_of hxb 2
    have hxp := HP2.out
    have p0 := cell_of hxp 0
    have p1 := cell_of hxp 1
    simp only [List.getElem?_toArray, List.getElem?_cons_zero, List.getElem?_cons_succ] at g0 g2 p0 p1
    have hlb := HF2.out.lt.1
    have hlp := (Array.getElem?_eq_some_iff.1 hxp).1
    obtain ⟨ak, ck, hv⟩ := (HF2.out.rows (kp, kc)).len
    refine wp_region_lexA ⟨[], []⟩ (fun x => Below w2.heap.size w2 x) (by kernel_rfl) (by kernel_rfl) (Below.refl _ _).drew ?_
    intro S hto hof hne
    have x2 : ∀ z : Wd S, z.w.cell? ⟨b, 2, none⟩ = some (.map (some r)) := fun z => ((hto z).cell (p := ⟨b, 2, none⟩) hlb).trans g2
    have y0 : ∀ z : Wd S, z.w.cell? ⟨h7, 0, none⟩ = some (.int .i64 kp) := fun z => ((hto z).cell (p := ⟨h7, 0, none⟩) hlp).trans p0
    have y1 : ∀ z : Wd S, z.w.cell? ⟨h7, 1, none⟩ = some (.int .i64 kc) := fun z => ((hto z).cell (p := ⟨h7, 1, none⟩) hlp).trans p1
    have hlook : ∀ z : Wd S, (Instr.lookup 66 (.map (some r)) (.agg #[.int .i64 kp, .int .i64 kc]) false).run Tryd.prog z.w = .ok (.slice ak (F (kp, kc)).length ck) z.w := fun z => by
      rw [← hv]
      exact run_lookPlc 66 44 nilS (kp, kc) E r z.w Tryd.underlying66 (by kernel_rfl) (HF2.out.bel (hto z)).map
    clear hto hof hv g0 g2 p0 p1 hxb hxp
    refine lexW_light 8 (by kernel_rfl) ?_
    simp only [List.take_succ_cons, List.take_zero, List.drop_succ_cons, List.drop_zero]
    repeat (first | go_big_quiet_skip | (go_big_quiet_want; go_big_quiet_op; go_big_quiet_on))
    refine wpQuiet_nil ?_
    refine lexW_done ?_
    clear x2 y0 y1 hlook hne
    go_wp2_with fail
    go_ret
    exact ⟨by rw [HLP.out, HK.out]; rfl, HB2.out.drew⟩

end Go.Proofs.YtbefkkefglkleaaDoor
