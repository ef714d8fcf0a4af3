/- twin: another one with the same. -/
import Derived.Test.YtbefkkefglkleaaDoorRf6
import Derived.Test.YtbefkkefglkleaaDoorFb5
import Derived.Test.YtbefkkefglkleaaDoorRf2
namespace Go.Proofs.YtbefkkefglkleaaDoor
section
open Go.RowKit Go.Extern.Stop Go.Stop Go.Extern

/-- A twin in the making: so many rows of each pool stand. -/
structure RfC (wB : World) (b n : Nat) (room : Int) (X : Nat → Value) (V : Nat → Nat → Value) (cnt : Nat → Nat) (F : Plc → List MsgV) (wr : World) : Prop where
  hdr : RfH b n room X wr
  lo : b < wB.heap.size
  lst : ∀ q, q < 4 → winRow wr wB.heap.size 44 1 (X q) (cnt q) ((List.range (cnt q)).map (V q))
  row : ∀ q d, q < 4 → d < cnt q → winRow wr wB.heap.size 32 13 (V q d) (F ((q : Int), (d : Int))).length (flatM (F ((q : Int), (d : Int))))
  xx : ∀ p p', p < 4 → p' < 4 → p ≠ p' → ∀ g, (X p).ownBlock = some g → (X p').ownBlock ≠ some g
  xv : ∀ p p' c, p < 4 → p' < 4 → c < cnt p' → ∀ g, (X p).ownBlock = some g → (V p' c).ownBlock ≠ some g
  vv : ∀ p c p' c', p < 4 → c < cnt p → p' < 4 → c' < cnt p' → (p ≠ p' ∨ c ≠ c') → ∀ g, (V p c).ownBlock = some g → (V p' c').ownBlock ≠ some g
  mods : Mods (fun q => q = b) wB wr
theorem RfC.full {w wB : World} {b n : Nat} {room : Int} {X : Nat → Value} {V : Nat → Nat → Value} {cnt : Nat → Nat} {F : Plc → List MsgV} {wr : World} (h : RfC wB b n room X V cnt F wr) (hc : ∀ q, q < 4 → cnt q = n) (hb : Below w.heap.size w wB) (hlo : w.heap.size ≤ b) : RfB w n X V F wr :=
  ⟨fun p hp => by have := h.lst p hp; rw [hc p hp] at this; exact this.base_le fun g hg => Nat.le_trans hb.size ((h.lst p hp).lt g hg).1,
   fun p c hp hcn => (h.row p c hp (by rw [hc p hp]; exact hcn)).base_le fun g hg => Nat.le_trans hb.size ((h.row p c hp (by rw [hc p hp]; exact hcn)).lt g hg).1,
   h.xx, fun p p' c hp hp' hcn => h.xv p p' c hp hp' (by rw [hc p' hp']; exact hcn), fun p c p' c' hp hcn hp' hcn' => h.vv p c p' c' hp (by rw [hc p hp]; exact hcn) hp' (by rw [hc p' hp']; exact hcn'), hb.trans (h.mods.below hb.size fun q (hq : q = b) => by rw [hq]; exact hlo)⟩
theorem map_upd' (V : Nat → Nat → Value) (p0 c0 : Nat) (v : Value) : (List.range (c0 + 1)).map (updV V p0 c0 v p0) = (List.range c0).map (V p0) ++ [v] := by
  rw [List.range_succ, List.map_append]
  congr 1
  · refine List.map_congr_left fun d hd => ?_
    have := List.mem_range.1 hd
    unfold updV
    rw [if_neg (by omega)]
  · simp [updV]
theorem RfC.push {wB wr w1 w2 : World} {b n : Nat} {room : Int} {X : Nat → Value} {V : Nat → Nat → Value} {cnt : Nat → Nat} {F : Plc → List MsgV} (h : RfC wB b n room X V cnt F wr) {p : Nat} (hp : p < 4) {v x : Value}
    (hB1 : Below wr.heap.size wr w1) (hv : winRow w1 wr.heap.size 32 13 v (F ((p : Int), (cnt p : Int))).length (flatM (F ((p : Int), (cnt p : Int)))))
    (hg : w1.grownBy w2 (X p).ownBlock) (hx : winRow w2 wB.heap.size 44 1 x (cnt p + 1) ((List.range (cnt p)).map (V p) ++ [v])) (hxo : ∀ q, x.ownBlock = some q → (X p).ownBlock = some q ∨ w1.heap.size ≤ q) :
    RfC wB b n room (setX X p x) (updV V p (cnt p) v) (fun q => if q = p then cnt p + 1 else cnt q) F (w2.setCell ⟨b, 2 + p, none⟩ x) := by
  have hbl := h.hdr.lt
  have hM1 : Mods (fun q => (X p).ownBlock = some q) wr w2 := (Mods.of_below (S := fun q => (X p).ownBlock = some q) hB1).trans (Mods.grown hg fun q hq => hq) fun _ _ e => e
  have hM2 : Mods (fun q => q = b ∨ (X p).ownBlock = some q) wr (w2.setCell ⟨b, 2 + p, none⟩ x) := by
    have h1 : Mods (fun q => q = b ∨ (X p).ownBlock = some q) wr w2 := ⟨hM1.os, hM1.tape, hM1.output, hM1.size, fun k hk hn => hM1.block k hk fun e => hn (.inr e)⟩
    exact h1.setCell (p := ⟨b, 2 + p, none⟩) (.inl rfl) x
  have hXz : ∀ q, q < 4 → ∀ k, (X q).ownBlock = some k → wB.heap.size ≤ k ∧ k < wr.heap.size := fun q hq k hk => (h.lst q hq).lt k hk
  have hVz : ∀ q d, q < 4 → d < cnt q → ∀ k, (V q d).ownBlock = some k → wB.heap.size ≤ k ∧ k < wr.heap.size := fun q d hq hd k hk => (h.row q d hq hd).lt k hk
  have hvz : ∀ k, v.ownBlock = some k → wr.heap.size ≤ k ∧ k < w1.heap.size := fun k hk => hv.lt k hk
  have hxz : ∀ k, x.ownBlock = some k → wB.heap.size ≤ k := fun k hk => (hx.lt k hk).1
  have hsz := h.mods.size
  have hs1 := hB1.size
  have hlo := h.lo
  have hb2 : RfH b n room X w2 := (hM1.block b hbl fun e => by have := (hXz p hp b e).1; omega).trans h.hdr
  have hvx : ∀ k, v.ownBlock = some k → x.ownBlock ≠ some k := fun k hk e => by
    have h1 := hvz k hk
    rcases hxo k e with e | e
    · have := (hXz p hp k e).2
      omega
    · omega
  refine ⟨?_, h.lo, fun q hq => ?_, fun q d hq hd => ?_, fun q q' hq hq' hne k hk => ?_, fun q q' d hq hq' hd k hk hk' => ?_, fun q d q' d' hq hd hq' hd' hne k hk hk' => ?_, ?_⟩
  · have e := heap_setCell_at (k := 2 + p) hb2 x
    rw [hdr_set n room X p _ hp] at e
    exact e
  · by_cases hqp : q = p
    · subst hqp
      rw [if_pos rfl, show setX X q x q = x from if_pos rfl, map_upd']
      exact hx.keep fun k hk => Below.heap_setCell _ _ _ _ (by have := hxz k hk; show k ≠ b; omega)
    · rw [if_neg hqp, show setX X p x q = X q from if_neg hqp, map_far _ _ _ _ _ _ hqp]
      refine (h.lst q hq).keep fun k hk => hM2.block k (hXz q hq k hk).2 fun e => ?_
      rcases e with e | e
      · have := (hXz q hq k hk).1
        omega
      · exact h.xx q p hq hp hqp k hk e
  · by_cases e : q = p ∧ d = cnt p
    · obtain ⟨rfl, rfl⟩ := e
      rw [show updV V q (cnt q) v q (cnt q) = v from if_pos ⟨rfl, rfl⟩]
      refine (hv.keep fun k hk => ?_).base_le fun k hk => by have := (hvz k hk).1; omega
      have h1 := hvz k hk
      rw [Below.heap_setCell _ _ _ _ (by show k ≠ b; omega)]
      refine hg.block k h1.2 fun e' => ?_
      have := (hXz q hp k e'.symm).2
      omega
    · have hd : d < cnt q := by
        by_cases hqp : q = p
        · rw [if_pos hqp] at hd
          rw [hqp]
          have : d ≠ cnt p := fun h => e ⟨hqp, h⟩
          omega
        · rw [if_neg hqp] at hd
          exact hd
      rw [show updV V p (cnt p) v q d = V q d from if_neg e]
      refine (h.row q d hq hd).keep fun k hk => hM2.block k (hVz q d hq hd k hk).2 fun e' => ?_
      rcases e' with e' | e'
      · have := (hVz q d hq hd k hk).1
        omega
      · exact h.xv p q d hp hq hd k e' hk
  · unfold setX at hk ⊢
    by_cases h1 : q = p
    · rw [if_pos h1] at hk
      rw [if_neg (by omega)]
      intro e'
      rcases hxo k hk with e | e
      · exact h.xx p q' hp hq' (by omega) k e e'
      · have := (hXz q' hq' k e').2
        omega
    · rw [if_neg h1] at hk
      by_cases h2 : q' = p
      · rw [if_pos h2]
        intro e'
        rcases hxo k e' with e | e
        · exact h.xx q p hq hp h1 k hk e
        · have := (hXz q hq k hk).2
          omega
      · rw [if_neg h2]
        exact h.xx q q' hq hq' hne k hk
  · have hV : (updV V p (cnt p) v q' d = v ∧ q' = p) ∨ (updV V p (cnt p) v q' d = V q' d ∧ d < cnt q') := by
      by_cases e : q' = p ∧ d = cnt p
      · exact .inl ⟨if_pos e, e.1⟩
      · right
        refine ⟨if_neg e, ?_⟩
        by_cases hqp : q' = p
        · rw [if_pos hqp] at hd
          rw [hqp]
          have : d ≠ cnt p := fun h => e ⟨hqp, h⟩
          omega
        · rw [if_neg hqp] at hd
          exact hd
    have hXq : (setX X p x q = x) ∨ (setX X p x q = X q) := by
      unfold setX
      by_cases e : q = p
      · rw [if_pos e]; exact .inl rfl
      · rw [if_neg e]; exact .inr rfl
    rcases hV with ⟨e1, _⟩ | ⟨e1, hd1⟩
    · rw [e1] at hk'
      rcases hXq with e2 | e2
      · rw [e2] at hk
        exact hvx k hk' hk
      · rw [e2] at hk
        have := hvz k hk'
        have := (hXz q hq k hk).2
        omega
    · rw [e1] at hk'
      rcases hXq with e2 | e2
      · rw [e2] at hk
        rcases hxo k hk with e | e
        · exact h.xv p q' d hp hq' hd1 k e hk'
        · have := (hVz q' d hq' hd1 k hk').2
          omega
      · rw [e2] at hk
        exact h.xv q q' d hq hq' hd1 k hk hk'
  · have hV : ∀ a c, c < (if a = p then cnt p + 1 else cnt a) → (updV V p (cnt p) v a c = v ∧ a = p ∧ c = cnt p) ∨ (updV V p (cnt p) v a c = V a c ∧ c < cnt a) := fun a c hc => by
      by_cases e : a = p ∧ c = cnt p
      · exact .inl ⟨if_pos e, e⟩
      · right
        refine ⟨if_neg e, ?_⟩
        by_cases hqp : a = p
        · rw [if_pos hqp] at hc
          rw [hqp]
          have : c ≠ cnt p := fun h => e ⟨hqp, h⟩
          omega
        · rw [if_neg hqp] at hc
          exact hc
    rcases hV q d hd with ⟨e1, e2⟩ | ⟨e1, hd1⟩
    · rw [e1] at hk
      rcases hV q' d' hd' with ⟨f1, f2⟩ | ⟨f1, hd2⟩
      · rcases hne with hne | hne
        · exact hne (by rw [e2.1, f2.1])
        · exact hne (by rw [e2.2, f2.2])
      · rw [f1] at hk'
        have := hvz k hk
        have := (hVz q' d' hq' hd2 k hk').2
        omega
    · rw [e1] at hk
      rcases hV q' d' hd' with ⟨f1, f2⟩ | ⟨f1, hd2⟩
      · rw [f1] at hk'
        have := hvz k hk'
        have := (hVz q d hq hd1 k hk).2
        omega
      · rw [f1] at hk'
        exact h.vv q d q' d' hq hd1 hq' hd2 hne k hk hk'
  · exact h.mods.trans hM2 fun k hk e => e.elim id fun e => by have := (hXz p hp k e).1; omega
end

section
open Go.RowKit Go.Extern.Stop Go.Stop Go.Extern

def cntQ (n p c : Nat) : Nat → Nat := fun q => if q < p then n else if q = p then c else 0
theorem RfC.cong {wB : World} {b n : Nat} {room : Int} {X : Nat → Value} {V : Nat → Nat → Value} {cnt cnt' : Nat → Nat} {F : Plc → List MsgV} {wr : World} (h : RfC wB b n room X V cnt F wr) (hc : ∀ q, cnt q = cnt' q) : RfC wB b n room X V cnt' F wr := by
  have e : cnt = cnt' := funext hc
  rw [← e]
  exact h
theorem RfC.push' {wB wr w1 w2 : World} {b n : Nat} {room : Int} {X : Nat → Value} {V : Nat → Nat → Value} {F : Plc → List MsgV} {p c : Nat} (h : RfC wB b n room X V (cntQ n p c) F wr) (hp : p < 4) {v x : Value}
    (hB1 : Below wr.heap.size wr w1) (hv : winRow w1 wr.heap.size 32 13 v (F ((p : Int), (c : Int))).length (flatM (F ((p : Int), (c : Int)))))
    (hg : w1.grownBy w2 (X p).ownBlock) (hx : winRow w2 wB.heap.size 44 1 x (c + 1) ((List.range c).map (V p) ++ [v])) (hxo : ∀ q, x.ownBlock = some q → (X p).ownBlock = some q ∨ w1.heap.size ≤ q) :
    RfC wB b n room (setX X p x) (updV V p c v) (cntQ n p (c + 1)) F (w2.setCell ⟨b, 2 + p, none⟩ x) := by
  have e : cntQ n p c p = c := by simp [cntQ]
  have h2 := h.push hp (v := v) (x := x) (w1 := w1) (w2 := w2) hB1 (by rw [e]; exact hv) hg (by rw [e]; exact hx) hxo
  rw [e] at h2
  refine h2.cong fun q => ?_
  unfold cntQ
  by_cases h1 : q = p
  · subst h1; simp
  · simp [h1]
theorem set_six {w : World} {h : Nat} {T : TypeId} {z0 z1 z2 z3 z4 z5 a0 a1 a2 a3 a4 a5 : Value} (hx : w.heap[h]? = some (.cells #[z0, z1, z2, z3, z4, z5] T (0, 0))) :
    ((((((w.setCell ⟨h, 0, none⟩ a0).setCell ⟨h, 1, none⟩ a1).setCell ⟨h, 2, none⟩ a2).setCell ⟨h, 3, none⟩ a3).setCell ⟨h, 4, none⟩ a4).setCell ⟨h, 5, none⟩ a5).heap[h]? = some (.cells #[a0, a1, a2, a3, a4, a5] T (0, 0)) := by
  have e0 : (w.setCell ⟨h, 0, none⟩ a0).heap[h]? = some (.cells #[a0, z1, z2, z3, z4, z5] T (0, 0)) := (heap_setCell_at (k := 0) hx a0).trans rfl
  have e1 := (heap_setCell_at (k := 1) e0 a1).trans (show _ = some (Obj.cells #[a0, a1, z2, z3, z4, z5] T (0, 0)) from rfl)
  have e2 := (heap_setCell_at (k := 2) e1 a2).trans (show _ = some (Obj.cells #[a0, a1, a2, z3, z4, z5] T (0, 0)) from rfl)
  have e3 := (heap_setCell_at (k := 3) e2 a3).trans (show _ = some (Obj.cells #[a0, a1, a2, a3, z4, z5] T (0, 0)) from rfl)
  have e4 := (heap_setCell_at (k := 4) e3 a4).trans (show _ = some (Obj.cells #[a0, a1, a2, a3, a4, z5] T (0, 0)) from rfl)
  exact (heap_setCell_at (k := 5) e4 a5).trans rfl
/-- A struct of six cells, written. -/
def setSix (w : World) (h : Nat) (a0 a1 a2 a3 a4 a5 : Value) : World := (((((w.setCell ⟨h, 0, none⟩ a0).setCell ⟨h, 1, none⟩ a1).setCell ⟨h, 2, none⟩ a2).setCell ⟨h, 3, none⟩ a3).setCell ⟨h, 4, none⟩ a4).setCell ⟨h, 5, none⟩ a5
theorem setSix_mods (w : World) (h : Nat) (a0 a1 a2 a3 a4 a5 : Value) : Mods (fun q => q = h) w (setSix w h a0 a1 a2 a3 a4 a5) :=
  ((((((Mods.refl (fun q => q = h) w).setCell (p := ⟨h, 0, none⟩) rfl a0).setCell (p := ⟨h, 1, none⟩) rfl a1).setCell (p := ⟨h, 2, none⟩) rfl a2).setCell (p := ⟨h, 3, none⟩) rfl a3).setCell (p := ⟨h, 4, none⟩) rfl a4).setCell (p := ⟨h, 5, none⟩) rfl a5

set_option maxRecDepth 100000 in
set_option maxHeartbeats 8000000 in
theorem twin_c (w0 : World) (b n : Nat) (room : Int) (X : Nat → Value) (V : Nat → Nat → Value) (F : Plc → List MsgV) (w : World) (hh : RfH b n room X w) (h : RfB w0 n X V F w) (h1 : 1 ≤ n) (h2 : n ≤ 64) (hF : ∀ q, (F q).length ≤ 100000) :
    Calls Tryd.prog 19 #[.pointer (some ⟨b, 0, none⟩)] w fun ev w' => ∃ X' V', ev = .returned (.agg (hdrV n room X')) ∧ RfB w n X' V' F w' ∧ Below w.heap.size w w' := by
  have HH := Lib.hid hh
  have HB := Lib.hid h
  have HFL := Lib.hid hF
  obtain ⟨i0, hi0, hi1⟩ := Option.map_eq_some_iff.1 nInfoM
  simp only [Prod.mk.injEq] at hi1
  obtain ⟨hz0, hz1, hz2⟩ := hi1
  have HI := Lib.hid hi0
  have HZ0 := Lib.hid hz0
  have HZ1 := Lib.hid hz1
  have HZ2 := Lib.hid hz2
  obtain ⟨j0, hj0, hj1⟩ := Option.map_eq_some_iff.1 nInfoSMM
  simp only [Prod.mk.injEq] at hj1
  obtain ⟨hy0, hy1, hy2⟩ := hj1
  have HJ := Lib.hid hj0
  have HY0 := Lib.hid hy0
  have HY1 := Lib.hid hy1
  have HY2 := Lib.hid hy2
  clear hh h hF hi0 hz0 hz1 hz2 hj0 hy0 hy1 hy2
  go_enter Tryd.func19, Tryd.ntmps19
  go_upto_region 1 with fail
  obtain ⟨h2', hh2⟩ : ∃ h, h = w.heap.size := ⟨_, rfl⟩
  have hb2 : Below w.heap.size w (w.alloc (.cells #[.int .i64 0, .int .i64 0, .slice none 0 0, .slice none 0 0, .slice none 0 0, .slice none 0 0] 50)) := (Below.refl _ _).alloc (Nat.le_refl _) _
  have HB2 := Lib.hid hb2
  have HX2 := Lib.hid (heap_alloc_new w (.cells #[.int .i64 0, .int .i64 0, .slice none 0 0, .slice none 0 0, .slice none 0 0, .slice none 0 0] 50))
  have HH2 := Lib.hid (HH.out.bel hb2)
  have HL2 := Lib.hid (show w.heap.size ≤ h2' by omega)
  rw [← hh2] at HX2 ⊢
  clear hb2 hh2
  generalize w.alloc (.cells #[.int .i64 0, .int .i64 0, .slice none 0 0, .slice none 0 0, .slice none 0 0, .slice none 0 0] 50) = w2 at *
  have hbs := HH2.out
  have q0 := cell_of hbs 0
  have q1 := cell_of hbs 1
  simp only [hdrV, List.getElem?_toArray, List.getElem?_cons_zero, List.getElem?_cons_succ] at q0 q1
  have hlb := HH2.out.lt
  refine wp_region_lexA ⟨[], []⟩ (fun x => Below w2.heap.size w2 x) (by kernel_rfl) (by kernel_rfl) (Below.refl _ _).drew ?_
  intro S hto hof hne
  have x0 : ∀ z : Wd S, z.w.cell? ⟨b, 0, none⟩ = some (.int .i64 n) := fun z => ((hto z).cell (p := ⟨b, 0, none⟩) hlb).trans q0
  have x1 : ∀ z : Wd S, z.w.cell? ⟨b, 1, none⟩ = some (.int .i64 room) := fun z => ((hto z).cell (p := ⟨b, 1, none⟩) hlb).trans q1
  have Hof := Lib.hid hof
  clear hto hof q0 q1 hbs hlb
  refine lexW_light 9 (by kernel_rfl) ?_
  simp only [List.take_succ_cons, List.take_zero, List.drop_succ_cons, List.drop_zero]
  repeat (first | go_big_quiet_skip | (go_big_quiet_want; go_big_quiet_op; go_big_quiet_on))
  refine wpQuiet_nil ?_
  refine lexW_heavy (by kernel_rfl) ?_
  go_wp2_with fail
  obtain ⟨h3, hh3⟩ : ∃ h, h = w2.heap.size := ⟨_, rfl⟩
  have HB3 := Lib.hid (show Below w2.heap.size w2 (w2.alloc (.cells #[.int .i64 0, .int .i64 0, .slice none 0 0, .slice none 0 0, .slice none 0 0, .slice none 0 0] 50)).drew from ((Below.refl _ _).alloc (Nat.le_refl _) _).drew)
  have hz : (w2.alloc (.cells #[.int .i64 0, .int .i64 0, .slice none 0 0, .slice none 0 0, .slice none 0 0, .slice none 0 0] 50)).drew.heap[h3]? = some (.cells #[.int .i64 0, .int .i64 0, .slice none 0 0, .slice none 0 0, .slice none 0 0, .slice none 0 0] 50 (0, 0)) := by rw [hh3]; exact heap_alloc_new w2 _
  have HL3 := Lib.hid (show w2.heap.size ≤ h3 ∧ h2' < h3 from ⟨by omega, by rw [hh3]; exact (Array.getElem?_eq_some_iff.1 HX2.out).1⟩)
  refine lexQ_more (Hof.out _ HB3.out) ?_
  rw [← hh3]
  clear hh3
  generalize (w2.alloc (.cells #[.int .i64 0, .int .i64 0, .slice none 0 0, .slice none 0 0, .slice none 0 0, .slice none 0 0] 50)).drew = w3 at *
  have z0 := cell_of hz 0
  have z1 := cell_of hz 1
  have z2 := cell_of hz 2
  have z3 := cell_of hz 3
  have z4 := cell_of hz 4
  have z5 := cell_of hz 5
  simp only [List.getElem?_toArray, List.getElem?_cons_zero, List.getElem?_cons_succ] at z0 z1 z2 z3 z4 z5
  have f0 := frozen_of hz 0
  have f1 := frozen_of hz 1
  have f2 := frozen_of hz 2
  have f3 := frozen_of hz 3
  have f4 := frozen_of hz 4
  have f5 := frozen_of hz 5
  refine lexW_heavy (by kernel_rfl) ?_
  go_wp2_with fail
  have hs6 := set_six (a0 := .int .i64 n) (a1 := .int .i64 room) (a2 := .slice none 0 0) (a3 := .slice none 0 0) (a4 := .slice none 0 0) (a5 := .slice none 0 0) hz
  have HB4 := Lib.hid (show Below w2.heap.size w2 (setSix w3 h3 (.int .i64 n) (.int .i64 room) (.slice none 0 0) (.slice none 0 0) (.slice none 0 0) (.slice none 0 0)) from HB3.out.trans ((setSix_mods w3 h3 _ _ _ _ _ _).below HB3.out.size fun q (hq : q = h3) => by rw [hq]; exact HL3.out.1))
  have HC4 := Lib.hid (show (setSix w3 h3 (.int .i64 n) (.int .i64 room) (.slice none 0 0) (.slice none 0 0) (.slice none 0 0) (.slice none 0 0)).heap[h3]? = some (.cells #[.int .i64 n, .int .i64 room, .slice none 0 0, .slice none 0 0, .slice none 0 0, .slice none 0 0] 50 (0, 0)) from hs6)
  refine lexQ_more (Hof.out _ HB4.out) ?_
  refine lexW_done ?_
  clear x0 x1 Hof hne hs6 hz z0 f0 z1 f1 z2 f2 z3 f3 z4 f4 z5 f5
  change Exit.then _ _ _ _ (setSix w3 h3 (.int .i64 n) (.int .i64 room) (.slice none 0 0) (.slice none 0 0) (.slice none 0 0) (.slice none 0 0))
  generalize setSix w3 h3 (.int .i64 n) (.int .i64 room) (.slice none 0 0) (.slice none 0 0) (.slice none 0 0) (.slice none 0 0) = wB at *
  have HBW := Lib.hid (HB2.out.trans (HB4.out.mono HB2.out.size))
  have HX4 := Lib.hid ((HB4.out.block h2' (Array.getElem?_eq_some_iff.1 HX2.out).1).trans HX2.out)
  have HLW := Lib.hid (show w.heap.size ≤ h3 by have := HL2.out; have := HL3.out; omega)
  have HC0 := Lib.hid (show RfC wB h3 n room (fun _ => nilS) (fun _ _ => nilS) (cntQ n 0 0) F wB from by
    have e : ∀ q, cntQ n 0 0 q = 0 := fun q => by simp [cntQ]
    refine ⟨HC4.out, (Array.getElem?_eq_some_iff.1 HC4.out).1, fun q _ => ?_, fun q d _ hd => by rw [e] at hd; omega, fun _ _ _ _ _ g hg => (by cases hg), fun _ _ _ _ _ _ g hg => (by cases hg), fun _ _ _ _ _ _ _ _ _ g hg => (by cases hg), Mods.refl _ _⟩
    rw [e]
    exact winRow_nil _ _ _ _)
  clear HB2 HX2 HH2 HB3 HB4 HC4
  have HBEL := Lib.hid (show ∀ wr : World, Mods (fun q => q = h3) wB wr → Below w.heap.size w wr from fun wr hm => HBW.out.trans (hm.below HBW.out.size fun q (hq : q = h3) => by rw [hq]; exact HLW.out))
  go_wp2_with fail
  go_loopw [16] (fun s16 wr => ∃ (p : Nat) (X' : Nat → Value) (V' : Nat → Nat → Value), p ≤ 4 ∧ s16 = .int .i64 p ∧ RfC wB h3 n room X' V' (cntQ n p 0) F wr) (fun s16 _ => 4 - (intOf s16).toNat)
  case atStart => exact ⟨0, _, _, by omega, rfl, HC0.out⟩
  case round =>
    clear HC0
    obtain ⟨p, X', V', hp4, rfl, hc⟩ := hrel
    have HC := Lib.hid hc
    clear hc
    by_cases hp : p < 4
    · have j1 : decide (p < 4) = true := by simpa using hp
      have j2 : decide ((p : Int) < 4) = true := by simp; omega
      have HP := Lib.hid hp
      have HBR := Lib.hid (HB.out.bel (HBEL.out wr HC.out.mods))
      have HHR := Lib.hid (HH.out.bel (HBEL.out wr HC.out.mods))
      obtain ⟨g, off, cap, hx, hg, hcc⟩ := HBR.out.form h1 p hp
      have q0 : wr.cell? ⟨b, 2 + p, none⟩ = some (.slice (some ⟨g, off, none⟩) n cap) := by
        have h := cell_of HHR.out (2 + p)
        rw [h]
        have : p = 0 ∨ p = 1 ∨ p = 2 ∨ p = 3 := by omega
        rcases this with rfl | rfl | rfl | rfl <;> (rw [← hx]; rfl)
      have HXP := Lib.hid hx
      clear hx hg hcc HBR HHR
      go_wp2_with fail
      go_loopw [26] (fun s26 wr => ∃ (c : Nat) (X' : Nat → Value) (V' : Nat → Nat → Value), c ≤ n ∧ s26 = .int .i64 c ∧ RfC wB h3 n room X' V' (cntQ n p c) F wr) (fun s26 _ => n - (intOf s26).toNat)
      case atStart => exact ⟨0, X', V', by omega, rfl, HC.out⟩
      case round =>
        clear HC q0
        clear X' V'
        obtain ⟨c, X', V', hcn, rfl, hc⟩ := hrel
        have HC := Lib.hid hc
        clear hc
        by_cases hcl : c < n
        · have j3 : decide (c < n) = true := by simpa using hcl
          have j4 : decide ((c : Int) < (n : Int)) = true := by simp; omega
          have hc64 : c ≤ 64 := by omega
          have HBR := Lib.hid (HB.out.bel (HBEL.out wr HC.out.mods))
          obtain ⟨g', off', cap', hx, hg, hcc⟩ := HBR.out.form h1 p hp
          rw [HXP.out] at hx
          simp only [Value.slice.injEq, Option.some.injEq, Addr.mk.injEq, true_and, and_true] at hx
          obtain ⟨⟨rfl, rfl⟩, rfl⟩ := hx
          have q1 := hcc c hcl
          have hrow := HBR.out.row p c hp hcl
          obtain ⟨L, hL⟩ : ∃ L, F ((p : Int), (c : Int)) = L := ⟨_, rfl⟩
          have HL := Lib.hid hL
          rw [hL] at hrow
          obtain ⟨ak, ck, hv⟩ := hrow.len
          rw [hv] at q1 hrow
          have hll : L.length ≤ 100000 := by rw [← hL]; exact HFL.out _
          have HSL := Lib.hid hrow.slc
          obtain ⟨adx, cpx, hxv⟩ := (HC.out.lst p hp).len
          have e0 : cntQ n p c p = c := by simp [cntQ]
          rw [e0] at hxv
          have q2 : wr.cell? ⟨h3, 2 + p, none⟩ = some (.slice adx c cpx) := by
            rw [cell_of HC.out.hdr (2 + p), ← hxv]
            have : p = 0 ∨ p = 1 ∨ p = 2 ∨ p = 3 := by omega
            rcases this with rfl | rfl | rfl | rfl <;> rfl
          have HXV := Lib.hid hxv
          have HXR := Lib.hid (show winRow wr wB.heap.size 44 1 (.slice adx c cpx) c ((List.range c).map (V' p)) from by have h := HC.out.lst p hp; rw [e0, hxv] at h; exact h)
          have hl3 := HC.out.hdr.lt
          clear hL hrow hv hxv hcc hg e0
          go_upto_region 8 with fail
          refine wp_region_lexN ⟨[], []⟩ (fun m x => if m ≤ 3 then Below wr.heap.size wr x else True) (by kernel_rfl) (by kernel_rfl) (by rw [if_pos (by omega)]; exact (Below.refl _ _).drew) ?_
          intro S hto hof hne
          have hto0 : ∀ z : Wd (upS S 3), Below wr.heap.size wr z.w := fun z => by
            obtain ⟨m, hm, hx⟩ := hto 3 z
            rw [if_pos hm] at hx
            exact hx
          have xr : ∀ z : Wd (upS S 3), z.w.cell? ⟨h3, 2 + p, none⟩ = some (.slice adx c cpx) := fun z => ((hto0 z).cell (p := ⟨h3, 2 + p, none⟩) hl3).trans q2
          have Hof := Lib.hid hof
          have hne3 := hne 3
          have hne9 := hne 9
          clear hto hto0 hof hne q1 q2 hl3
          refine lexM_light 4 9 (by kernel_rfl) (by kernel_rfl) ?_
          simp only [List.take_succ_cons, List.take_zero, List.drop_succ_cons, List.drop_zero]
          repeat (first | go_big_quiet_skip | (go_big_quiet_want; go_big_quiet_op; go_big_quiet_on))
          refine wpQuiet_nil ?_
          refine lexM_light 1 3 (by kernel_rfl) (by kernel_rfl) ?_
          simp only [List.take_succ_cons, List.take_zero, List.drop_succ_cons, List.drop_zero]
          repeat (first | go_big_quiet_skip | (go_big_quiet_want; go_big_quiet_op; go_big_quiet_on))
          refine wpQuiet_nil ?_
          clear xr
          refine lexM_heavy (by kernel_rfl) ?_
          go_wp2_with fail
          have hb8 : Below wr.heap.size wr (wr.alloc (.cells #[] 32)).drew := ((Below.refl _ _).alloc (Nat.le_refl _) _).drew
          have hA1 : winRow (wr.alloc (.cells #[] 32)).drew wr.heap.size 32 13 (.slice (some ⟨wr.heap.size, 0, none⟩) 0 0) 0 [] := winRow_fresh wr _ _
          have HA := Lib.hid hA1
          have HB8 := Lib.hid hb8
          refine lexMQ_more (Hof.out 1 _ (by rw [if_pos (by omega)]; exact hb8)) ?_
          obtain ⟨hA, hhA⟩ : ∃ h, h = wr.heap.size := ⟨_, rfl⟩
          rw [← hhA] at HA HB8 ⊢
          have HHA := Lib.hid hhA
          clear hb8 hA1 hhA
          generalize (wr.alloc (.cells #[] 32)).drew = w8 at *
          have HS8 := Lib.hid (show hA ≤ w8.heap.size by rw [HHA.out]; exact HB8.out.size)
          refine lexM_light 1 9 (by kernel_rfl) (by kernel_rfl) ?_
          simp only [List.take_succ_cons, List.take_zero, List.drop_succ_cons, List.drop_zero]
          repeat (first | go_big_quiet_skip | (go_big_quiet_want; go_big_quiet_op; go_big_quiet_on))
          refine wpQuiet_nil ?_
          refine lexM_heavy (by kernel_rfl) ?_
          go_wp2_with (at_builtin; refine wpList_append_slc _ rfl _ _ 44 rfl hA 32 i0 _ 13 80 Tryd.underlying44 HI.out HZ0.out HZ1.out HZ2.out rfl (by decide) _ 0 [] rfl HA.out _ L.length (flatM L) rfl (HSL.out.below (by have h := HB8.out; rw [HHA.out] at h; exact h)) (flatM_one _) (by unfold maxLen; omega) (by omega) HS8.out ?_; intro p9 w9 hown hgr hat; refine halt ?_)
          have hown' : winRow w9 hA 32 13 p9 L.length (flatM L) := by simpa using hown
          obtain ⟨ad9, cp9, hp9⟩ := hown'.len
          have HP9 := Lib.hid hown'
          have HB9 := Lib.hid (show Below wr.heap.size wr w9 from by have h := HB8.out.grown hgr HS8.out fun q hq => (HA.out.lt q hq).1; rw [HHA.out] at h; exact h)
          rw [hp9] at HP9 ⊢
          clear hown hown' hgr hat HA HS8 HB8 hp9
          unfold Halt
          refine lexMQ_more (Hof.out 2 _ (by rw [if_pos (by omega)]; exact HB9.out)) ?_
          obtain ⟨v9, hv9⟩ : ∃ v9, v9 = Value.slice ad9 L.length cp9 := ⟨_, rfl⟩
          have HV9 := Lib.hid hv9
          refine lexM_heavy (by kernel_rfl) ?_
          go_wp2_with fail
          rw [← hv9] at HP9 ⊢
          clear hv9
          obtain ⟨hBk, hhB⟩ : ∃ h, h = w9.heap.size := ⟨_, rfl⟩
          have hb10 : Below wr.heap.size wr (w9.alloc (.cells #[v9] 44)) := HB9.out.alloc HB9.out.size _
          have HB10 := Lib.hid hb10
          have HP10 := Lib.hid (HP9.out.below ((Below.refl _ _).alloc (Nat.le_refl _) (.cells #[v9] 44)))
          have hcat : ∀ j u, [v9][j]? = some u → (w9.alloc (.cells #[v9] 44)).cell? ((⟨hBk, 0, none⟩ : Addr).add j) = some u := fun j u hj => by
            rw [hhB, Addr.add_lit, Nat.zero_add, World.cell?_alloc_new]
            simpa using hj
          have HCAT := Lib.hid hcat
          refine lexMQ_more (Hof.out 3 _ (by rw [if_pos (by omega)]; exact hb10)) ?_
          have HXR10 := Lib.hid (HXR.out.below hb10)
          have HSZ := Lib.hid (show wB.heap.size ≤ (w9.alloc (.cells #[v9] 44)).heap.size from Nat.le_trans HC.out.mods.size hb10.size)
          rw [← hhB]
          clear hb10 hcat hhB
          generalize w9.alloc (.cells #[v9] 44) = w10 at *
          refine lexM_heavy (by kernel_rfl) ?_
          go_wp2_with (at_builtin; refine wpList_append_win _ rfl _ _ 47 rfl wB.heap.size 44 j0 _ 1 24 Tryd.underlying47 HJ.out HY0.out HY1.out HY2.out rfl (by decide) (.slice adx c cpx) c _ rfl HXR10.out ⟨hBk, 0, none⟩ 1 1 [v9] rfl rfl HCAT.out (fun u hu => by rw [List.mem_singleton.1 hu, HV9.out]; rfl) (by omega) (by unfold maxLen; omega) (by omega) HSZ.out ?_; intro g11 off11 cap11 w11 hrow hgr hat hlt; refine halt ?_)
          have hM11 : Mods (fun q => (X' p).ownBlock = some q) w10 w11 := by rw [HXV.out]; exact Mods.grown hgr fun q hq => hq
          have hb3 : RfH h3 n room X' w11 := (hM11.block h3 (Nat.lt_of_lt_of_le HC.out.hdr.lt HB10.out.size) (fun e => by have h := ((HC.out.lst p hp).lt h3 e).1; have := HC.out.lo; omega)).trans (HC.out.hdr.bel HB10.out)
          have zc : w11.cell? ⟨h3, 2 + p, none⟩ = some (X' p) := by
            rw [cell_of hb3 (2 + p)]
            have : p = 0 ∨ p = 1 ∨ p = 2 ∨ p = 3 := by omega
            rcases this with rfl | rfl | rfl | rfl <;> rfl
          have zf := frozen_of hb3 (2 + p)
          have HR11 := Lib.hid hrow
          have HGR := Lib.hid (show w10.grownBy w11 (X' p).ownBlock from by rw [HXV.out]; exact hgr)
          have HAT := Lib.hid hat
          clear hrow hgr hat hlt hM11 hb3
          unfold Halt
          refine lexMQ_more (Hof.out 4 _ (by rw [if_neg (by omega)]; trivial)) ?_
          refine lexM_light 2 9 (by kernel_rfl) (by kernel_rfl) ?_
          simp only [List.take_succ_cons, List.take_zero, List.drop_succ_cons, List.drop_zero]
          repeat (first | go_big_quiet_skip | (go_big_quiet_want; go_big_quiet_op; go_big_quiet_on))
          refine wpQuiet_nil ?_
          obtain ⟨x11, hx11⟩ : ∃ x, x = Value.slice (some ⟨g11, off11, none⟩) (c + 1) cap11 := ⟨_, rfl⟩
          refine lexM_heavy (by kernel_rfl) ?_
          go_wp2_with fail
          rw [← hx11] at HR11 ⊢
          have HN2 := Lib.hid (HC.out.push' HP.out (v := v9) (x := x11) (w1 := w10) (w2 := w11) HB10.out (by rw [HL.out]; have h := HP10.out; rw [HHA.out] at h; exact h) HGR.out HR11.out (fun q hq => by
            rw [hx11] at hq
            have hq : g11 = q := Option.some.inj hq
            subst hq
            rcases HAT.out with e | e
            · left; rw [HXV.out]; exact e
            · exact .inr (by rw [e]; exact Nat.le_refl _)))
          refine lexMQ_more (Hof.out 5 _ (by rw [if_neg (by omega)]; trivial)) ?_
          refine lexM_done ?_
          clear zc zf Hof hne3 hne9 hx11 HC HBR HSL HXR HXV HP9 HP10 HB9 HB10 HR11 HGR HAT HCAT HSZ HXR10
          generalize w11.setCell ⟨h3, 2 + p, none⟩ x11 = w12 at *
          go_wp2_with fail
          go_roundw
          case rel => exact ⟨c + 1, _, _, by omega, by go_num, HN2.out⟩
          case measure => simp [intOf] <;> omega
        · have j3 : decide (c < n) = false := by simpa using hcl
          have j4 : decide ((c : Int) < (n : Int)) = false := by simp; omega
          have HC2 := Lib.hid (show RfC wB h3 n room X' V' (cntQ n (p + 1) 0) F wr from HC.out.cong fun q => by
            unfold cntQ
            by_cases h1 : q < p
            · rw [if_pos h1, if_pos (by omega)]
            · rw [if_neg h1]
              by_cases h2 : q = p
              · rw [if_pos h2, if_pos (by omega)]; omega
              · rw [if_neg h2, if_neg (by omega)]; simp)
          go_wp2_with fail
          go_roundw
          case rel => exact ⟨p + 1, X', V', by omega, by go_num, HC2.out⟩
          case measure => simp [intOf] <;> omega
    · have j1 : decide (p < 4) = false := by simpa using hp
      have j2 : decide ((p : Int) < 4) = false := by simp; omega
      have hp5 : p = 4 := by omega
      have HFU := Lib.hid (HC.out.full (w := w) (fun q hq => by unfold cntQ; rw [if_pos (by omega)]) HBW.out HLW.out)
      have HXH := Lib.hid ((HC.out.mods.block h2' (Array.getElem?_eq_some_iff.1 HX4.out).1 (by have := HL3.out; omega)).trans HX4.out)
      have HMB := Lib.hid (HBEL.out wr HC.out.mods)
      have HNO := Lib.hid (show ∀ q, RfOwn n X' V' q → q ≠ h2' from fun q hq e => by
        have h3z : w.heap.size ≤ h2' := HL2.out
        have hz2 := (Array.getElem?_eq_some_iff.1 HX4.out).1
        rcases hq with ⟨a, ha, e'⟩ | ⟨a, d, ha, hd, e'⟩
        · have := ((HC.out.lst a ha).lt q e').1
          omega
        · have := ((HC.out.row a d ha (by unfold cntQ; rw [if_pos (by omega)]; exact hd)).lt q e').1
          omega)
      obtain ⟨a0, c0, e0⟩ := (HFU.out.lst 0 (by omega)).len
      obtain ⟨a1, c1, e1⟩ := (HFU.out.lst 1 (by omega)).len
      obtain ⟨a2, c2, e2⟩ := (HFU.out.lst 2 (by omega)).len
      obtain ⟨a3, c3, e3⟩ := (HFU.out.lst 3 (by omega)).len
      have hb : wr.heap[h3]? = some (.cells #[.int .i64 n, .int .i64 room, .slice a0 n c0, .slice a1 n c1, .slice a2 n c2, .slice a3 n c3] 50 (0, 0)) := by rw [← e0, ← e1, ← e2, ← e3]; exact HC.out.hdr
      have HE := Lib.hid (show hdrV n room X' = #[.int .i64 n, .int .i64 room, .slice a0 n c0, .slice a1 n c1, .slice a2 n c2, .slice a3 n c3] from by rw [← e0, ← e1, ← e2, ← e3]; rfl)
      have hz := HXH.out
      have q0 := cell_of hb 0
      have q1 := cell_of hb 1
      have q2 := cell_of hb 2
      have q3 := cell_of hb 3
      have q4 := cell_of hb 4
      have q5 := cell_of hb 5
      simp only [List.getElem?_toArray, List.getElem?_cons_zero, List.getElem?_cons_succ] at q0 q1 q2 q3 q4 q5
      have z0 := cell_of hz 0
      have z1 := cell_of hz 1
      have z2 := cell_of hz 2
      have z3 := cell_of hz 3
      have z4 := cell_of hz 4
      have z5 := cell_of hz 5
      simp only [List.getElem?_toArray, List.getElem?_cons_zero, List.getElem?_cons_succ] at z0 z1 z2 z3 z4 z5
      have f0 := frozen_of hz 0
      have f1 := frozen_of hz 1
      have f2 := frozen_of hz 2
      have f3 := frozen_of hz 3
      have f4 := frozen_of hz 4
      have f5 := frozen_of hz 5
      clear e0 e1 e2 e3 hp5
      go_wp2_with fail
      have hs6 := set_six (a0 := .int .i64 n) (a1 := .int .i64 room) (a2 := .slice a0 n c0) (a3 := .slice a1 n c1) (a4 := .slice a2 n c2) (a5 := .slice a3 n c3) hz
      have HM6 := Lib.hid (setSix_mods wr h2' (.int .i64 n) (.int .i64 room) (.slice a0 n c0) (.slice a1 n c1) (.slice a2 n c2) (.slice a3 n c3))
      clear q0 z0 f0 q1 z1 f1 q2 z2 f2 q3 z3 f3 q4 z4 f4 q5 z5 f5 hz hb
      change bodyPost _ _ _ _ _ (setSix wr h2' (.int .i64 n) (.int .i64 room) (.slice a0 n c0) (.slice a1 n c1) (.slice a2 n c2) (.slice a3 n c3))
      have hs7 : (setSix wr h2' (.int .i64 n) (.int .i64 room) (.slice a0 n c0) (.slice a1 n c1) (.slice a2 n c2) (.slice a3 n c3)).heap[h2']? = some (.cells #[.int .i64 n, .int .i64 room, .slice a0 n c0, .slice a1 n c1, .slice a2 n c2, .slice a3 n c3] 50 (0, 0)) := hs6
      clear hs6
      generalize setSix wr h2' (.int .i64 n) (.int .i64 room) (.slice a0 n c0) (.slice a1 n c1) (.slice a2 n c2) (.slice a3 n c3) = wz at *
      have e0 := cell_of hs7 0
      have e1 := cell_of hs7 1
      have e2 := cell_of hs7 2
      have e3 := cell_of hs7 3
      have e4 := cell_of hs7 4
      have e5 := cell_of hs7 5
      simp only [List.getElem?_toArray, List.getElem?_cons_zero, List.getElem?_cons_succ] at e0 e1 e2 e3 e4 e5
      refine bodyPost_ret_by (v := .agg #[.int .i64 n, .int .i64 room, .slice a0 n c0, .slice a1 n c1, .slice a2 n c2, .slice a3 n c3]) (by simp [results, Tryd.results19, go_sem, e0, e1, e2, e3, e4, e5]) rfl ?_
      exact ⟨X', V', by rw [HE.out], HFU.out.keep HM6.out (fun q hq (e : q = h2') => HNO.out q hq e) (fun q (hq : q = h2') => by rw [hq]; exact HL2.out), HMB.out.trans (HM6.out.below HMB.out.size fun q (hq : q = h2') => by rw [hq]; exact HL2.out)⟩
end
end Go.Proofs.YtbefkkefglkleaaDoor
