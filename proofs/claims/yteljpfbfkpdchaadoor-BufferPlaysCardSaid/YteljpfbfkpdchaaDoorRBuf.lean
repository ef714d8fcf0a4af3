/- The document's own store buffer (assentref1): what its calls answer and turn. -/
import Derived.Test.YteljpfbfkpdchaaDoorLBuf4
namespace Go.Proofs.YteljpfbfkpdchaaDoor
open Go.RowKit Go.Extern.Stop Go.Stop Go.Extern

/-- The reference at block b: so many at most, what waits. -/
structure RefAt (w : World) (b : Nat) (v : Value) (n : Int) (L : List (Int × Int)) : Prop where
  blk : w.heap[b]? = some (.cells #[.int .i64 n, v] 51 (0, 0))
  row : winRow w (b + 1) 52 2 v L.length (flatW L)
theorem RefAt.lt {w : World} {b : Nat} {v : Value} {n : Int} {L : List (Int × Int)} (h : RefAt w b v n L) : b < w.heap.size := (Array.getElem?_eq_some_iff.1 h.blk).1
theorem RefAt.keep {S : Nat → Prop} {w w' : World} {b : Nat} {v : Value} {n : Int} {L : List (Int × Int)} (h : RefAt w b v n L) (hm : Mods S w w') (hb : ¬ S b) (hv : ∀ g, v.ownBlock = some g → ¬ S g) : RefAt w' b v n L :=
  ⟨(hm.block b h.lt hb).trans h.blk, h.row.keep fun g hg => hm.block g (h.row.lt g hg).2 (hv g hg)⟩
theorem RefAt.below {w w' : World} {b : Nat} {v : Value} {n : Int} {L : List (Int × Int)} (h : RefAt w b v n L) (hb : Below w.heap.size w w') : RefAt w' b v n L :=
  h.keep (S := fun _ => False) (.of_below hb) id fun _ _ => id
/-- Where the row of a buffer has grown, the buffer's own cells stand. -/
theorem RefAt.blk_grown {w W w' : World} {b : Nat} {v : Value} {n : Int} {L : List (Int × Int)} (h : RefAt w b v n L) (hb : Below w.heap.size w W) (hg : W.grownBy w' v.ownBlock) :
    w'.heap[b]? = some (.cells #[.int .i64 n, v] 51 (0, 0)) := by
  rw [hg.block b (Nat.lt_of_lt_of_le h.lt hb.size) (fun e => by have := (h.row.lt b e.symm).1; omega), hb.block b h.lt]
  exact h.blk
theorem nInfoR : (Tryd.prog.info? 52).map (fun i => (i.zero, i.size, i.bytes)) = some (some (.agg #[.int .i64 0, .int .u32 0]), 2, 16) := by kernel_rfl
theorem RefAt.mods_below {w w' : World} {b B : Nat} {v : Value} {n : Int} {L : List (Int × Int)} (h : RefAt w b v n L) (hm : Mods (bufS b v) w w') (hB : B ≤ b) : Below B w w' :=
  hm.below (by have := h.lt; omega) fun k hk => by
    rcases hk with rfl | hk
    · exact hB
    · have := (h.row.lt k hk).1
      omega
def newK (n : Int) : Int := if 1 ≤ n ∧ n ≤ 8 then 0 else 1
theorem rnew_ok (n : Int) (w : World) (h1 : 1 ≤ n) (h2 : n ≤ 8) :
    Calls Tryd.prog 20 #[.int .i64 n] w fun ev w' => ev = .returned (.tuple #[.pointer (some ⟨w.heap.size, 0, none⟩), .int .i64 0]) ∧ RefAt w' w.heap.size (.slice none 0 0) n [] ∧ Below w.heap.size w w' := by
  have a1 : decide (n < 1) = false := by simp; omega
  have a2 : decide (n > 8) = false := by simp; omega
  go_enter Tryd.func20, Tryd.ntmps20
  go_wp2_with fail
  go_ret2
  refine ⟨rfl, ⟨heap_alloc_new w _, winRow_nil ..⟩, (Below.refl _ _).alloc (Nat.le_refl _) _⟩
theorem rnew_bad (n : Int) (w : World) (h : n < 1 ∨ 8 < n) :
    Calls Tryd.prog 20 #[.int .i64 n] w fun ev w' => ev = .returned (.tuple #[.pointer none, .int .i64 1]) ∧ w = w' := by
  by_cases a1 : n < 1
  · have a1 : decide (n < 1) = true := by simpa using a1
    go_enter Tryd.func20, Tryd.ntmps20
    go_wp2_with fail
    go_ret2
    exact ⟨rfl, rfl⟩
  · have a1' : decide (n < 1) = false := by simpa using a1
    have a2 : decide (n > 8) = true := by simp; omega
    go_enter Tryd.func20, Tryd.ntmps20
    go_wp2_with fail
    go_ret2
    exact ⟨rfl, rfl⟩

/-- What Push answers, and what waits behind it. -/
def pushK (n : Int) (L : List (Int × Int)) (a : Int) : Int := if 0 ≤ a ∧ a < 128 then (if (L.length : Int) < n then 0 else 6) else 1
def pushL (n : Int) (L : List (Int × Int)) (a x : Int) : List (Int × Int) := if 0 ≤ a ∧ a < 128 then (if (L.length : Int) < n then L ++ [(a, x)] else L) else L

theorem rpush_bad (b : Nat) (a x : Int) (w : World) (h : a < 0 ∨ 128 ≤ a) :
    Calls Tryd.prog 21 #[.pointer (some ⟨b, 0, none⟩), .int .i64 a, .int .u32 x] w fun ev w' => ev = .returned (.int .i64 1) ∧ w = w' := by
  by_cases a1 : a < 0
  · have a1 : decide (a < 0) = true := by simpa using a1
    go_enter Tryd.func21, Tryd.ntmps21
    go_wp2_with fail
    go_ret
    exact ⟨rfl, rfl⟩
  · have a1' : decide (a < 0) = false := by simpa using a1
    have a2 : decide (a ≥ 128) = true := by simp; omega
    go_enter Tryd.func21, Tryd.ntmps21
    go_wp2_with fail
    go_ret
    exact ⟨rfl, rfl⟩

set_option maxRecDepth 100000 in
set_option maxHeartbeats 2000000 in
theorem rpush_full (b : Nat) (v : Value) (n a x : Int) (L : List (Int × Int)) (w : World) (hB : RefAt w b v n L) (h : 0 ≤ a ∧ a < 128) (hn : n ≤ L.length) :
    Calls Tryd.prog 21 #[.pointer (some ⟨b, 0, none⟩), .int .i64 a, .int .u32 x] w fun ev w' => ev = .returned (.int .i64 6) ∧ Below w.heap.size w w' := by
  have c0 := cell_of hB.blk 0
  have c1 := cell_of hB.blk 1
  simp only [List.getElem?_toArray, List.getElem?_cons_zero, List.getElem?_cons_succ] at c0 c1
  obtain ⟨ad, cap, rfl⟩ := hB.row.len
  have hlt := hB.lt
  have a1 : decide (a < 0) = false := by simp; omega
  have a2 : decide (a ≥ 128) = false := by simp; omega
  have a3 : decide ((L.length : Int) ≥ n) = true := by simpa using hn
  go_enter Tryd.func21, Tryd.ntmps21
  go_wp2_with fail
  refine wp_region_lexA ⟨[], []⟩ (fun x => Below w.heap.size w x) (by kernel_rfl) (by kernel_rfl) (Below.refl _ _).drew ?_
  intro S hto hof hne
  have x0 : ∀ z : Wd S, z.w.cell? ⟨b, 0, none⟩ = some (.int .i64 n) := fun z => ((hto z).cell (p := ⟨b, 0, none⟩) hlt).trans c0
  have x1 : ∀ z : Wd S, z.w.cell? ⟨b, 1, none⟩ = some (.slice ad L.length cap) := fun z => ((hto z).cell (p := ⟨b, 1, none⟩) hlt).trans c1
  have Hof := Lib.hid hof
  clear hto hof
  refine lexW_light 10 (by kernel_rfl) ?_
  simp only [List.take_succ_cons, List.take_zero, List.drop_succ_cons, List.drop_zero]
  repeat (first | go_big_quiet_skip | (go_big_quiet_want; go_big_quiet_op; go_big_quiet_on))
  refine wpQuiet_nil ?_
  refine lexW_done ?_
  go_wp2_with fail
  go_ret
  exact ⟨rfl, (Below.refl _ _).drew⟩

set_option maxRecDepth 100000 in
set_option maxHeartbeats 4000000 in
theorem rpush_ok (b : Nat) (v : Value) (n a x : Int) (L : List (Int × Int)) (w : World) (hB : RefAt w b v n L) (h : 0 ≤ a ∧ a < 128) (hn : (L.length : Int) < n) (hbig : L.length ≤ 1000) :
    Calls Tryd.prog 21 #[.pointer (some ⟨b, 0, none⟩), .int .i64 a, .int .u32 x] w fun ev w' => ev = .returned (.int .i64 0) ∧ ∃ v', RefAt w' b v' n (L ++ [(a, x)]) ∧ Mods (bufS b v) w w' ∧ (∀ g, v'.ownBlock = some g → v.ownBlock = some g ∨ w.heap.size ≤ g) := by
  obtain ⟨i0, hi0, hi1⟩ := Option.map_eq_some_iff.1 nInfoR
  simp only [Prod.mk.injEq] at hi1
  obtain ⟨hz0, hz1, hz2⟩ := hi1
  have HI := Lib.hid hi0
  have HZ0 := Lib.hid hz0
  have HZ1 := Lib.hid hz1
  have HZ2 := Lib.hid hz2
  clear hi0 hz0 hz1 hz2
  have c0 := cell_of hB.blk 0
  have c1 := cell_of hB.blk 1
  simp only [List.getElem?_toArray, List.getElem?_cons_zero, List.getElem?_cons_succ] at c0 c1
  have HBA := Lib.hid hB
  obtain ⟨ad, cap, hvv⟩ := hB.row.len
  have HVV := Lib.hid hvv
  rw [hvv] at c1
  have hlt := hB.lt
  have a1 : decide (a < 0) = false := by simp; omega
  have a2 : decide (a ≥ 128) = false := by simp; omega
  have a3 : decide ((L.length : Int) ≥ n) = false := by simpa using hn
  clear hB hvv
  go_enter Tryd.func21, Tryd.ntmps21
  go_wp2_with fail
  refine wp_region_lexA ⟨[], []⟩ (fun x => Below w.heap.size w x) (by kernel_rfl) (by kernel_rfl) (Below.refl _ _).drew ?_
  intro S hto hof hne
  have x0 : ∀ z : Wd S, z.w.cell? ⟨b, 0, none⟩ = some (.int .i64 n) := fun z => ((hto z).cell (p := ⟨b, 0, none⟩) hlt).trans c0
  have x1 : ∀ z : Wd S, z.w.cell? ⟨b, 1, none⟩ = some (.slice ad L.length cap) := fun z => ((hto z).cell (p := ⟨b, 1, none⟩) hlt).trans c1
  have Hof := Lib.hid hof
  clear hto hof
  refine lexW_light 10 (by kernel_rfl) ?_
  simp only [List.take_succ_cons, List.take_zero, List.drop_succ_cons, List.drop_zero]
  repeat (first | go_big_quiet_skip | (go_big_quiet_want; go_big_quiet_op; go_big_quiet_on))
  refine wpQuiet_nil ?_
  refine lexW_done ?_
  have hB2 : Below w.heap.size w w.drew := (Below.refl _ _).drew
  generalize w.drew = W at hB2 ⊢
  have d1 : W.cell? ⟨b, 1, none⟩ = some (.slice ad L.length cap) := (hB2.cell (p := ⟨b, 1, none⟩) hlt).trans c1
  have HBW := Lib.hid (HBA.out.below hB2)
  clear x0 x1 c0 c1
  go_wp2_with (at_builtin; refine wpList_append_win _ rfl _ _ 49 rfl (b + 1) 52 i0 (.agg #[.int .i64 0, .int .u32 0]) 2 16 Tryd.underlying49 HI.out HZ0.out HZ1.out HZ2.out rfl (by decide) _ _ _ (HVV.out.symm) ((HBW.out.row).below ((Below.refl _ _).alloc (Nat.le_refl _) _)) ⟨W.heap.size, 0, none⟩ 1 1 (flatW [(a, x)]) rfl rfl (by exact cells_new W [_, _] _) (flatW_one _) (by omega) (by unfold maxLen; omega) (by omega) (by have := hB2.size; simp; omega) ?_; intro g off cap3 w3 hrow3 hgrow3 hat3 hlt3; have hblk3 := HBW.out.blk_grown ((Below.refl _ _).alloc (Nat.le_refl _) _) hgrow3; have k1 := cell_of hblk3 1; have k2 := frozen_of hblk3 1; simp only [List.getElem?_toArray, List.getElem?_cons_zero, List.getElem?_cons_succ] at k1)
  go_ret
  have hba : Below w.heap.size w (W.alloc (.cells #[.int .i64 a, .int .u32 x] 52)) := hB2.alloc hB2.size _
  refine ⟨rfl, .slice (some ⟨g, off, none⟩) (L.length + 1) cap3, ⟨?_, ?_⟩, ?_, ?_⟩
  · exact heap_setCell_at hblk3 _
  · have h2 := hrow3.keep (w' := w3.setCell ⟨b, 1, none⟩ (.slice (some ⟨g, off, none⟩) (L.length + 1) cap3)) fun k hk => Below.heap_setCell _ _ _ _ (by have := (hrow3.lt k hk).1; simp only; omega)
    rw [flatW_append, List.length_append]
    exact h2
  · exact ((Mods.of_below hba).trans (Mods.grown (S := bufS b v) hgrow3 fun k hk => .inr (HVV.out ▸ hk)) fun k _ h => h).setCell (.inl rfl) _
  · intro k hk
    simp only [Value.ownBlock, Option.some.injEq] at hk
    subst hk
    rcases hat3 with h | h
    · exact .inl (HVV.out ▸ h)
    · right
      rw [h]
      exact hba.size

theorem rpush_c (b : Nat) (v : Value) (n a x : Int) (L : List (Int × Int)) (w : World) (hB : RefAt w b v n L) (hbig : L.length ≤ 1000) :
    Calls Tryd.prog 21 #[.pointer (some ⟨b, 0, none⟩), .int .i64 a, .int .u32 x] w fun ev w' => ev = .returned (.int .i64 (pushK n L a)) ∧ ∃ v', RefAt w' b v' n (pushL n L a x) ∧ Mods (bufS b v) w w' ∧ (∀ g, v'.ownBlock = some g → v.ownBlock = some g ∨ w.heap.size ≤ g) := by
  unfold pushK pushL
  by_cases h : 0 ≤ a ∧ a < 128
  · rw [if_pos h, if_pos h]
    by_cases hn : (L.length : Int) < n
    · rw [if_pos hn, if_pos hn]
      exact rpush_ok b v n a x L w hB h hn hbig
    · rw [if_neg hn, if_neg hn]
      exact (rpush_full b v n a x L w hB h (by omega)).mono fun ev w' ⟨h1, h2⟩ => ⟨h1, v, hB.below h2, Mods.of_below h2, fun g hg => .inl hg⟩
  · rw [if_neg h, if_neg h]
    refine (rpush_bad b a x w (by omega)).mono ?_
    rintro ev w' ⟨rfl, rfl⟩
    exact ⟨rfl, v, hB, Mods.refl _ _, fun g hg => .inl hg⟩
theorem bpush_c (A : Nat → Addr) (b : Nat) (v : Value) (n a x : Int) (L : List (Int × Int)) (w : World) (hs : SentAt w A) (hB : BufAt w b v n L) (hbig : L.length ≤ 1000) :
    Calls Tryd.prog 15 #[.pointer (some ⟨b, 0, none⟩), .int .i64 a, .int .u32 x] w fun ev w' => ev = .returned ((pushE n L a).val A) ∧ ∃ v', BufAt w' b v' n (pushL n L a x) ∧ Mods (bufS b v) w w' ∧ (∀ g, v'.ownBlock = some g → v.ownBlock = some g ∨ w.heap.size ≤ g) := by
  unfold pushL
  by_cases h : 0 ≤ a ∧ a < 128
  · rw [if_pos h]
    by_cases hn : (L.length : Int) < n
    · rw [if_pos hn]
      refine (bpush_ok A b v n a x L w hB h hn hbig).mono fun ev w' ⟨h1, h2⟩ => ⟨?_, h2⟩
      rw [h1, pushE, if_pos h, if_pos hn]
      rfl
    · rw [if_neg hn]
      exact (bpush_full A b v n a x L w hs hB h (by omega)).mono fun ev w' ⟨h1, h2⟩ => ⟨h1, v, hB.below h2, Mods.of_below h2, fun g hg => .inl hg⟩
  · rw [if_neg h]
    refine (bpush_bad A b n a x L w hs (by omega)).mono ?_
    rintro ev w' ⟨rfl, rfl⟩
    exact ⟨rfl, v, hB, Mods.refl _ _, fun g hg => .inl hg⟩

set_option maxRecDepth 100000 in
set_option maxHeartbeats 2000000 in
theorem rforward_c (b : Nat) (v : Value) (n a : Int) (L : List (Int × Int)) (w : World) (hB : RefAt w b v n L) (hbig : L.length ≤ 1000) :
    Calls Tryd.prog 23 #[.pointer (some ⟨b, 0, none⟩), .int .i64 a] w fun ev w' => ev = .returned (.tuple #[.int .u32 ((fwdF L a).getD 0), .bool (fwdF L a).isSome]) ∧ w = w' := by
  have c1 := cell_of hB.blk 1
  simp only [List.getElem?_toArray, List.getElem?_cons_zero, List.getElem?_cons_succ] at c1
  obtain ⟨ad, cap, hvv⟩ := hB.row.len
  have HVV := Lib.hid hvv
  have HBA := Lib.hid hB
  rw [hvv] at c1
  clear hB hvv
  go_enter Tryd.func23, Tryd.ntmps23
  go_wp2_with fail
  go_loopw [6] (fun i wr => ∃ k : Nat, k ≤ L.length ∧ i = .int .i64 ((k : Int) - 1) ∧ fwdF L a = fwdF (L.take k) a ∧ w = wr) (fun i _ => (intOf i + 1).toNat)
  case atStart => exact ⟨L.length, Nat.le_refl _, rfl, by rw [List.take_length], rfl⟩
  case round =>
    obtain ⟨k, hk, rfl, hall, rfl⟩ := hrel
    have HALL := Lib.hid hall
    clear hall
    cases k with
    | zero =>
      go_wp2_with fail
      go_ret2
      exact ⟨by rw [HALL.out]; rfl, rfl⟩
    | succ k =>
      have hkl : L[k]? = some L[k] := List.getElem?_eq_getElem (by omega)
      obtain ⟨g, off, cap2, he, _, _, hg, hc⟩ := HBA.out.row.form (by omega)
      rw [HVV.out] at he
      simp only [Value.slice.injEq] at he
      obtain ⟨rfl, _, rfl⟩ := he
      have e1 := hc _ _ (flatW_at hkl).1
      have e2 := hc _ _ (flatW_at hkl).2
      have HK := Lib.hid hkl
      clear hkl hc
      generalize L[k] = y at *
      obtain ⟨y1, y2⟩ := y
      simp only at e1 e2
      rw [show ((k + 1 : Nat) : Int) - 1 = (k : Int) by omega]
      have hft := fwd_take a HK.out
      rw [Nat.mul_comm 2 k] at e1 e2
      rw [← Nat.add_assoc] at e2
      by_cases hy : y1 = a
      · have hyb : (y1 == a) = true := by simpa using hy
        go_wp2_with fail
        go_ret2
        rw [HALL.out, hft, if_pos hy]
        exact ⟨rfl, rfl⟩
      · have hyb : (y1 == a) = false := by simpa using hy
        go_wp2_with fail
        go_roundw
        case rel =>
          refine ⟨k, by omega, by go_num, ?_⟩
          rw [HALL.out, hft, if_neg hy]
          exact ⟨rfl, trivial⟩
        case measure => simp [intOf]

end Go.Proofs.YteljpfbfkpdchaaDoor
