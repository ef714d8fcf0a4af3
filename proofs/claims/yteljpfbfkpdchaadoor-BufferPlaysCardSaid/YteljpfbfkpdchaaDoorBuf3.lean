/- slices.Clone at stores; buffer.List, Pop and Head. -/
import Derived.Test.YteljpfbfkpdchaaDoorBuf2
import Derived.Lib.SliceRun
namespace Go.Proofs.YteljpfbfkpdchaaDoor
open Go.RowKit Go.Extern.Stop Go.Stop Go.Extern

set_option maxRecDepth 100000 in
set_option maxHeartbeats 2000000 in
theorem clone_c (v : Value) (L : List (Int × Int)) (w : World) (hv : slc w 2 v L.length (flatW L)) (hbig : L.length ≤ 1000) :
    Calls Tryd.prog 38 #[v] w fun ev w' => ∃ u, ev = .returned u ∧ winRow w' w.heap.size 32 2 u L.length (flatW L) ∧ Below w.heap.size w w' := by
  obtain ⟨i0, hi0, hi1⟩ := Option.map_eq_some_iff.1 nInfoW
  simp only [Prod.mk.injEq] at hi1
  obtain ⟨hz0, hz1, hz2⟩ := hi1
  have HI := Lib.hid hi0
  have HZ0 := Lib.hid hz0
  have HZ1 := Lib.hid hz1
  have HZ2 := Lib.hid hz2
  clear hi0 hz0 hz1 hz2
  obtain ⟨hfl, ad, cap, rfl, hc⟩ := hv
  have HFL := Lib.hid hfl
  have HC := Lib.hid hc
  clear hfl hc
  cases ad with
  | none =>
    have h0 : L.length = 0 := by
      rcases Nat.eq_zero_or_pos L.length with h | h
      · exact h
      · obtain ⟨g, off, h, _⟩ := HC.out h
        cases h
    have q : ∀ (w : World) (a : Option Addr) (n c n' c' : Nat), (binOp .eql 47 (.slice a n c) (.slice none n' c')).run Tryd.prog w = .ok (.bool a.isNone) w := fun w a n c n' c' => Lib.run_eql_slice_nil w _ _ a n c n' c' Tryd.underlying47
    go_enter Tryd.func38, Tryd.ntmps38
    go_wp2_with fail
    go_ret
    obtain rfl : L = [] := List.eq_nil_of_length_eq_zero h0
    exact ⟨_, rfl, winRow_nil .., Below.refl _ _⟩
  | some ad =>
    have q : ∀ (w : World) (a : Option Addr) (n c n' c' : Nat), (binOp .eql 47 (.slice a n c) (.slice none n' c')).run Tryd.prog w = .ok (.bool a.isNone) w := fun w a n c n' c' => Lib.run_eql_slice_nil w _ _ a n c n' c' Tryd.underlying47
    have hnews : ∀ (o : Obj) j u, (flatW L)[j]? = some u → (w.alloc o).cell? (ad.add j) = some u := fun o j u hj => by
      have hpos : 0 < L.length := by
        have := (List.getElem?_eq_some_iff.1 hj).1
        rw [flatW_length] at this
        omega
      obtain ⟨g, off, h, hg, hcc⟩ := HC.out hpos
      obtain rfl := Option.some.inj h
      rw [Addr.add_lit, World.cell?_alloc_lt _ _ _ hg]
      exact hcc j u hj
    have HN := Lib.hid hnews
    clear hnews
    go_enter Tryd.func38, Tryd.ntmps38
    go_wp2_with (at_builtin; refine wpList_append_own _ rfl _ _ 47 rfl w.heap.size 32 i0 (.agg #[.int .i64 0, .int .u32 0]) 2 16 Tryd.underlying47 HI.out HZ0.out HZ1.out HZ2.out rfl (by decide) _ _ _ rfl (World.ownsRow_made w #[] 0 (Nat.le_refl _) (Nat.zero_le _) rfl) ad L.length cap (flatW L) rfl (flatW_length L) (HN.out _) (flatW_one L) (by unfold maxLen; omega) (by omega) (by simp) ?_; intro v' w1 hown hgrow hnil)
    go_ret
    refine ⟨v', rfl, .of_owns (by simpa using hown), ?_⟩
    exact ((Below.refl _ w).alloc (Nat.le_refl _) _).grown hgrow (by simp) (by intro k hk; have hk : some w.heap.size = some k := hk; exact Nat.le_of_eq (Option.some.inj hk))

set_option maxRecDepth 100000 in
set_option maxHeartbeats 2000000 in
theorem blist_c (b : Nat) (v : Value) (n : Int) (L : List (Int × Int)) (w : World) (hB : BufAt w b v n L) (hbig : L.length ≤ 1000) :
    Calls Tryd.prog 26 #[.pointer (some ⟨b, 0, none⟩)] w fun ev w' => ∃ u, ev = .returned u ∧ winRow w' w.heap.size 32 2 u L.length (flatW L) ∧ Below w.heap.size w w' := by
  have c1 := cell_of hB.blk 1
  simp only [List.getElem?_toArray, List.getElem?_cons_zero, List.getElem?_cons_succ] at c1
  obtain ⟨ad, cap, hvv⟩ := hB.row.len
  have HVV := Lib.hid hvv
  have HBA := Lib.hid hB
  rw [hvv] at c1
  clear hB hvv
  go_enter Tryd.func26, Tryd.ntmps26
  go_wp2_with fail
  refine (clone_c (.slice ad L.length cap) L w (HVV.out ▸ HBA.out.row.slc) hbig).mono ?_
  rintro ev w' ⟨u, rfl, hu, hb⟩
  obtain ⟨ad2, cap2, rfl⟩ := hu.len
  go_wp2_with fail
  go_ret
  exact ⟨_, rfl, hu, hb⟩

set_option maxRecDepth 100000 in
set_option maxHeartbeats 2000000 in
theorem bpop_c (b : Nat) (v : Value) (n : Int) (L : List (Int × Int)) (w : World) (hB : BufAt w b v n L) (hbig : L.length ≤ 1000) :
    Calls Tryd.prog 18 #[.pointer (some ⟨b, 0, none⟩)] w fun ev w' => ev = .returned (.bool (decide (0 < L.length))) ∧ ∃ v', BufAt w' b v' n (L.drop 1) ∧ Mods (bufS b v) w w' ∧ (∀ g, v'.ownBlock = some g → v.ownBlock = some g ∨ w.heap.size ≤ g) := by
  have c1 := cell_of hB.blk 1
  simp only [List.getElem?_toArray, List.getElem?_cons_zero, List.getElem?_cons_succ] at c1
  obtain ⟨ad, cap, hvv⟩ := hB.row.len
  have HVV := Lib.hid hvv
  have HBA := Lib.hid hB
  rw [hvv] at c1
  clear hB hvv
  by_cases h0 : L.length = 0
  · have hb : ((L.length : Int) == 0) = true := by simp [h0]
    go_enter Tryd.func18, Tryd.ntmps18
    go_wp2_with fail
    go_ret
    obtain rfl : L = [] := List.eq_nil_of_length_eq_zero h0
    exact ⟨rfl, v, HBA.out, Mods.refl _ _, fun g hg => .inl hg⟩
  · have hb : ((L.length : Int) == 0) = false := by simpa using h0
    obtain ⟨g, off, cap2, he, hcap, hbg, hg, hc⟩ := HBA.out.row.form (by omega)
    rw [HVV.out] at he
    simp only [Value.slice.injEq] at he
    obtain ⟨rfl, _, rfl⟩ := he
    have hslc : ∀ ad2, (0 < (L.drop 1).length → ad2 = ⟨g, off + 2, none⟩) → slc w 2 (.slice (some ad2) (L.length - 1) (cap - 1)) (L.drop 1).length (flatW (L.drop 1)) := fun ad2 h2 =>
      ⟨flatW_length _, some ad2, cap - 1, by rw [List.length_drop], fun hp => ⟨g, off + 2, by rw [h2 hp], hg, fun j u hj => by
        rw [← flatW_drop, List.getElem?_drop] at hj
        rw [Nat.add_assoc]
        exact hc _ u hj⟩⟩
    have hlt := HBA.out.lt
    have HS := Lib.hid hslc
    have HCC := Lib.hid hc
    clear hslc hc
    by_cases hcap1 : cap = 1
    · subst hcap1
      have hd : (L.drop 1).length = 0 := by rw [List.length_drop]; omega
      go_enter Tryd.func18, Tryd.ntmps18
      go_wp2_with fail
      have h00 : slc w 2 (.slice (some ⟨g, off, none⟩) 0 0) (L.drop 1).length (flatW (L.drop 1)) := by
        have := HS.out ⟨g, off, none⟩ (fun h => by omega)
        rwa [show L.length - 1 = 0 by omega] at this
      refine (clone_c _ (L.drop 1) w h00 (by rw [List.length_drop]; omega)).mono ?_
      rintro ev w' ⟨u, rfl, hu, hb2⟩
      have hd1 : (L.drop 1).length = 0 := hd
      rw [hd1] at hu
      obtain ⟨ad2, cap2, huv⟩ := hu.len
      have hblk := (hb2.block b hlt).trans HBA.out.blk
      have k1 := cell_of hblk 1
      have k2 := frozen_of hblk 1
      simp only [List.getElem?_toArray, List.getElem?_cons_zero, List.getElem?_cons_succ] at k1
      subst huv
      go_wp2_with fail
      go_ret
      refine ⟨by rw [decide_eq_true (by omega)]; rfl, _, ⟨heap_setCell_at hblk _, ?_⟩, ?_, ?_⟩
      · rw [hd1]
        refine (hu.keep fun k hk => Below.heap_setCell _ _ _ _ (by have := (hu.lt k hk).1; simp only; omega)).base_le fun k hk => ?_
        have := (hu.lt k hk).1
        omega
      · exact (Mods.of_below hb2).setCell (.inl rfl) _
      · exact fun k hk => .inr (hu.lt k hk).1
    · go_enter Tryd.func18, Tryd.ntmps18
      go_wp2_with fail
      refine (clone_c _ (L.drop 1) w (HS.out ⟨g, off + 2, none⟩ (fun _ => rfl)) (by rw [List.length_drop]; omega)).mono ?_
      rintro ev w' ⟨u, rfl, hu, hb2⟩
      have hd1 : (L.drop 1).length = L.length - 1 := by rw [List.length_drop]
      rw [hd1] at hu
      obtain ⟨ad2, cap2, huv⟩ := hu.len
      have hblk := (hb2.block b hlt).trans HBA.out.blk
      have k1 := cell_of hblk 1
      have k2 := frozen_of hblk 1
      simp only [List.getElem?_toArray, List.getElem?_cons_zero, List.getElem?_cons_succ] at k1
      subst huv
      go_wp2_with fail
      go_ret
      refine ⟨by rw [decide_eq_true (by omega)]; rfl, _, ⟨heap_setCell_at hblk _, ?_⟩, ?_, ?_⟩
      · rw [hd1]
        refine (hu.keep fun k hk => Below.heap_setCell _ _ _ _ (by have := (hu.lt k hk).1; simp only; omega)).base_le fun k hk => ?_
        have := (hu.lt k hk).1
        omega
      · exact (Mods.of_below hb2).setCell (.inl rfl) _
      · exact fun k hk => .inr (hu.lt k hk).1

/-- What buffer.Head answers. -/
def headV (L : List (Int × Int)) : Value := match L with
  | [] => .agg #[.int .i64 0, .int .u32 0]
  | x :: _ => .agg #[.int .i64 x.1, .int .u32 x.2]

set_option maxRecDepth 100000 in
set_option maxHeartbeats 2000000 in
theorem bhead_c (b : Nat) (v : Value) (n : Int) (L : List (Int × Int)) (w : World) (hB : BufAt w b v n L) (hbig : L.length ≤ 1000) :
    Calls Tryd.prog 17 #[.pointer (some ⟨b, 0, none⟩)] w fun ev w' => ev = .returned (.tuple #[headV L, .bool (decide (0 < L.length))]) ∧ Below w.heap.size w w' := by
  have hB0 : Below w.heap.size w (w.alloc (.cells #[.int .i64 0, .int .u32 0] 32)) := (Below.refl _ _).alloc (Nat.le_refl _) _
  have hBA := hB.below hB0
  have hX : (w.alloc (.cells #[.int .i64 0, .int .u32 0] 32)).heap[w.heap.size]? = some (.cells #[.int .i64 0, .int .u32 0] 32) := heap_alloc_new w _
  have c1 := cell_of hBA.blk 1
  simp only [List.getElem?_toArray, List.getElem?_cons_zero, List.getElem?_cons_succ] at c1
  have z0 := frozen_of hX 0
  have z1 := frozen_of hX 1
  have d0 := cell_of hX 0
  have d1 := cell_of hX 1
  simp only [List.getElem?_toArray, List.getElem?_cons_zero, List.getElem?_cons_succ] at d0 d1
  have HX := Lib.hid hX
  have HB0 := Lib.hid hB0
  clear hX hB0
  obtain ⟨ad, cap, hvv⟩ := hBA.row.len
  rw [hvv] at c1
  cases L with
  | nil =>
    go_enter Tryd.func17, Tryd.ntmps17
    go_wp2_with fail
    refine bodyPost_ret_by (v := .tuple #[.agg #[.int .i64 0, .int .u32 0], .bool false]) (by simp [results, Tryd.results17, go_sem]) rfl ?_
    exact ⟨rfl, (Below.refl _ _).alloc (Nat.le_refl _) _⟩
  | cons x L =>
    obtain ⟨x1, x2⟩ := x
    obtain ⟨g, off, cap2, he, _, hbg, hg, hc⟩ := hBA.row.form (by simp)
    rw [hvv] at he
    simp only [Value.slice.injEq] at he
    obtain ⟨rfl, _, rfl⟩ := he
    have e1 := hc 0 (.int .i64 x1) rfl
    have e2 := hc 1 (.int .u32 x2) rfl
    have hl0 : ((((x1, x2) :: L).length : Int) == 0) = false := by simp only [List.length_cons, beq_eq_false_iff_ne]; omega
    rw [Nat.add_zero] at e1
    go_enter Tryd.func17, Tryd.ntmps17
    go_wp2_with fail
    refine bodyPost_ret_by (v := .tuple #[.agg #[.int .i64 x1, .int .u32 x2], .bool true]) (by simp [results, Tryd.results17, go_sem]) rfl ?_
    exact ⟨rfl, (Below.refl _ _).alloc (Nat.le_refl _) _⟩

end Go.Proofs.YteljpfbfkpdchaaDoor
