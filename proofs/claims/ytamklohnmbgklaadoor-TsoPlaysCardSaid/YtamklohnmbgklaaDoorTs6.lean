/- slices.Clone at stores and at words; the memory model's Step (the program's). -/
import Derived.Test.YtamklohnmbgklaaDoorTs5
namespace Go.Proofs.YtamklohnmbgklaaDoor
open Go.RowKit Go.Extern.Stop Go.Stop Go.Extern

theorem nInfoWP : (Tryd.prog.info? 94).map (fun i => (i.zero, i.size, i.bytes)) = some (some (.agg #[.int .i64 0, .int .u32 0]), 2, 16) := by kernel_rfl
theorem nInfoWR : (Tryd.prog.info? 87).map (fun i => (i.zero, i.size, i.bytes)) = some (some (.agg #[.int .i64 0, .int .u32 0]), 2, 16) := by kernel_rfl

set_option maxRecDepth 100000 in
set_option maxHeartbeats 2000000 in
theorem cloneW_c (v : Value) (L : List (Int × Int)) (w : World) (hv : slc w 2 v L.length (flatW L)) (hbig : L.length ≤ 100000) :
    Calls Tryd.prog 38 #[v] w fun ev w' => ∃ u, ev = .returned u ∧ winRow w' w.heap.size 94 2 u L.length (flatW L) ∧ Below w.heap.size w w' := by
  obtain ⟨i0, hi0, hi1⟩ := Option.map_eq_some_iff.1 nInfoWP
  simp only [Prod.mk.injEq] at hi1
  obtain ⟨hz0, hz1, hz2⟩ := hi1
  have HI := Lib.hid hi0
  have HZ0 := Lib.hid hz0
  have HZ1 := Lib.hid hz1
  have HZ2 := Lib.hid hz2
  clear hi0 hz0 hz1 hz2
  obtain ⟨hfl, ad, cap, rfl, hc⟩ := hv
  have HFL := Lib.hid hfl
  have HC := Lib.hid hc
  clear hfl hc
  cases ad with
  | none =>
    have h0 : L.length = 0 := by
      rcases Nat.eq_zero_or_pos L.length with h | h
      · exact h
      · obtain ⟨g, off, h, _⟩ := HC.out h
        cases h
    have q : ∀ (w : World) (a : Option Addr) (n c n' c' : Nat), (binOp .eql 92 (.slice a n c) (.slice none n' c')).run Tryd.prog w = .ok (.bool a.isNone) w := fun w a n c n' c' => Lib.run_eql_slice_nil w _ _ a n c n' c' Tryd.underlying92
    go_enter Tryd.func38, Tryd.ntmps38
    go_wp2_with fail
    go_ret
    obtain rfl : L = [] := List.eq_nil_of_length_eq_zero h0
    exact ⟨_, rfl, winRow_nil .., Below.refl _ _⟩
  | some ad =>
    have q : ∀ (w : World) (a : Option Addr) (n c n' c' : Nat), (binOp .eql 92 (.slice a n c) (.slice none n' c')).run Tryd.prog w = .ok (.bool a.isNone) w := fun w a n c n' c' => Lib.run_eql_slice_nil w _ _ a n c n' c' Tryd.underlying92
    have hnews : ∀ (o : Obj) j u, (flatW L)[j]? = some u → (w.alloc o).cell? (ad.add j) = some u := fun o j u hj => by
      have hpos : 0 < L.length := by
        have := (List.getElem?_eq_some_iff.1 hj).1
        rw [flatW_length] at this
        omega
      obtain ⟨g, off, h, hg, hcc⟩ := HC.out hpos
      obtain rfl := Option.some.inj h
      rw [Addr.add_lit, World.cell?_alloc_lt _ _ _ hg]
      exact hcc j u hj
    have HN := Lib.hid hnews
    clear hnews
    go_enter Tryd.func38, Tryd.ntmps38
    go_wp2_with (at_builtin; refine wpList_append_own _ rfl _ _ 92 rfl w.heap.size 94 i0 (.agg #[.int .i64 0, .int .u32 0]) 2 16 Tryd.underlying92 HI.out HZ0.out HZ1.out HZ2.out rfl (by decide) _ _ _ rfl (World.ownsRow_made w #[] 0 (Nat.le_refl _) (Nat.zero_le _) rfl) ad L.length cap (flatW L) rfl (flatW_length L) (HN.out _) (flatW_one L) (by unfold maxLen; omega) (by omega) (by simp) ?_; intro v' w1 hown hgrow hnil)
    go_ret
    refine ⟨v', rfl, .of_owns (by simpa using hown), ?_⟩
    exact ((Below.refl _ w).alloc (Nat.le_refl _) _).grown hgrow (by simp) (by intro k hk; have hk : some w.heap.size = some k := hk; exact Nat.le_of_eq (Option.some.inj hk))

set_option maxRecDepth 100000 in
set_option maxHeartbeats 2000000 in
theorem cloneU_c (v : Value) (L : List Int) (w : World) (hv : slc w 1 v L.length (u32V L)) (hbig : L.length ≤ 100000) :
    Calls Tryd.prog 39 #[v] w fun ev w' => ∃ u, ev = .returned u ∧ winRow w' w.heap.size 22 1 u L.length (u32V L) ∧ Below w.heap.size w w' := by
  obtain ⟨i0, hi0, hi1⟩ := Option.map_eq_some_iff.1 nInfoU
  simp only [Prod.mk.injEq] at hi1
  obtain ⟨hz0, hz1, hz2⟩ := hi1
  have HI := Lib.hid hi0
  have HZ0 := Lib.hid hz0
  have HZ1 := Lib.hid hz1
  have HZ2 := Lib.hid hz2
  clear hi0 hz0 hz1 hz2
  obtain ⟨hfl, ad, cap, rfl, hc⟩ := hv
  have HC := Lib.hid hc
  clear hfl hc
  have q : ∀ (w : World) (a : Option Addr) (n c n' c' : Nat), (binOp .eql 27 (.slice a n c) (.slice none n' c')).run Tryd.prog w = .ok (.bool a.isNone) w := fun w a n c n' c' => Lib.run_eql_slice_nil w _ _ a n c n' c' Tryd.underlying27
  cases ad with
  | none =>
    have h0 : L.length = 0 := by
      rcases Nat.eq_zero_or_pos L.length with h | h
      · exact h
      · obtain ⟨g, off, h, _⟩ := HC.out h
        cases h
    go_enter Tryd.func39, Tryd.ntmps39
    go_wp2_with fail
    go_ret
    obtain rfl : L = [] := List.eq_nil_of_length_eq_zero h0
    exact ⟨_, rfl, winRow_nil .., Below.refl _ _⟩
  | some ad =>
    have hnews : ∀ (o : Obj) j u, (u32V L)[j]? = some u → (w.alloc o).cell? (ad.add j) = some u := fun o j u hj => by
      have hpos : 0 < L.length := by
        have := (List.getElem?_eq_some_iff.1 hj).1
        rw [u32V_length] at this
        omega
      obtain ⟨g, off, h, hg, hcc⟩ := HC.out hpos
      obtain rfl := Option.some.inj h
      rw [Addr.add_lit, World.cell?_alloc_lt _ _ _ hg]
      exact hcc j u hj
    have HN := Lib.hid hnews
    clear hnews
    go_enter Tryd.func39, Tryd.ntmps39
    go_wp2_with (at_builtin; refine wpList_append_own _ rfl _ _ 27 rfl w.heap.size 22 i0 (.int .u32 0) 1 4 Tryd.underlying27 HI.out HZ0.out HZ1.out HZ2.out rfl (by decide) _ _ _ rfl (World.ownsRow_made w #[] 0 (Nat.le_refl _) (Nat.zero_le _) rfl) ad L.length cap (u32V L) rfl (by rw [u32V_length, Nat.mul_one]) (HN.out _) (u32V_one L) (by unfold maxLen; omega) (by omega) (by simp) ?_; intro v' w1 hown hgrow hnil)
    go_ret
    refine ⟨v', rfl, .of_owns (by simpa using hown), ?_⟩
    exact ((Below.refl _ w).alloc (Nat.le_refl _) _).grown hgrow (by simp) (by intro k hk; have hk : some w.heap.size = some k := hk; exact Nat.le_of_eq (Option.some.inj hk))

theorem cells_new (w : World) (cs : List Value) (ty : TypeId) : ∀ j u, cs[j]? = some u → (w.alloc (.cells cs.toArray ty)).cell? ((⟨w.heap.size, 0, none⟩ : Addr).add j) = some u := fun j u h => by
  rw [Addr.add_lit, Nat.zero_add, World.cell?_alloc_new]
  simpa using h

end Go.Proofs.YtamklohnmbgklaaDoor
