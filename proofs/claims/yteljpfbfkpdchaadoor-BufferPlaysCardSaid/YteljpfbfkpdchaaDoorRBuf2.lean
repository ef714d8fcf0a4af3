/- The document's own store buffer: Head and Pop. -/
import Derived.Test.YteljpfbfkpdchaaDoorRBuf
namespace Go.Proofs.YteljpfbfkpdchaaDoor
open Go.RowKit Go.Extern.Stop Go.Stop Go.Extern

def hdA : List (Int × Int) → Int
  | [] => 0
  | x :: _ => x.1
def hdV : List (Int × Int) → Int
  | [] => 0
  | x :: _ => x.2
theorem headV_hd (L : List (Int × Int)) : headV L = .agg #[.int .i64 (hdA L), .int .u32 (hdV L)] := by
  cases L <;> rfl

set_option maxRecDepth 100000 in
set_option maxHeartbeats 2000000 in
theorem rhead_c (b : Nat) (v : Value) (n : Int) (L : List (Int × Int)) (w : World) (hB : RefAt w b v n L) :
    Calls Tryd.prog 24 #[.pointer (some ⟨b, 0, none⟩)] w fun ev w' => ev = .returned (.tuple #[.int .i64 (hdA L), .int .u32 (hdV L), .bool (decide (0 < L.length))]) ∧ Below w.heap.size w w' := by
  have c1 := cell_of hB.blk 1
  simp only [List.getElem?_toArray, List.getElem?_cons_zero, List.getElem?_cons_succ] at c1
  obtain ⟨ad, cap, hvv⟩ := hB.row.len
  rw [hvv] at c1
  have hlt := hB.lt
  cases L with
  | nil =>
    simp only [List.length_nil] at c1
    go_enter Tryd.func24, Tryd.ntmps24
    go_wp2_with fail
    go_ret3
    exact ⟨rfl, Below.refl _ _⟩
  | cons x L =>
    obtain ⟨x1, x2⟩ := x
    obtain ⟨g, off, cap2, he, _, hbg, hg, hc⟩ := hB.row.form (by simp)
    rw [hvv] at he
    simp only [Value.slice.injEq] at he
    obtain ⟨rfl, _, rfl⟩ := he
    have e1 := hc 0 (.int .i64 x1) rfl
    have e2 := hc 1 (.int .u32 x2) rfl
    rw [Nat.add_zero] at e1
    have hl0 : ((L.length : Int) + 1 == 0) = false := by simp only [beq_eq_false_iff_ne]; omega
    clear hB hc
    go_enter Tryd.func24, Tryd.ntmps24
    go_wp2_with fail
    refine wp_region_lexA ⟨[], []⟩ (fun x => Below w.heap.size w x) (by kernel_rfl) (by kernel_rfl) (Below.refl _ _).drew ?_
    intro S hto hof hne
    have y1 : ∀ z : Wd S, z.w.cell? ⟨b, 1, none⟩ = some (.slice (some ⟨g, off, none⟩) ((x1, x2) :: L).length cap) := fun z => ((hto z).cell (p := ⟨b, 1, none⟩) hlt).trans c1
    have y2 : ∀ z : Wd S, z.w.cell? ⟨g, off, none⟩ = some (.int .i64 x1) := fun z => ((hto z).cell (p := ⟨g, off, none⟩) hg).trans e1
    have y3 : ∀ z : Wd S, z.w.cell? ⟨g, off + 1, none⟩ = some (.int .u32 x2) := fun z => ((hto z).cell (p := ⟨g, off + 1, none⟩) hg).trans e2
    have Hof := Lib.hid hof
    clear hto hof e1 e2 c1
    refine lexW_light 17 (by kernel_rfl) ?_
    simp only [List.take_succ_cons, List.take_zero, List.drop_succ_cons, List.drop_zero]
    repeat (first | go_big_quiet_skip | (go_big_quiet_want; go_big_quiet_op; go_big_quiet_on))
    refine wpQuiet_nil ?_
    refine lexW_done ?_
    go_wp2_with fail
    go_ret3
    exact ⟨by simp only [List.length_cons]; rw [decide_eq_true (by omega)]; rfl, (Below.refl _ _).drew⟩

set_option maxRecDepth 100000 in
set_option maxHeartbeats 2000000 in
theorem rpop_c (b : Nat) (v : Value) (n : Int) (L : List (Int × Int)) (w : World) (hB : RefAt w b v n L) :
    Calls Tryd.prog 25 #[.pointer (some ⟨b, 0, none⟩)] w fun ev w' => ev = .returned (.bool (decide (0 < L.length))) ∧ ∃ v', RefAt w' b v' n (L.drop 1) ∧ Mods (bufS b v) w w' ∧ (∀ g, v'.ownBlock = some g → v.ownBlock = some g ∨ w.heap.size ≤ g) := by
  have c1 := cell_of hB.blk 1
  have k2 := frozen_of hB.blk 1
  simp only [List.getElem?_toArray, List.getElem?_cons_zero, List.getElem?_cons_succ] at c1
  obtain ⟨ad, cap, hvv⟩ := hB.row.len
  have HVV := Lib.hid hvv
  have HBA := Lib.hid hB
  rw [hvv] at c1
  clear hvv hB
  cases L with
  | nil =>
    simp only [List.length_nil] at c1
    go_enter Tryd.func25, Tryd.ntmps25
    go_wp2_with fail
    go_ret
    exact ⟨rfl, v, HBA.out, Mods.refl _ _, fun g hg => .inl hg⟩
  | cons x L =>
    obtain ⟨x1, x2⟩ := x
    obtain ⟨g, off, cap2, he, hcap, hbg, hg, hc⟩ := HBA.out.row.form (by simp)
    rw [HVV.out] at he
    simp only [Value.slice.injEq] at he
    obtain ⟨rfl, _, rfl⟩ := he
    have hl0 : ((L.length : Int) + 1 == 0) = false := by simp only [beq_eq_false_iff_ne]; omega
    have hcapL : L.length + 1 ≤ cap := hcap
    have hrow : winRow w (b + 1) 52 2 (.slice (some ⟨g, off, none⟩) (L.length + 1) cap) (L.length + 1) (.int .i64 x1 :: .int .u32 x2 :: flatW L) := by
      have := HBA.out.row
      rw [HVV.out] at this
      exact this
    have HR := Lib.hid hrow
    have hown : ∀ k, (Value.slice (some ⟨g, off + 2, none⟩) L.length (cap - 1)).ownBlock = some k → v.ownBlock = some k ∨ w.heap.size ≤ k := fun k hk => .inl (by rw [HVV.out]; exact hk)
    clear hc hcap hrow
    by_cases hcap1 : cap = 1
    · subst hcap1
      have hL0 : L.length = 0 := by omega
      obtain rfl : L = [] := List.eq_nil_of_length_eq_zero hL0
      go_enter Tryd.func25, Tryd.ntmps25
      go_wp2_with fail
      go_ret
      have hr2 := HR.out.none (off := off) (cap := 1) rfl rfl
      refine ⟨rfl, _, ⟨heap_setCell_at HBA.out.blk _, hr2.keep fun k hk => Below.heap_setCell _ _ _ _ (by have := (hr2.lt k hk).1; simp only; omega)⟩, (Mods.refl _ _).setCell (.inl rfl) _, fun k hk => .inl (by rw [HVV.out]; exact hk)⟩
    · go_enter Tryd.func25, Tryd.ntmps25
      go_wp2_with fail
      go_ret
      have hr2 := HR.out.tail
      refine ⟨by simp only [List.length_cons]; rw [decide_eq_true (by omega)]; rfl, _, ⟨heap_setCell_at HBA.out.blk _, hr2.keep fun k hk => Below.heap_setCell _ _ _ _ (by have := (hr2.lt k hk).1; simp only; omega)⟩, (Mods.refl _ _).setCell (.inl rfl) _, hown⟩

end Go.Proofs.YteljpfbfkpdchaaDoor
