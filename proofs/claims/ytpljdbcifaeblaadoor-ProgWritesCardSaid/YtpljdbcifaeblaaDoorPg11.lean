/- assentbook.Roomy at operations. -/
import Derived.Test.YtpljdbcifaeblaaDoorPg10
import Derived.Deep.Cut
namespace Go.Proofs.YtpljdbcifaeblaaDoor
open Go.RowKit Go.Extern.Stop Go.Stop Go.Extern

theorem fill4 (Y Z : List Value) (k : Nat) (a b c d : Value) (h : k + 4 ≤ Z.length) : ((((Y ++ Z.drop k).set Y.length a).set (Y.length + 1) b).set (Y.length + 2) c).set (Y.length + 3) d = (Y ++ [a, b, c, d]) ++ Z.drop (k + 4) := by
  have e : Z.drop k = Z[k] :: Z[k + 1] :: Z[k + 2] :: Z[k + 3] :: Z.drop (k + 4) := by
    rw [List.drop_eq_getElem_cons (by omega), List.drop_eq_getElem_cons (by omega), List.drop_eq_getElem_cons (by omega), List.drop_eq_getElem_cons (by omega)]
  rw [e]
  generalize Z[k] = z0
  generalize Z[k + 1] = z1
  generalize Z[k + 2] = z2
  generalize Z[k + 3] = z3
  generalize Z.drop (k + 4) = R
  simp [List.set_append_right]
theorem flatP_rep (m : OpV) (j : Nat) : flatP (List.replicate (j + 1) m) = flatP (List.replicate j m) ++ m.cs := by
  rw [List.replicate_succ', flatP_append]
  simp [flatP]

set_option maxRecDepth 100000 in
set_option maxHeartbeats 4000000 in
theorem roomyO_c (v : Value) (l : List OpV) (m : OpV) (w : World) (hv : slc w 4 v l.length (flatP l)) (hbig : l.length ≤ 100000) :
    Calls Tryd.prog 21 #[v, m.v] w fun ev w' => ∃ g cap, ev = .returned (.slice (some ⟨g, 0, none⟩) (l.length + 80) cap) ∧ winRow w' w.heap.size 29 4 (.slice (some ⟨g, 0, none⟩) (l.length + 80) cap) (l.length + 80) (flatP (l ++ List.replicate 80 m)) ∧ Below w.heap.size w w' := by
  obtain ⟨i0, hi0, hi1⟩ := Option.map_eq_some_iff.1 nInfoP
  simp only [Prod.mk.injEq] at hi1
  obtain ⟨hz0, hz1, hz2⟩ := hi1
  have HI := Lib.hid hi0
  have HZ0 := Lib.hid hz0
  have HZ1 := Lib.hid hz1
  have HZ2 := Lib.hid hz2
  have HV := Lib.hid hv
  have hb2 := Lib.hid (show i0.bytes * (l.length + 80) ≤ 281474976710656 by rw [hz2]; omega)
  clear hi0 hz0 hz1 hz2
  obtain ⟨_, ad0, cap0, rfl, _⟩ := hv
  obtain ⟨kd, ad, va, ol⟩ := m
  simp only [OpV.v]
  have hX := heap_alloc_new w (.cells #[.int .i64 kd, .int .i64 ad, .int .u32 va, .int .u32 ol] 29)
  have hb0 : Below w.heap.size w (w.alloc (.cells #[.int .i64 kd, .int .i64 ad, .int .u32 va, .int .u32 ol] 29)) := (Below.refl _ _).alloc (Nat.le_refl _) _
  have HX := Lib.hid hX
  have HB0 := Lib.hid hb0
  clear hX hb0
  go_enter Tryd.func21, Tryd.ntmps21
  go_upto_region 1 with fail
  obtain ⟨hO, hhO⟩ : ∃ h, h = w.heap.size := ⟨_, rfl⟩
  rw [← hhO] at HX ⊢
  have HOO := Lib.hid hhO
  generalize w.alloc (.cells #[.int .i64 kd, .int .i64 ad, .int .u32 va, .int .u32 ol] 29) = w0 at *
  clear hhO
  go_wp2_with (first
    | (refine wpList_make_win (o := ⟨some 10, _, _, _, _, _⟩) _ rfl _ _ 30 rfl w0.heap.size 29 i0 (.agg #[.int .i64 0, .int .i64 0, .int .u32 0, .int .u32 0]) 4 Tryd.underlying30 HI.out HZ0.out HZ1.out (l.length + 80) rfl rfl hb2.out (by unfold maxLen; omega) (Nat.le_refl _) ?_; intro w1 hrow1 hB1)
    | (refine wpList_copy_win (o := ⟨some 13, _, _, _, _, _⟩) rfl _ _ 30 30 rfl w0.heap.size 29 i0 4 Tryd.underlying30 HI.out HZ1.out _ _ _ rfl hrow1 _ _ _ rfl ((HV.out.below HB0.out).below hB1) (flatP_one l) (by omega) ?_; intro w2 hrow2 hgr2))
  have HOW := Lib.hid (show hO < w0.heap.size from (Array.getElem?_eq_some_iff.1 HX.out).1)
  have hB2 : Below w0.heap.size w0 w2 := hB1.grown hgr2 hB1.size fun k hk => by
    have hk : some w0.heap.size = some k := hk
    exact Nat.le_of_eq (Option.some.inj hk)
  have hrow2 : winRow w2 w0.heap.size 29 4 (.slice (some ⟨w0.heap.size, 0, none⟩) (l.length + 80) (l.length + 80)) (l.length + 80) _ := hrow2
  obtain ⟨Z, hZ⟩ : ∃ Z : List Value, Z = ((madeCells (Value.agg #[.int .i64 0, .int .i64 0, .int .u32 0, .int .u32 0]).cells ((l.length + 80) * 4)).toList.drop (l.length * 4)) := ⟨_, rfl⟩
  have hZl : Z.length = 320 := by
    have := hrow2.1
    rw [← hZ, List.length_append, flatP_length] at this
    omega
  rw [← hZ] at hrow2
  have HR2 := Lib.hid hrow2
  have HB2 := Lib.hid hB2
  have HZL := Lib.hid hZl
  clear hrow1 hB1 hrow2 hgr2 hB2 hZ hZl
  go_loopw [6] (fun s6 wr => ∃ j : Nat, j ≤ 80 ∧ s6 = .int .i64 ((l.length + j : Nat) : Int) ∧ winRow wr w0.heap.size 29 4 (.slice (some ⟨w0.heap.size, 0, none⟩) (l.length + 80) (l.length + 80)) (l.length + 80) ((flatP l ++ flatP (List.replicate j ⟨kd, ad, va, ol⟩)) ++ Z.drop (j * 4)) ∧ Below w0.heap.size w0 wr) (fun s6 _ => l.length + 80 - (intOf s6).toNat)
  case atStart => exact ⟨0, by omega, rfl, by simpa [flatP] using HR2.out, HB2.out⟩
  case round =>
    clear HR2 HB2
    obtain ⟨j, hj, rfl, hrow, hB⟩ := hrel
    have HROW := Lib.hid hrow
    have HB := Lib.hid hB
    by_cases hj80 : j < 80
    · have g1 : decide (((l.length + j : Nat) : Int) < (l.length : Int) + 80) = true := by simp; omega
      have g2 : l.length + j < l.length + 80 := by omega
      obtain ⟨g, off, cap, he, _, _, hg, hc⟩ := hrow.form (by omega)
      simp only [Value.slice.injEq, Option.some.injEq, Addr.mk.injEq] at he
      obtain ⟨⟨rfl, rfl, _⟩, _, rfl⟩ := he
      have hl : ∀ c, c < 4 → (l.length + j) * 4 + c < ((flatP l ++ flatP (List.replicate j ⟨kd, ad, va, ol⟩)) ++ Z.drop (j * 4)).length := fun c hc4 => by
        have := HZL.out
        simp only [List.length_append, flatP_length, List.length_replicate, List.length_drop]
        omega
      have c0 := hc ((l.length + j) * 4 + 0) _ (List.getElem?_eq_getElem (hl 0 (by omega)))
      have c1 := hc ((l.length + j) * 4 + 1) _ (List.getElem?_eq_getElem (hl 1 (by omega)))
      have c2 := hc ((l.length + j) * 4 + 2) _ (List.getElem?_eq_getElem (hl 2 (by omega)))
      have c3 := hc ((l.length + j) * 4 + 3) _ (List.getElem?_eq_getElem (hl 3 (by omega)))
      generalize ((flatP l ++ flatP (List.replicate j (⟨kd, ad, va, ol⟩ : OpV))) ++ Z.drop (j * 4))[(l.length + j) * 4 + 0]'(hl 0 (by omega)) = p0 at c0
      generalize ((flatP l ++ flatP (List.replicate j (⟨kd, ad, va, ol⟩ : OpV))) ++ Z.drop (j * 4))[(l.length + j) * 4 + 1]'(hl 1 (by omega)) = p1 at c1
      generalize ((flatP l ++ flatP (List.replicate j (⟨kd, ad, va, ol⟩ : OpV))) ++ Z.drop (j * 4))[(l.length + j) * 4 + 2]'(hl 2 (by omega)) = p2 at c2
      generalize ((flatP l ++ flatP (List.replicate j (⟨kd, ad, va, ol⟩ : OpV))) ++ Z.drop (j * 4))[(l.length + j) * 4 + 3]'(hl 3 (by omega)) = p3 at c3
      have f0 := hrow.frozen rfl ((l.length + j) * 4)
      have f1 := hrow.frozen rfl ((l.length + j) * 4 + 1)
      have f2 := hrow.frozen rfl ((l.length + j) * 4 + 2)
      have f3 := hrow.frozen rfl ((l.length + j) * 4 + 3)
      have h4 := (((hrow.set rfl ((l.length + j) * 4) (by omega) (.int .i64 kd)).set rfl ((l.length + j) * 4 + 1) (by omega) (.int .i64 ad)).set rfl ((l.length + j) * 4 + 2) (by omega) (.int .u32 va)).set rfl ((l.length + j) * 4 + 3) (by omega) (.int .u32 ol)
      simp only [Nat.zero_add, Nat.add_zero] at c0 c1 c2 c3 f0 f1 f2 f3 h4
      try simp only [← Nat.add_assoc] at c1 c2 c3 f1 f2 f3 h4
      have H4 := Lib.hid h4
      have HXR := Lib.hid ((hB.block hO HOW.out).trans HX.out)
      have q0 := cell_of HXR.out 0
      have q1 := cell_of HXR.out 1
      have q2 := cell_of HXR.out 2
      have q3 := cell_of HXR.out 3
      simp only [List.getElem?_toArray, List.getElem?_cons_zero, List.getElem?_cons_succ] at q0 q1 q2 q3
      have hlq := (Array.getElem?_eq_some_iff.1 HXR.out).1
      clear hc hl hrow hB h4
      go_wp2_with fail
      go_roundw
      case rel =>
        refine ⟨j + 1, by omega, by go_num, ?_, (((HB.out.setCell (Nat.le_refl _) _).setCell (Nat.le_refl _) _).setCell (Nat.le_refl _) _).setCell (Nat.le_refl _) _⟩
        have h := H4.out
        have hf := fill4 (flatP l ++ flatP (List.replicate j (⟨kd, ad, va, ol⟩ : OpV))) Z (j * 4) (.int .i64 kd) (.int .i64 ad) (.int .u32 va) (.int .u32 ol) (by have := HZL.out; omega)
        rw [List.length_append, flatP_length, flatP_length, List.length_replicate, ← Nat.add_mul] at hf
        rw [hf] at h
        rw [flatP_rep, show (j + 1) * 4 = j * 4 + 4 by omega, ← List.append_assoc]
        exact h
      case measure => simp [intOf]; omega
    · have hj' : j = 80 := by omega
      subst hj'
      have g1 : decide (((l.length + 80 : Nat) : Int) < (l.length : Int) + 80) = false := by simp
      have hd : Z.drop (80 * 4) = [] := List.drop_eq_nil_of_le (by have := HZL.out; omega)
      clear hrow hB
      go_wp2_with fail
      go_ret
      refine ⟨w0.heap.size, l.length + 80, rfl, ?_, HB0.out.trans (HB.out.mono HB0.out.size)⟩
      have h := HROW.out
      rw [hd, List.append_nil] at h
      rw [flatP_append]
      exact h.base2 HB0.out.size

end Go.Proofs.YtpljdbcifaeblaaDoor
