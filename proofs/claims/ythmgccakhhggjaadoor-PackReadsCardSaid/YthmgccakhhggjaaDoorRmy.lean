/- assentbook.Roomy and Intact at bytes. -/
import Derived.Test.YthmgccakhhggjaaDoorCpy
import Derived.Test.YthmgccakhhggjaaDoorPk5
namespace Go.Proofs.YthmgccakhhggjaaDoor
open Go.RowKit Go.Extern.Stop Go.Stop Go.Extern

theorem fill_step (X Z : List Value) (mk : Value) (j : Nat) (hj : j < Z.length) : (X ++ (List.replicate j mk ++ Z.drop j)).set (X.length + j) mk = X ++ (List.replicate (j + 1) mk ++ Z.drop (j + 1)) := by
  rw [List.set_append_right _ _ (by omega), Nat.add_sub_cancel_left, List.set_append_right _ _ (by simp), List.length_replicate, Nat.sub_self, List.drop_eq_getElem_cons hj, List.set_cons_zero, List.replicate_succ', List.append_assoc]
  rfl
theorem byteV_rep (k c : Nat) : byteV (List.replicate k c) = List.replicate k (.int .u8 (c : Int)) := by simp [byteV]

set_option maxRecDepth 100000 in
set_option maxHeartbeats 2000000 in
theorem roomyB_c (v : Value) (L : List Nat) (c : Nat) (w : World) (hv : slc w 1 v L.length (byteV L)) (hbig : L.length ≤ 140737488351232) :
    Calls Tryd.prog 19 #[v, .int .u8 c] w fun ev w' => ∃ g cap, ev = .returned (.slice (some ⟨g, 0, none⟩) (L.length + 80) cap) ∧ winRow w' w.heap.size 5 1 (.slice (some ⟨g, 0, none⟩) (L.length + 80) cap) (L.length + 80) (byteV (L ++ List.replicate 80 c)) ∧ Below w.heap.size w w' := by
  obtain ⟨i0, hi0, hi1⟩ := Option.map_eq_some_iff.1 nInfoB
  simp only [Prod.mk.injEq] at hi1
  obtain ⟨hz0, hz1, hz2⟩ := hi1
  have HI := Lib.hid hi0
  have HZ0 := Lib.hid hz0
  have HZ1 := Lib.hid hz1
  have HZ2 := Lib.hid hz2
  have HV := Lib.hid hv
  have hb2 := Lib.hid (show i0.bytes * (L.length + 80) ≤ 281474976710656 by rw [hz2]; omega)
  clear hi0 hz0 hz1 hz2
  obtain ⟨_, ad0, cap0, rfl, _⟩ := hv
  go_enter Tryd.func19, Tryd.ntmps19
  go_wp2_with (first
    | (refine wpList_make_win (o := ⟨some 10, _, _, _, _, _⟩) _ rfl _ _ 24 rfl w.heap.size 5 i0 (.int .u8 0) 1 Tryd.underlying24 HI.out HZ0.out HZ1.out (L.length + 80) rfl rfl hb2.out (by unfold maxLen; omega) (Nat.le_refl _) ?_; intro w1 hrow1 hB1)
    | (refine wpList_copy_win (o := ⟨some 13, _, _, _, _, _⟩) rfl _ _ 24 24 rfl w.heap.size 5 i0 1 Tryd.underlying24 HI.out HZ1.out _ _ _ rfl hrow1 _ _ _ rfl (HV.out.below hB1) (byteV_one L) (by omega) ?_; intro w2 hrow2 hgr2))
  have hsz0 : w.heap.size + 1 ≤ w1.heap.size := by
    have := (hrow1.lt w.heap.size rfl).2
    omega
  have hB2 : Below w.heap.size w w2 := hB1.grown hgr2 hB1.size fun k hk => by
    have hk : some w.heap.size = some k := hk
    exact Nat.le_of_eq (Option.some.inj hk)
  have hrow2 : winRow w2 w.heap.size 5 1 (.slice (some ⟨w.heap.size, 0, none⟩) (L.length + 80) (L.length + 80)) (L.length + 80) _ := hrow2
  obtain ⟨Z, hZ⟩ : ∃ Z : List Value, Z = ((madeCells (Value.int .u8 0).cells ((L.length + 80) * 1)).toList.drop (L.length * 1)) := ⟨_, rfl⟩
  have hZl : Z.length = 80 := by
    have := hrow2.1
    rw [← hZ, List.length_append, byteV_length] at this
    omega
  have HZ := Lib.hid hZ
  rw [← hZ] at hrow2
  have HR2 := Lib.hid hrow2
  have HB2 := Lib.hid hB2
  have HZL := Lib.hid hZl
  clear hrow1 hB1 hrow2 hgr2 hB2 hZ hZl hsz0
  go_loopw [6] (fun s6 wr => ∃ j : Nat, j ≤ 80 ∧ s6 = .int .i64 ((L.length + j : Nat) : Int) ∧ winRow wr w.heap.size 5 1 (.slice (some ⟨w.heap.size, 0, none⟩) (L.length + 80) (L.length + 80)) (L.length + 80) (byteV L ++ (List.replicate j (.int .u8 (c : Int)) ++ Z.drop j)) ∧ Below w.heap.size w wr) (fun s6 _ => L.length + 80 - (intOf s6).toNat)
  case atStart => exact ⟨0, by omega, rfl, by simpa using HR2.out, HB2.out⟩
  case round =>
    clear HR2 HB2
    obtain ⟨j, hj, rfl, hrow, hB⟩ := hrel
    have HROW := Lib.hid hrow
    have HB := Lib.hid hB
    by_cases hj80 : j < 80
    · have g1 : decide (((L.length + j : Nat) : Int) < (L.length : Int) + 80) = true := by simp; omega
      have g2 : L.length + j < L.length + 80 := by omega
      obtain ⟨g, off, cap, he, _, _, hg, hc⟩ := hrow.form (by omega)
      simp only [Value.slice.injEq, Option.some.injEq, Addr.mk.injEq] at he
      obtain ⟨⟨rfl, rfl, _⟩, _, rfl⟩ := he
      have hset := fun u => hrow.set (u := u) rfl (L.length + j) (by omega)
      have HSET := Lib.hid hset
      clear hset
      have hl : L.length + j < (byteV L ++ (List.replicate j (Value.int .u8 (c : Int)) ++ Z.drop j)).length := by
        have := HZL.out
        simp only [List.length_append, byteV_length, List.length_replicate, List.length_drop]
        omega
      have c0 := hc (L.length + j) _ (List.getElem?_eq_getElem hl)
      obtain ⟨q, hq⟩ : ∃ q, (byteV L ++ (List.replicate j (Value.int .u8 (c : Int)) ++ Z.drop j))[L.length + j] = q := ⟨_, rfl⟩
      rw [hq, Nat.zero_add] at c0
      have f0 := hrow.frozen rfl (L.length + j)
      rw [Nat.zero_add] at f0
      clear hc hl hq hrow hB
      go_wp2_with fail
      go_roundw
      case rel =>
        refine ⟨j + 1, by omega, by go_num, ?_, HB.out.setCell (Nat.le_refl _) _⟩
        have h := HSET.out (.int .u8 (c : Int))
        rw [Nat.zero_add] at h
        have hf := fill_step (byteV L) Z (.int .u8 (c : Int)) j (by have := HZL.out; omega)
        rw [byteV_length] at hf
        rw [hf] at h
        exact h
      case measure => simp [intOf]; omega
    · have hj' : j = 80 := by omega
      subst hj'
      have g1 : decide (((L.length + 80 : Nat) : Int) < (L.length : Int) + 80) = false := by simp
      have hd : Z.drop 80 = [] := List.drop_eq_nil_of_le (by have := HZL.out; omega)
      clear hrow hB
      go_wp2_with fail
      go_ret
      refine ⟨w.heap.size, L.length + 80, rfl, ?_, HB.out⟩
      have h := HROW.out
      rw [hd, List.append_nil] at h
      rw [byteV_append, byteV_rep]
      exact h

theorem winRow.capn' {w : World} {base size n : Nat} {e : TypeId} {a : Option Addr} {c : Nat} {xs : List Value} (h : winRow w base e size (.slice a n c) n xs) : n ≤ c := by
  rcases h.2 with ⟨h1, _⟩ | ⟨g, off, cap, cur, h1, _, _, hnc, _⟩
  · simp only [Value.slice.injEq] at h1
    omega
  · simp only [Value.slice.injEq] at h1
    omega

set_option maxRecDepth 100000 in
set_option maxHeartbeats 2000000 in
theorem intactB_c (v u : Value) (L : List Nat) (c base : Nat) (w : World) (hv : winRow w base 5 1 v (L.length + 80) (byteV (L ++ List.replicate 80 c))) (hu : slc w 1 u L.length (byteV L)) (hbig : L.length ≤ 140737488351232) :
    Calls Tryd.prog 21 #[v, u, .int .u8 c] w fun ev w' => ev = .returned (.bool true) ∧ Below w.heap.size w w' := by
  obtain ⟨g, off, cap, rfl, hcap, hbg, hg, hc⟩ := hv.form (by omega)
  have HC := Lib.hid hc
  have HU := Lib.hid hu
  obtain ⟨_, ad0, cap0, rfl, _⟩ := hu
  have hsl : slc w 1 (.slice (some ⟨g, off, none⟩) L.length cap) L.length (byteV L) := ⟨by rw [byteV_length, Nat.mul_one], _, cap, rfl, fun _ => ⟨g, off, rfl, hg, fun j x hj => hc j x (by
    rw [byteV_append, List.getElem?_append_left (List.getElem?_eq_some_iff.1 hj).1]
    exact hj)⟩⟩
  have HSL := Lib.hid hsl
  have g0 : L.length ≤ cap := by omega
  clear hv hsl hc
  go_enter Tryd.func21, Tryd.ntmps21
  go_wp2_with fail
  refine (sameG_c L L _ _ w HSL.out HU.out (by omega) (by omega)).mono ?_
  rintro ev w1 ⟨rfl, hB1⟩
  rw [decide_eq_true rfl]
  have HB1 := Lib.hid hB1
  clear hB1
  go_wp2_with fail
  go_loopw [7] (fun s7 wr => ∃ j : Nat, j ≤ 80 ∧ s7 = .int .i64 ((L.length + j : Nat) : Int) ∧ Below w.heap.size w wr) (fun s7 _ => L.length + 80 - (intOf s7).toNat)
  case atStart => exact ⟨0, by omega, rfl, HB1.out⟩
  case round =>
    obtain ⟨j, hj, rfl, hB⟩ := hrel
    have HB := Lib.hid hB
    by_cases hj80 : j < 80
    · have g1 : decide (((L.length + j : Nat) : Int) < (L.length : Int) + 80) = true := by simp; omega
      have g2 : L.length + j < L.length + 80 := by omega
      have c0 := (hB.cell (p := ⟨g, off + (L.length + j), none⟩) hg).trans (HC.out (L.length + j) (.int .u8 (c : Int)) (by
        rw [byteV_append, List.getElem?_append_right (by rw [byteV_length]; omega), byteV_length, Nat.add_sub_cancel_left, byteV_rep, List.getElem?_replicate, if_pos hj80]))
      clear hB
      go_wp2_with fail
      go_roundw
      case rel => exact ⟨j + 1, by omega, by go_num, HB.out⟩
      case measure => simp [intOf]; omega
    · have hj' : j = 80 := by omega
      subst hj'
      have g1 : decide (((L.length + 80 : Nat) : Int) < (L.length : Int) + 80) = false := by simp
      clear hB
      go_wp2_with fail
      go_ret
      exact ⟨rfl, HB.out⟩

end Go.Proofs.YthmgccakhhggjaaDoor
