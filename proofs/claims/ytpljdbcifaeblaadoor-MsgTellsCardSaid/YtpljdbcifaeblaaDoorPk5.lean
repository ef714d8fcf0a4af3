/- Numbers come back from their bytes; assentbook.Same at any rows of bytes. -/
import Derived.Test.YtpljdbcifaeblaaDoorPk4
namespace Go.Proofs.YtpljdbcifaeblaaDoor
open Go.RowKit Go.Extern.Stop Go.Stop Go.Extern

theorem unzig_zig (n : Int) : unzig (zig n) = n := by
  unfold unzig zig
  by_cases h : 0 ≤ n
  · rw [if_pos h, if_pos (by omega)]
    omega
  · rw [if_neg h, if_neg (by omega)]
    omega
theorem dec_enc : ∀ (x i u : Nat) (r : List Nat), i ≤ 9 → (0 < i → x ≠ 0) → x * 2 ^ (7 * i) < 18446744073709551616 → dec i u (enc x ++ r) = (u + x * 2 ^ (7 * i), i + (enc x).length, none) := by
  intro x
  induction x using Nat.strongRecOn with
  | _ x ih =>
    intro i u r hi h0 hlt
    have h9 : i = 9 → x ≤ 1 := by
      intro h
      subst h
      rw [show (2 : Nat) ^ (7 * 9) = 9223372036854775808 by decide] at hlt
      omega
    by_cases hx : x < 128
    · rw [enc_small hx, List.singleton_append]
      unfold dec
      rw [if_neg (by omega), if_pos hx, Nat.mod_eq_of_lt hx]
      rfl
    · have hi8 : i ≤ 8 := by
        rcases Nat.lt_or_ge i 9 with h | h
        · omega
        · have := h9 (by omega)
          omega
      have h2 : 2 ^ (7 * (i + 1)) = 128 * 2 ^ (7 * i) := by rw [Nat.mul_add, Nat.pow_add, Nat.mul_comm]
      have hdm : x / 128 * 128 + x % 128 = x := by omega
      have hsum : x % 128 * 2 ^ (7 * i) + x / 128 * 2 ^ (7 * (i + 1)) = x * 2 ^ (7 * i) := by
        rw [h2, ← Nat.mul_assoc, ← Nat.add_mul]
        congr 1
        omega
      rw [enc_more hx, List.cons_append]
      unfold dec
      rw [if_neg (by omega), if_neg (by omega), show (x % 128 + 128) % 128 = x % 128 by omega,
        ih (x / 128) (by omega) (i + 1) _ r (by omega) (fun _ => by omega) (by omega)]
      simp only [List.length_cons, Prod.mk.injEq, and_true]
      omega
theorem dec_zig {n : Int} (h : -9223372036854775808 ≤ n ∧ n ≤ 9223372036854775807) (r : List Nat) : dec 0 0 (enc (zig n) ++ r) = (zig n, (enc (zig n)).length, none) := by
  rw [dec_enc (zig n) 0 0 r (by omega) (by omega) (by have := zig_lt h; omega)]
  simp
theorem enc_zig_inj {m n : Int} (hm : -9223372036854775808 ≤ m ∧ m ≤ 9223372036854775807) (hn : -9223372036854775808 ≤ n ∧ n ≤ 9223372036854775807) (h : enc (zig m) = enc (zig n)) : m = n := by
  have h1 := dec_zig hm []
  have h2 := dec_zig hn []
  rw [h, h2] at h1
  have h3 := congrArg Prod.fst h1
  simp only at h3
  rw [← unzig_zig m, ← unzig_zig n, h3]

set_option maxRecDepth 100000 in
set_option maxHeartbeats 2000000 in
theorem sameG_c (l r : List Nat) (v u : Value) (w : World) (hv : slc w 1 v l.length (byteV l)) (hu : slc w 1 u r.length (byteV r)) (hl : l.length ≤ 140737488355320) (hr : r.length ≤ 140737488355320) :
    Calls Tryd.prog 17 #[v, u] w fun ev w' => ev = .returned (.bool (decide (l = r))) ∧ Below w.heap.size w w' := by
  by_cases hlr : l = r
  · subst hlr
    rw [decide_eq_true rfl]
    exact sameB_c l v u w hv hu hl
  · rw [decide_eq_false hlr]
    obtain ⟨_, a1, c1, rfl, hv⟩ := hv
    obtain ⟨_, a2, c2, rfl, hu⟩ := hu
    have HV := Lib.hid hv
    have HU := Lib.hid hu
    have HLR := Lib.hid hlr
    clear hv hu hlr
    by_cases hlen : l.length = r.length
    · have HLEN := Lib.hid hlen
      have hb : ((l.length : Int) != (r.length : Int)) = false := by simp [hlen]
      clear hlen
      go_enter Tryd.func17, Tryd.ntmps17
      go_wp2_with fail
      go_loopw [5] (fun i wr => ∃ k : Nat, k ≤ l.length ∧ i = .int .i64 k ∧ (∀ j, j < k → l[j]? = r[j]?) ∧ Below w.heap.size w wr) (fun i _ => l.length - (intOf i).toNat)
      case atStart => exact ⟨0, by omega, rfl, fun j hj => by omega, Below.refl _ _⟩
      case round =>
        obtain ⟨k, hk, rfl, hall, hB⟩ := hrel
        have HALL := Lib.hid hall
        clear hall
        by_cases hkl : k < l.length
        · have hkr : k < r.length := by have := HLEN.out; omega
          obtain ⟨g1, o1, rfl, hg1, hc1⟩ := HV.out (by omega)
          obtain ⟨g2, o2, rfl, hg2, hc2⟩ := HU.out (by omega)
          have e1 := (hB.cell (p := ⟨g1, o1 + k, none⟩) hg1).trans (hc1 k (.int .u8 (l[k] : Nat)) (by simp [byteV, hkl]))
          have e2 := (hB.cell (p := ⟨g2, o2 + k, none⟩) hg2).trans (hc2 k (.int .u8 (r[k] : Nat)) (by simp [byteV, hkr]))
          have b1 := World.block_lt_of_cell? _ _ e1
          have b2 := World.block_lt_of_cell? _ _ e2
          simp only at b1 b2
          have HB := Lib.hid hB
          have HKL := Lib.hid (List.getElem?_eq_getElem hkl)
          have HKR := Lib.hid (List.getElem?_eq_getElem hkr)
          generalize l[k] = x at *
          generalize r[k] = y at *
          clear hc1 hc2 hg1 hg2 hB
          by_cases hxy : x = y
          · have hg : ((x : Int) != (y : Int)) = false := by simp [hxy]
            have HXY := Lib.hid hxy
            clear hxy
            go_wp2_with fail
            refine wp_region_lexA ⟨[], []⟩ (fun x => Below wr.heap.size wr x) (by kernel_rfl) (by kernel_rfl) (Below.refl _ _).drew ?_
            intro S hto hof hne
            have x1 : ∀ z : Wd S, z.w.cell? ⟨g1, o1 + k, none⟩ = some (.int .u8 (x : Nat)) := fun z => ((hto z).cell (p := ⟨g1, o1 + k, none⟩) b1).trans e1
            have x2 : ∀ z : Wd S, z.w.cell? ⟨g2, o2 + k, none⟩ = some (.int .u8 (y : Nat)) := fun z => ((hto z).cell (p := ⟨g2, o2 + k, none⟩) b2).trans e2
            have Hof := Lib.hid hof
            clear hto hof e1 e2
            refine lexW_light 9 (by kernel_rfl) ?_
            simp only [List.take_succ_cons, List.take_zero, List.drop_succ_cons, List.drop_zero]
            repeat (first | go_big_quiet_skip | (go_big_quiet_want; go_big_quiet_op; go_big_quiet_on))
            refine wpQuiet_nil ?_
            refine lexW_done ?_
            go_wp2_with fail
            go_roundw
            case rel =>
              refine ⟨k + 1, by omega, by go_num, fun j hj => ?_, HB.out.drew⟩
              rcases Nat.lt_succ_iff_lt_or_eq.1 hj with h | rfl
              · exact HALL.out j h
              · rw [HKL.out, HKR.out, HXY.out]
            case measure => simp [intOf]; omega
          · have hg : ((x : Int) != (y : Int)) = true := by simpa using fun h : (x : Int) = y => hxy (by omega)
            clear hxy
            go_wp2_with fail
            refine wp_region_lexA ⟨[], []⟩ (fun x => Below wr.heap.size wr x) (by kernel_rfl) (by kernel_rfl) (Below.refl _ _).drew ?_
            intro S hto hof hne
            have x1 : ∀ z : Wd S, z.w.cell? ⟨g1, o1 + k, none⟩ = some (.int .u8 (x : Nat)) := fun z => ((hto z).cell (p := ⟨g1, o1 + k, none⟩) b1).trans e1
            have x2 : ∀ z : Wd S, z.w.cell? ⟨g2, o2 + k, none⟩ = some (.int .u8 (y : Nat)) := fun z => ((hto z).cell (p := ⟨g2, o2 + k, none⟩) b2).trans e2
            have Hof := Lib.hid hof
            clear hto hof e1 e2
            refine lexW_light 9 (by kernel_rfl) ?_
            simp only [List.take_succ_cons, List.take_zero, List.drop_succ_cons, List.drop_zero]
            repeat (first | go_big_quiet_skip | (go_big_quiet_want; go_big_quiet_op; go_big_quiet_on))
            refine wpQuiet_nil ?_
            refine lexW_done ?_
            go_wp2_with fail
            go_ret
            exact ⟨rfl, HB.out.drew⟩
        · exfalso
          refine HLR.out (List.ext_getElem? fun j => ?_)
          rcases Nat.lt_or_ge j k with h | h
          · exact HALL.out j h
          · rw [List.getElem?_eq_none (by omega), List.getElem?_eq_none (by have := HLEN.out; omega)]
    · have hb : ((l.length : Int) != (r.length : Int)) = true := by simpa using fun h : (l.length : Int) = r.length => hlen (by omega)
      clear hlen
      go_enter Tryd.func17, Tryd.ntmps17
      go_wp2_with fail
      go_ret
      exact ⟨rfl, Below.refl _ _⟩

end Go.Proofs.YtpljdbcifaeblaaDoor
