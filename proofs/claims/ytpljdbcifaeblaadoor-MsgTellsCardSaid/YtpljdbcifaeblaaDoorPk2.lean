/- pack.Num: the bytes of a number. -/
import Derived.Test.YtpljdbcifaeblaaDoorPk1
namespace Go.Proofs.YtpljdbcifaeblaaDoor
open Go.RowKit Go.Extern.Stop Go.Stop Go.Extern

theorem enc_len : ∀ (k u : Nat), 0 < k → u < 128 ^ k → (enc u).length ≤ k
  | 0, _, h, _ => by omega
  | k + 1, u, _, hu => by
    by_cases h : u < 128
    · rw [enc_small h]
      simp
    · rw [enc_more h]
      have hk : 0 < k := by
        rcases Nat.eq_zero_or_pos k with rfl | h'
        · omega
        · exact h'
      have := enc_len k (u / 128) hk (by rw [Nat.pow_succ] at hu; omega)
      simp only [List.length_cons]
      omega
theorem enc_len10 {u : Nat} (h : u < 18446744073709551616) : (enc u).length ≤ 10 := enc_len 10 u (by omega) (by omega)
theorem enc_pos (u : Nat) : 0 < (enc u).length := by
  by_cases h : u < 128
  · rw [enc_small h]; simp
  · rw [enc_more h]; simp

set_option maxRecDepth 100000 in
set_option maxHeartbeats 2000000 in
theorem num_c (v : Value) (L : List Nat) (n : Int) (w : World) (hv : slc w 1 v L.length (byteV L)) (hn : -9223372036854775808 ≤ n ∧ n ≤ 9223372036854775807) (hbig : L.length ≤ 140737488355300) :
    Calls Tryd.prog 41 #[v, .int .i64 n] w fun ev w' => ∃ u, ev = .returned u ∧ winRow w' w.heap.size 5 1 u (L.length + (enc (zig n)).length) (byteV (L ++ enc (zig n))) ∧ Below w.heap.size w w' := by
  obtain ⟨i0, hi0, hi1⟩ := Option.map_eq_some_iff.1 nInfoB
  simp only [Prod.mk.injEq] at hi1
  obtain ⟨hz0, hz1, hz2⟩ := hi1
  have HI := Lib.hid hi0
  have HZ0 := Lib.hid hz0
  have HZ1 := Lib.hid hz1
  have HZ2 := Lib.hid hz2
  clear hi0 hz0 hz1 hz2
  have HV := Lib.hid hv
  obtain ⟨_, ad0, cap0, rfl, _⟩ := hv
  go_enter Tryd.func41, Tryd.ntmps41
  go_wp2_with fail
  refine (cloneB_c _ L w HV.out (by omega)).mono ?_
  rintro ev w1 ⟨u1, rfl, hu1, hB1⟩
  obtain ⟨ad1, cap1, rfl⟩ := hu1.len
  have HZB := Lib.hid (zig_bits hn)
  have HZL := Lib.hid (enc_len10 (zig_lt hn))
  have hzl := zig_lt hn
  go_wp2_with fail
  simp only [HZB.out]
  go_loopw [5, 6] (fun s5 s6 wr => ∃ (pre : List Nat) (x : Nat), x < 18446744073709551616 ∧ s6 = .int .u64 x ∧ L ++ enc (zig n) = pre ++ enc x ∧ winRow wr w.heap.size 5 1 s5 pre.length (byteV pre) ∧ Below w.heap.size w wr) (fun _ s6 _ => (intOf s6).toNat)
  case atStart => exact ⟨L, zig n, hzl, rfl, rfl, hu1, hB1⟩
  case round =>
    clear hu1 hB1
    obtain ⟨pre, x, hx, rfl, heq, hrow, hB⟩ := hrel
    have hpl : pre.length ≤ L.length + 10 := by
      have := congrArg List.length heq
      have := HZL.out
      simp only [List.length_append] at *
      omega
    have HEQ := Lib.hid heq
    have HROW := Lib.hid hrow
    clear heq hrow
    by_cases h128 : x < 128
    · have hb : IntKind.u8.wrap (x : Int) = (x : Int) := wrap_u8_nat (by omega)
      have hg : decide ((x : Int) ≥ 128) = false := by simp; omega
      go_wp2_with (at_builtin; refine wpList_append_win _ rfl _ _ 22 rfl w.heap.size 5 i0 (.int .u8 0) 1 1 Tryd.underlying22 HI.out HZ0.out HZ1.out HZ2.out rfl (by decide) _ _ _ rfl (HROW.out.below ((Below.refl _ _).alloc (Nat.le_refl _) _)) ⟨wr.heap.size, 0, none⟩ 1 1 (byteV [x]) rfl rfl (cell_one_new _ _ _) (byteV_one _) (by omega) (by unfold maxLen; omega) (by omega) (by have := hB.size; simp; omega) ?_; intro g off cap3 w3 hrow3 hgrow3 hat3 hlt3)
      go_ret
      have hB3 : Below w.heap.size w w3 := (hB.alloc hB.size _).grown hgrow3 (by have := hB.size; simp; omega) fun q hq => (HROW.out.lt q hq).1
      have heq := HEQ.out
      rw [enc_small h128] at heq
      have hlen : L.length + (enc (zig n)).length = pre.length + 1 := by
        have := congrArg List.length heq
        simpa using this
      refine ⟨_, rfl, ?_, hB3⟩
      rw [hlen, heq, byteV_append]
      exact hrow3
    · obtain ⟨c, hc⟩ : ∃ c : Nat, c = x % 128 + 128 := ⟨_, rfl⟩
      have hb : bits BinOp.or IntKind.u8 ((x : Int) % 256) 128 = (c : Int) := by
        rw [show (x : Int) % 256 = ((x % 256 : Nat) : Int) by omega, show (128 : Int) = ((128 : Nat) : Int) from rfl, bits_or_u8 (by omega) (by omega), or128 _ (by omega), hc]
        omega
      have hg : decide ((x : Int) ≥ 128) = true := by simp; omega
      have HCC := Lib.hid hc
      clear hc
      go_wp2_with (at_builtin; refine wpList_append_win _ rfl _ _ 22 rfl w.heap.size 5 i0 (.int .u8 0) 1 1 Tryd.underlying22 HI.out HZ0.out HZ1.out HZ2.out rfl (by decide) _ _ _ rfl (HROW.out.below ((Below.refl _ _).alloc (Nat.le_refl _) _)) ⟨wr.heap.size, 0, none⟩ 1 1 (byteV [c]) rfl rfl (cell_one_new _ _ _) (byteV_one _) (by omega) (by unfold maxLen; omega) (by omega) (by have := hB.size; simp; omega) ?_; intro g off cap3 w3 hrow3 hgrow3 hat3 hlt3)
      have hB3 : Below w.heap.size w w3 := (hB.alloc hB.size _).grown hgrow3 (by have := hB.size; simp; omega) fun q hq => (HROW.out.lt q hq).1
      go_roundw
      case measure => simp [intOf]; omega
      case rel =>
        refine ⟨pre ++ [c], x / 128, by omega, ?_, ?_, ?_, hB3⟩
        · rw [show (x : Int) / 128 = ((x / 128 : Nat) : Int) by omega]
        · rw [HEQ.out, enc_more h128, HCC.out, List.append_assoc]
          rfl
        · rw [byteV_append, List.length_append]
          exact hrow3

end Go.Proofs.YtpljdbcifaeblaaDoor
