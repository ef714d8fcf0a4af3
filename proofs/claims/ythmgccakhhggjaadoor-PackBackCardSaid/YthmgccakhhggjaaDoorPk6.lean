/- What any bytes are read as is written as these; a number that is cut off is none. -/
import Derived.Test.YthmgccakhhggjaaDoorLPk5
namespace Go.Proofs.YthmgccakhhggjaaDoor
open Go.RowKit Go.Extern.Stop Go.Stop Go.Extern

theorem zig_unzig (u : Nat) : zig (unzig u) = u := by
  unfold unzig zig
  by_cases h : u % 2 = 0
  · rw [if_pos h, if_pos (by omega)]
    omega
  · rw [if_neg h, if_neg (by omega)]
    omega
theorem unzig_b {u : Nat} (h : u < 18446744073709551616) : -9223372036854775808 ≤ unzig u ∧ unzig u ≤ 9223372036854775807 := by
  unfold unzig
  split <;> omega
theorem dec_inv : ∀ (l : List Nat) (i u U k : Nat), (∀ c ∈ l, c < 256) → i ≤ 9 → u < 2 ^ (7 * i) → dec i u l = (U, k, none) →
    ∃ x, U = u + x * 2 ^ (7 * i) ∧ l.take (k - i) = enc x ∧ i < k ∧ U < 18446744073709551616 ∧ (0 < i → x ≠ 0)
  | [], i, u, U, k, _, _, _, h => by simp [dec] at h
  | c :: r, i, u, U, k, hb, hi, hu, h => by
    have hc := hb c (by simp)
    unfold dec at h
    split at h
    · simp at h
    · rename_i hbad
      have h9 : i = 9 → c ≤ 1 := fun h9 => by
        have := fun h1 => hbad (.inr ⟨h9, h1⟩)
        omega
      split at h
      · rename_i hs
        simp only [Prod.mk.injEq, and_true] at h
        obtain ⟨h1, h2⟩ := h
        subst h1
        subst h2
        rw [Nat.mod_eq_of_lt hs]
        refine ⟨c, rfl, ?_, by omega, ?_, fun h0 hc0 => hbad (.inl ⟨h0, hc0⟩)⟩
        · rw [Nat.add_sub_cancel_left, enc_small hs]
          rfl
        · have := step_lt64 (c := c) hi hu h9
          rwa [Nat.mod_eq_of_lt hs] at this
      · rename_i hs
        have hi8 : i ≤ 8 := by
          rcases Nat.lt_or_ge i 9 with h | h
          · omega
          · have := h9 (by omega)
            omega
        obtain ⟨x, hU, htk, hk, h64, hx0⟩ := dec_inv r (i + 1) _ U k (fun d hd => hb d (by simp [hd])) (by omega) (step_lt (c := c) hi8 hu) h
        have hx1 := hx0 (by omega)
        refine ⟨c % 128 + 128 * x, ?_, ?_, by omega, h64, fun _ => by omega⟩
        · rw [hU, Nat.mul_add, Nat.pow_add, Nat.add_mul, Nat.add_assoc]
          congr 2
          rw [show (2 : Nat) ^ (7 * 1) = 128 from rfl, Nat.mul_comm (2 ^ (7 * i)) 128, ← Nat.mul_assoc, Nat.mul_comm x 128]
        · rw [show k - i = (k - (i + 1)) + 1 by omega, List.take_succ_cons, htk, enc_more (u := c % 128 + 128 * x) (by omega), show (c % 128 + 128 * x) % 128 + 128 = c by omega, show (c % 128 + 128 * x) / 128 = x by omega]
theorem nxt_own {L : List Nat} (hb : ∀ c ∈ L, c < 256) {n : Int} {a : Nat} (h : nxt L 0 = (n, a, .nil)) : enc (zig n) = L.take a ∧ -9223372036854775808 ≤ n ∧ n ≤ 9223372036854775807 := by
  unfold nxt at h
  rw [List.drop_zero] at h
  rcases hd : dec 0 0 L with ⟨U, k, r⟩
  rw [hd] at h
  cases r with
  | some s => simp at h
  | none =>
    simp only [Prod.mk.injEq, and_true, Nat.zero_add] at h
    obtain ⟨h1, h2⟩ := h
    subst h1
    subst h2
    obtain ⟨x, hU, htk, _, h64, _⟩ := dec_inv L 0 0 U k hb (by omega) (by simp) hd
    simp only [Nat.sub_zero, Nat.mul_zero, Nat.pow_zero, Nat.mul_one, Nat.zero_add] at htk hU
    rw [zig_unzig, htk, hU]
    exact ⟨rfl, unzig_b (by omega)⟩
theorem dec_cut : ∀ (x i u j : Nat), i ≤ 9 → (0 < i → x ≠ 0) → x * 2 ^ (7 * i) < 18446744073709551616 → j < (enc x).length → dec i u ((enc x).take j) = (0, 0, some 2) := by
  intro x
  induction x using Nat.strongRecOn with
  | _ x ih =>
    intro i u j hi h0 hlt hj
    cases j with
    | zero => simp [dec]
    | succ j =>
      have h9 : i = 9 → x ≤ 1 := by
        intro h
        subst h
        rw [show (2 : Nat) ^ (7 * 9) = 9223372036854775808 by decide] at hlt
        omega
      by_cases hx : x < 128
      · rw [enc_small hx] at hj
        simp at hj
      · have hi8 : i ≤ 8 := by
          rcases Nat.lt_or_ge i 9 with h | h
          · omega
          · have := h9 (by omega)
            omega
        have h2 : 2 ^ (7 * (i + 1)) = 128 * 2 ^ (7 * i) := by rw [Nat.mul_add, Nat.pow_add, Nat.mul_comm]
        have hle : x / 128 * 2 ^ (7 * (i + 1)) ≤ x * 2 ^ (7 * i) := by
          rw [h2, ← Nat.mul_assoc]
          exact Nat.mul_le_mul_right _ (by omega)
        rw [enc_more hx] at hj ⊢
        simp only [List.length_cons, Nat.add_lt_add_iff_right] at hj
        rw [List.take_succ_cons]
        unfold dec
        rw [if_neg (by omega), if_neg (by omega)]
        exact ih (x / 128) (by omega) (i + 1) _ j (by omega) (fun _ => by omega) (by omega) hj
/-- The reader over bytes that are cut off. -/
theorem cut_nxt (g : Nat → Int) {i M kk : Nat} (h : i < M) (hb : -9223372036854775808 ≤ g i ∧ g i ≤ 9223372036854775807) (hk : (cat g i).length ≤ kk) :
    nxt ((cat g M).take kk) (cat g i).length = if (cat g (i + 1)).length ≤ kk then (g i, (cat g (i + 1)).length, .nil) else (0, 0, .sent 2) := by
  obtain ⟨r, hr⟩ := cat_split g (i + 1) (M - (i + 1))
  rw [show i + 1 + (M - (i + 1)) = M by omega] at hr
  have hz := zig_lt hb
  have hd : ((cat g M).take kk).drop (cat g i).length = (enc (zig (g i)) ++ r).take (kk - (cat g i).length) := by
    rw [hr, cat, List.append_assoc, List.drop_take, List.drop_left]
  unfold nxt
  rw [hd]
  by_cases hc : (cat g (i + 1)).length ≤ kk
  · rw [if_pos hc]
    have hl : (cat g (i + 1)).length = (cat g i).length + (enc (zig (g i))).length := by simp [cat]
    have ht : (enc (zig (g i)) ++ r).take (kk - (cat g i).length) = enc (zig (g i)) ++ r.take (kk - (cat g i).length - (enc (zig (g i))).length) := by
      rw [List.take_append, List.take_of_length_le (by omega)]
    rw [ht, dec_zig hb]
    simp only [unzig_zig, hl]
  · rw [if_neg hc]
    have hl : (cat g (i + 1)).length = (cat g i).length + (enc (zig (g i))).length := by simp [cat]
    have ht : (enc (zig (g i)) ++ r).take (kk - (cat g i).length) = (enc (zig (g i))).take (kk - (cat g i).length) := List.take_append_of_le_length (by omega)
    rw [ht, dec_cut (zig (g i)) 0 0 _ (by omega) (by omega) (by omega) (by omega)]

end Go.Proofs.YthmgccakhhggjaaDoor
