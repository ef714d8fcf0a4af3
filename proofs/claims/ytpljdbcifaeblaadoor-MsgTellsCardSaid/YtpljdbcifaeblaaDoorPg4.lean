/- A program out of bytes: the laws. -/
import Derived.Test.YtpljdbcifaeblaaDoorPg3
namespace Go.Proofs.YtpljdbcifaeblaaDoor
open Go.RowKit Go.Extern.Stop Go.Stop Go.Extern

theorem encB : ∀ (u : Nat), ∀ c ∈ enc u, c < 256 := by
  intro u
  induction u using Nat.strongRecOn with
  | _ u ih =>
    intro c hc
    by_cases h : u < 128
    · rw [enc_small h] at hc
      simp only [List.mem_singleton] at hc
      omega
    · rw [enc_more h] at hc
      rcases List.mem_cons.1 hc with h2 | h2
      · omega
      · exact ih (u / 128) (by omega) c h2
/-- Bytes that are read as a number are that number's. -/
theorem enc_dec : ∀ (l : List Nat) (i u U k : Nat), (∀ c ∈ l, c < 256) → dec i u l = (U, k, none) → ∃ x m, k = i + m ∧ l.take m = enc x ∧ U = u + x * 2 ^ (7 * i) ∧ (0 < i → x ≠ 0) ∧ m ≤ l.length
  | [], i, u, U, k, _, h => by simp [dec] at h
  | c :: r, i, u, U, k, hb, h => by
    unfold dec at h
    have hc := hb c (List.mem_cons_self ..)
    split at h
    · simp at h
    · next hno =>
      split at h
      · next h1 =>
        simp only [Prod.mk.injEq, and_true] at h
        refine ⟨c, 1, by omega, by rw [enc_small h1]; rfl, by rw [← h.1, Nat.mod_eq_of_lt h1], fun hi hc0 => hno (.inl ⟨hi, hc0⟩), by simp⟩
      · next h1 =>
        obtain ⟨x, m, hk, ht, hU, hx, hm⟩ := enc_dec r (i + 1) _ U k (fun d hd => hb d (List.mem_cons_of_mem _ hd)) h
        have hx0 := hx (by omega)
        refine ⟨c % 128 + 128 * x, m + 1, by omega, ?_, ?_, fun _ => by omega, by simp; omega⟩
        · rw [enc_more (by omega), List.take_succ_cons, ht, show (c % 128 + 128 * x) / 128 = x by omega]
          congr 1
          omega
        · have e : (c % 128 + 128 * x) * 2 ^ (7 * i) = c % 128 * 2 ^ (7 * i) + x * 2 ^ (7 * (i + 1)) := by
            rw [show 7 * (i + 1) = 7 * i + 7 by omega, Nat.pow_add, Nat.add_mul, show (2 : Nat) ^ 7 = 128 from rfl, Nat.mul_comm 128 x, Nat.mul_assoc, Nat.mul_comm 128]
          rw [hU, e]
          omega
theorem zig_unzig (u : Nat) : zig (unzig u) = u := by
  unfold zig unzig
  by_cases h : u % 2 = 0
  · rw [if_pos h, if_pos (by omega)]
    omega
  · rw [if_neg h, if_neg (by omega)]
    omega
theorem step_dec {L : List Nat} {at_ a : Nat} {e : ErrT} {ok : Int → Bool} {n : Int} (hb : ∀ c ∈ L, c < 256) (h : stepR L at_ e ok = (n, a, .nil)) : e = .nil ∧ ok n = true ∧ L.drop at_ = enc (zig n) ++ L.drop a := by
  unfold stepR at h
  cases hn : e.isNil with
  | false =>
    rw [hn] at h
    simp only [Bool.false_eq_true, if_false, Prod.mk.injEq] at h
    rw [h.2.2] at hn
    cases hn
  | true =>
    rw [hn] at h
    obtain rfl : e = .nil := by cases e <;> first | rfl | cases hn
    refine ⟨rfl, ?_⟩
    simp only [if_true] at h
    cases hd : dec 0 0 (L.drop at_) with
    | mk U p =>
      obtain ⟨k, s⟩ := p
      cases s with
      | some s =>
        simp [nxt, hd] at h
      | none =>
        simp only [nxt, hd] at h
        split at h
        · next hok =>
          simp only [Prod.mk.injEq, and_true] at h
          obtain ⟨rfl, rfl⟩ := h
          obtain ⟨x, m, hk, ht, hU, _, hm⟩ := enc_dec _ _ _ _ _ (fun c hc => hb c (List.mem_of_mem_drop hc)) hd
          refine ⟨hok, ?_⟩
          rw [zig_unzig, show U = x by rw [hU]; simp, ← ht, show k = m by omega, ← List.drop_drop, List.take_append_drop]
        · simp at h
theorem rdF_dec {L : List Nat} {at_ a : Nat} {e : ErrT} {on : Bool} {lo hi n : Int} (hb : ∀ c ∈ L, c < 256) (h : rdF L (at_, e) on lo hi = (n, a, .nil)) : e = .nil ∧ (on = true → lo ≤ n ∧ n ≤ hi) ∧ (on = false → n = 0) ∧ L.drop at_ = (if on then enc (zig n) else []) ++ L.drop a := by
  unfold rdF at h
  cases on with
  | true =>
    obtain ⟨h1, h2, h3⟩ := step_dec hb h
    simp only [inOk, Bool.and_eq_true, decide_eq_true_eq] at h2
    exact ⟨h1, fun _ => h2, fun h => (by cases h), h3⟩
  | false =>
    simp only [Bool.false_eq_true, if_false, Prod.mk.injEq] at h
    obtain ⟨rfl, rfl, rfl⟩ := h
    exact ⟨rfl, fun h => (by cases h), fun _ => rfl, by simp⟩
theorem getOp_dec {L : List Nat} {at_ a : Nat} {e : ErrT} {W : Int} {o : OpV} (hb : ∀ c ∈ L, c < 256) (hW : 1 ≤ W ∧ W ≤ 128) (h : getOp W L (at_, e) = (o, a, .nil)) : e = .nil ∧ (rightB o W = true ∧ o.fit) ∧ L.drop at_ = encOp o ++ L.drop a := by
  unfold getOp at h
  simp only at h
  generalize hk : rdF L (at_, e) true 1 4 = k at h
  obtain ⟨K, a1, e1⟩ := k
  simp only at h
  generalize hka : rdF L (a1, e1) (nmA K) 0 (W - 1) = k at h
  obtain ⟨ad, a2, e2⟩ := k
  simp only at h
  generalize hkv : rdF L (a2, e2) (nmV K) 0 4294967295 = k at h
  obtain ⟨va, a3, e3⟩ := k
  simp only at h
  generalize hko : rdF L (a3, e3) (nmO K) 0 4294967295 = k at h
  obtain ⟨ol, a4, e4⟩ := k
  simp only [Prod.mk.injEq] at h
  obtain ⟨rfl, rfl, rfl⟩ := h
  obtain ⟨rfl, o1, o2, o3⟩ := rdF_dec hb hko
  obtain ⟨rfl, v1, v2, v3⟩ := rdF_dec hb hkv
  obtain ⟨rfl, d1, d2, d3⟩ := rdF_dec hb hka
  obtain ⟨rfl, k1, _, k3⟩ := rdF_dec hb hk
  have k1 := k1 rfl
  have fA : 0 ≤ ad ∧ ad ≤ 127 := by
    cases hA : nmA K with
    | true => have := d1 hA; omega
    | false => have := d2 hA; omega
  have fV : 0 ≤ va ∧ va ≤ 4294967295 := by
    cases hA : nmV K with
    | true => exact v1 hA
    | false => have := v2 hA; omega
  have fO : 0 ≤ ol ∧ ol ≤ 4294967295 := by
    cases hA : nmO K with
    | true => exact o1 hA
    | false => have := o2 hA; omega
  refine ⟨rfl, ⟨?_, ⟨⟨by simp only; omega, by simp only; omega⟩, fV, fO⟩⟩, ?_⟩
  · unfold rightB
    simp only [Bool.and_eq_true, decide_eq_true_eq, Bool.or_eq_true]
    refine ⟨⟨⟨⟨hW.2, k1⟩, ?_⟩, ?_⟩, ?_⟩
    · cases hA : nmA K with
      | true => have := d1 hA; simp only [if_true, decide_eq_true_eq]; omega
      | false => simp only [Bool.false_eq_true, if_false, decide_eq_true_eq]; exact d2 hA
    · cases hA : nmV K with
      | true => exact .inl rfl
      | false => exact .inr (v2 hA)
    · cases hA : nmO K with
      | true => exact .inl rfl
      | false => exact .inr (o2 hA)
  · rw [k3, d3, v3, o3]
    simp only [encOp, if_true, List.append_assoc]
theorem getN_dec {L : List Nat} {W : Int} (hb : ∀ c ∈ L, c < 256) (hW : 1 ≤ W ∧ W ≤ 128) : ∀ (n at_ a : Nat) (e : ErrT) (l : List OpV), getN W L n (at_, e) = (l, a, .nil) → e = .nil ∧ l.length = n ∧ (∀ o ∈ l, rightB o W = true ∧ o.fit) ∧ L.drop at_ = encOps l ++ L.drop a
  | 0, at_, a, e, l, h => by
    simp only [getN, Prod.mk.injEq] at h
    obtain ⟨rfl, rfl, rfl⟩ := h
    exact ⟨rfl, rfl, fun o ho => (by cases ho), rfl⟩
  | n + 1, at_, a, e, l, h => by
    rw [getN] at h
    cases hn : e.isNil with
    | false =>
      simp only [hn, Bool.false_eq_true, if_false, Prod.mk.injEq] at h
      rw [h.2.2] at hn
      cases hn
    | true =>
      obtain rfl : e = .nil := by cases e <;> first | rfl | cases hn
      simp only [ErrT.isNil, if_true, Prod.mk.injEq] at h
      obtain ⟨h1, h2⟩ := h
      generalize hg : getOp W L (at_, .nil) = g at h1 h2
      obtain ⟨o, a1, e1⟩ := g
      simp only at h1 h2
      generalize hr : getN W L n (a1, e1) = r at h1 h2
      obtain ⟨l', a2, e2⟩ := r
      simp only [Prod.mk.injEq] at h1 h2
      obtain ⟨rfl, rfl⟩ := h2
      obtain ⟨rfl, i1, i2, i3⟩ := getN_dec hb hW n a1 _ e1 l' hr
      obtain ⟨_, j1, j2⟩ := getOp_dec hb hW hg
      subst h1
      refine ⟨rfl, by simp [i1], fun x hx => ?_, by rw [j2, i3, encOps, List.append_assoc]⟩
      rcases List.mem_cons.1 hx with rfl | hx
      · exact j1
      · exact i2 x hx

/-- The other way: right operations come back. -/
theorem step_enc {P r : List Nat} {n : Int} {ok : Int → Bool} (h : -9223372036854775808 ≤ n ∧ n ≤ 9223372036854775807) (hok : ok n = true) : stepR (P ++ (enc (zig n) ++ r)) P.length .nil ok = (n, P.length + (enc (zig n)).length, .nil) := by
  have hx : nxt (P ++ (enc (zig n) ++ r)) P.length = (n, P.length + (enc (zig n)).length, .nil) := by
    unfold nxt
    rw [List.drop_left, dec_zig h]
    simp only [unzig_zig]
  simp [stepR, ErrT.isNil, hx, hok]
theorem rdF_enc {P r : List Nat} {n : Int} {on : Bool} {lo hi : Int} (h : -9223372036854775808 ≤ n ∧ n ≤ 9223372036854775807) (h1 : on = true → lo ≤ n ∧ n ≤ hi) (h0 : on = false → n = 0) : rdF (P ++ ((if on then enc (zig n) else []) ++ r)) (P.length, .nil) on lo hi = (n, (P ++ (if on then enc (zig n) else [])).length, .nil) := by
  unfold rdF
  cases on with
  | true =>
    have := h1 rfl
    simp only [if_true]
    rw [step_enc h (by simp [inOk, this]), List.length_append]
  | false => simp [h0 rfl]
theorem getOp_enc {P r : List Nat} {W : Int} {o : OpV} (hr : rightB o W = true) (hf : o.fit) : getOp W (P ++ (encOp o ++ r)) (P.length, .nil) = (o, (P ++ encOp o).length, .nil) := by
  obtain ⟨K, ad, va, ol⟩ := o
  obtain ⟨⟨f1, f2⟩, f3, f4⟩ := hf
  simp only at f1 f2 f3 f4
  have hk := right_kind hr
  unfold rightB at hr
  simp only [Bool.and_eq_true, decide_eq_true_eq, Bool.or_eq_true] at hr
  obtain ⟨⟨⟨⟨_, r1⟩, r2⟩, r3⟩, r4⟩ := hr
  unfold getOp encOp
  simp only [List.append_assoc]
  have e1 := rdF_enc (P := P) (r := (if nmA K then enc (zig ad) else []) ++ ((if nmV K then enc (zig va) else []) ++ ((if nmO K then enc (zig ol) else []) ++ r))) (n := K) (on := true) (lo := 1) (hi := 4) f1 (fun _ => r1) (fun h => by cases h)
  simp only [if_true] at e1
  rw [e1]
  simp only
  have e2 := rdF_enc (P := P ++ enc (zig K)) (r := (if nmV K then enc (zig va) else []) ++ ((if nmO K then enc (zig ol) else []) ++ r)) (n := ad) (on := nmA K) (lo := 0) (hi := W - 1) f2 (fun h => by rw [h] at r2; simp only [if_true, decide_eq_true_eq] at r2; omega) (fun h => by rw [h] at r2; simpa using r2)
  simp only [List.append_assoc] at e2
  rw [e2]
  simp only
  have e3 := rdF_enc (P := P ++ (enc (zig K) ++ (if nmA K then enc (zig ad) else []))) (r := (if nmO K then enc (zig ol) else []) ++ r) (n := va) (on := nmV K) (lo := 0) (hi := 4294967295) (by omega) (fun _ => f3) (fun h => by rw [h] at r3; simpa using r3)
  simp only [List.append_assoc] at e3
  rw [e3]
  simp only
  have e4 := rdF_enc (P := P ++ (enc (zig K) ++ ((if nmA K then enc (zig ad) else []) ++ (if nmV K then enc (zig va) else [])))) (r := r) (n := ol) (on := nmO K) (lo := 0) (hi := 4294967295) (by omega) (fun _ => f4) (fun h => by rw [h] at r4; simpa using r4)
  simp only [List.append_assoc] at e4
  rw [e4]
theorem getN_enc {W : Int} : ∀ (l : List OpV) (P r : List Nat), (∀ o ∈ l, rightB o W = true ∧ o.fit) → getN W (P ++ (encOps l ++ r)) l.length (P.length, .nil) = (l, (P ++ encOps l).length, .nil)
  | [], P, r, _ => by simp [getN, encOps]
  | o :: l, P, r, h => by
    obtain ⟨h1, h2⟩ := h o (List.mem_cons_self ..)
    have ih := getN_enc l (P ++ encOp o) r fun x hx => h x (List.mem_cons_of_mem _ hx)
    have e := getOp_enc (P := P) (r := encOps l ++ r) h1 h2
    rw [List.length_cons, getN]
    simp only [ErrT.isNil, if_true, encOps, List.append_assoc] at ih ⊢
    rw [e]
    simp only
    rw [← List.append_assoc P, List.append_assoc P] 
    rw [ih]

end Go.Proofs.YtpljdbcifaeblaaDoor
