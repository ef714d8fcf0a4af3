/- msg.Put and msg.Get: the laws. -/
import Derived.Test.YtpljdbcifaeblaaDoorMg2
import Derived.Test.YtpljdbcifaeblaaDoorMg3
namespace Go.Proofs.YtpljdbcifaeblaaDoor
open Go.RowKit Go.Extern.Stop Go.Stop Go.Extern

theorem tell_enc0 {m : MsgV} (hr : m.Right) (hf : m.fit) (r : List Nat) : getM (encM m ++ r) (0, .nil) = (m, (encM m).length, .nil) := getM_enc (P := []) hr hf
theorem tell_enc {m : MsgV} (hr : m.Right) (hf : m.fit) : tellM (encM m) = (m, .nil) := by
  have e := tell_enc0 hr hf []
  rw [List.append_nil] at e
  unfold tellM
  rw [e]
  simp only
  rw [show endE (encM m) (encM m).length .nil = .nil by simp [endE, ErrT.isNil], if_pos (show ErrT.nil.isNil = true from rfl), if_pos ((rightM_iff m).2 hr)]
theorem tell_tail {m : MsgV} (hr : m.Right) (hf : m.fit) {r : List Nat} (h : 0 < r.length) : tellM (encM m ++ r) = (zeroM, .wrap mtT 0 (.wrap prT (encM m).length (.sent 4))) := by
  have e := tell_enc0 hr hf r
  have hE : endE (encM m ++ r) (encM m).length .nil = .wrap prT (encM m).length (.sent 4) := by
    unfold endE
    rw [show ErrT.nil.isNil = true from rfl, if_pos rfl, if_pos (by rw [List.length_append]; omega)]
  unfold tellM
  rw [e]
  simp only [hE]
  rfl
theorem tell_or (L : List Nat) : ((tellM L).2 = .nil ∧ rightM (tellM L).1 = true ∧ ∃ a, L.length ≤ a ∧ getM L (0, .nil) = ((tellM L).1, a, .nil)) ∨ ((tellM L).2.isNil = false ∧ (tellM L).1 = zeroM) := by
  unfold tellM
  simp only
  split
  · next h =>
    obtain ⟨h1, h2⟩ := endE_nil h
    split
    · next hr =>
      refine .inl ⟨rfl, hr, _, h2, ?_⟩
      exact Prod.ext rfl (Prod.ext rfl h1)
    · exact .inr ⟨rfl, rfl⟩
  · exact .inr ⟨rfl, rfl⟩
theorem tell_dec {L : List Nat} (hb : ∀ c ∈ L, c < 256) (h : (tellM L).2.isNil = true) : (tellM L).1.Right ∧ (tellM L).1.fit ∧ L = encM (tellM L).1 := by
  rcases tell_or L with ⟨_, h2, a, h3, h4⟩ | ⟨h1, _⟩
  · obtain ⟨_, _, _, g1, g2⟩ := getM_dec hb h4
    rw [List.drop_zero, List.drop_eq_nil_of_le h3, List.append_nil] at g2
    exact ⟨(rightM_iff _).1 h2, g1, g2⟩
  · rw [h] at h1; cases h1
theorem tell_cut {m : MsgV} (hr : m.Right) (hf : m.fit) (hb : ∀ c ∈ encM m, c < 256) {k : Nat} (hk : k < (encM m).length) : (tellM ((encM m).take k)).2.isNil = false := by
  cases hn : (tellM ((encM m).take k)).2.isNil with
  | false => rfl
  | true =>
    obtain ⟨h1, h2, h3⟩ := tell_dec (fun c hc => hb c (List.mem_of_mem_take hc)) hn
    have h4 := tell_tail (r := (encM m).drop k) h1 h2 (by rw [List.length_drop]; omega)
    rw [← h3, List.take_append_drop, tell_enc hr hf] at h4
    cases h4
theorem encIf_byt (b : Bool) (n : Int) : ∀ c ∈ encIf b n, c < 256 := by
  intro c hc
  cases b with
  | true => exact encB _ c hc
  | false => cases hc
theorem encM_byt (m : MsgV) : ∀ c ∈ encM m, c < 256 := by
  intro c hc
  unfold encM at hc
  simp only [List.mem_append] at hc
  rcases hc with h | h | h | h | h | h | h | h | h | h | h | h | h | h <;> exact encIf_byt _ _ c h
theorem encM_len {m : MsgV} (hf : m.fit) : (encM m).length ≤ 150 := by
  rw [← encL_nums]
  have h := encL_len (numsM m) (numsM_fit hf)
  have := (numsM_len m).2
  omega
theorem encM_pos (m : MsgV) : 0 < (encM m).length := by
  have := enc_pos (zig m.kind)
  simp only [encM, encIf, if_true, List.length_append]
  omega
theorem encM_inj {m n : MsgV} (hm : m.Right) (fm : m.fit) (hn : n.Right) (fn : n.fit) (h : encM m = encM n) : m = n := by
  have e := tell_enc hm fm
  rw [h, tell_enc hn fn] at e
  exact (Prod.mk.inj e).1.symm
theorem putM_right {m : MsgV} (h : rightM m = true) : putM m = encM m := by unfold putM; rw [if_pos h]
theorem putM_wrong {m : MsgV} (h : rightM m = false) : putM m = [] := by unfold putM; rw [h]; rfl
theorem tell_wf (L : List Nat) (A : Nat → Addr) (h : (tellM L).2.isNil = false) : ∃ t u, (tellM L).2.val A = .iface t u := (tellM L).2.val_iface A h

end Go.Proofs.YtpljdbcifaeblaaDoor
