/- The two Replays side by side; Replay of a model that there is not. -/
import Derived.Test.YtamklohnmbgklaaDoorRTs6
import Derived.Test.YtamklohnmbgklaaDoorTs10
namespace Go.Proofs.YtamklohnmbgklaaDoor
open Go.RowKit Go.Extern.Stop Go.Stop Go.Extern

theorem stC_le (B : Bufs) (M : List Int) (e : Ev) : stC B M e ≤ 10 := by
  unfold stC
  split
  · omega
  · split
    · split <;> omega
    · split
      · split
        · omega
        · split <;> omega
      · split
        · split
          · split <;> omega
          · omega
        · split
          · split <;> omega
          · omega
/-- Both name the same event, for the same reason. -/
theorem rpl_rr : ∀ (l : List Ev) (B : Bufs) (M : List Int) (i : Nat), ((rrA B M l i).2 = 0 ∧ rplE B M l i = .nil) ∨ ∃ (c : Nat) (co at_ : Int), rrA B M l i = (at_, c + 1) ∧ c ≤ 9 ∧ rplE B M l i = .wrap trT at_ (.wrap tsT co (.sent c))
  | [], _, _, _ => .inl ⟨rfl, rfl⟩
  | e :: l, B, M, i => by
    by_cases hc : stC B M e = 0
    · rw [rrA, rplE, if_pos hc, if_pos hc]
      exact rpl_rr l _ _ _
    · obtain ⟨c, hcc⟩ : ∃ c, stC B M e = c + 1 := ⟨stC B M e - 1, by omega⟩
      refine .inr ⟨c, e.core, i, ?_, by have := stC_le B M e; omega, ?_⟩
      · rw [rrA, if_neg hc, hcc]
      · rw [rplE, if_neg hc, (st_no hcc).1]

theorem treplay_bad (A : Nat → Addr) (n m : Int) (v : Value) (w : World) (hs : SentAt w A) (h : ¬ okN n m) :
    Calls Tryd.prog 14 #[.int .i64 n, .int .i64 m, v] w fun ev w' => ev = .returned (.tuple #[.slice none 0 0, (tnewE n m).val A]) ∧ w = w' := by
  have HE := Lib.hid (show ∃ i, tnewE n m = .wrap tnT i (.sent 0) by unfold tnewE; rw [if_neg h]; exact ⟨_, rfl⟩)
  go_enter Tryd.func14, Tryd.ntmps14
  go_wp2_with fail
  refine (tnew_bad A n m w hs h).mono ?_
  rintro ev w' ⟨rfl, hww⟩
  obtain rfl := hww
  obtain ⟨i, hi⟩ := HE.out
  rw [hi, show (ErrT.wrap tnT i (.sent 0)).val A = .iface 78 (.agg #[.string tnT, .int .i64 i, .iface 129 (.pointer (some (A 0)))]) from rfl]
  go_wp2_with fail
  go_ret2
  exact ⟨by rw [hi]; rfl, rfl⟩
theorem rreplay_bad (n m : Int) (v : Value) (w : World) (h : ¬ okN n m) :
    Calls Tryd.prog 22 #[.int .i64 n, .int .i64 m, v] w fun ev w' => ev = .returned (.tuple #[.int .i64 0, .int .i64 1, .slice none 0 0]) ∧ w = w' := by
  go_enter Tryd.func22, Tryd.ntmps22
  go_wp2_with fail
  refine (mnew_bad n m w h).mono ?_
  rintro ev w' ⟨rfl, hww⟩
  obtain rfl := hww
  go_wp2_with fail
  go_ret3
  exact ⟨rfl, rfl⟩

end Go.Proofs.YtamklohnmbgklaaDoor
