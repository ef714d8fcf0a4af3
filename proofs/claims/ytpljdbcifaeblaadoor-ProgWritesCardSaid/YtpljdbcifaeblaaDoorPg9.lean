/- How many operations are right, from the first on. -/
import Derived.Test.YtpljdbcifaeblaaDoorPg8
namespace Go.Proofs.YtpljdbcifaeblaaDoor
open Go.RowKit Go.Extern.Stop Go.Stop Go.Extern

def rightN (W : Int) : List OpV → Nat
  | [] => 0
  | o :: l => if rightB o W then rightN W l + 1 else 0
theorem rightN_le (W : Int) : ∀ l, rightN W l ≤ l.length
  | [] => by simp [rightN]
  | o :: l => by
    have := rightN_le W l
    simp only [rightN, List.length_cons]
    split <;> omega
theorem badE_right (W : Int) : ∀ (l : List OpV) (i : Nat), badE W l i = if rightN W l < l.length then .wrap pgT ((i + rightN W l : Nat) : Int) (.sent 0) else .nil
  | [], i => by simp [badE, rightN]
  | o :: l, i => by
    rw [badE, rightN]
    by_cases hr : rightB o W = true
    · rw [if_pos hr, if_pos hr, badE_right W l (i + 1)]
      by_cases hl : rightN W l < l.length
      · rw [if_pos hl, if_pos (by simp; omega)]
        rw [show i + 1 + rightN W l = i + (rightN W l + 1) by omega]
      · rw [if_neg hl, if_neg (by simp; omega)]
    · rw [if_neg hr, if_neg hr, if_pos (by simp)]
      rfl

set_option maxRecDepth 100000 in
set_option maxHeartbeats 2000000 in
theorem rightn_c (v : Value) (l : List OpV) (W : Int) (w : World) (hv : slc w 4 v l.length (flatP l)) (hl : l.length ≤ 100000) :
    Calls Tryd.prog 25 #[v, .int .i64 W] w fun ev w' => ev = .returned (.int .i64 (rightN W l)) ∧ Below w.heap.size w w' := by
  obtain ⟨_, a1, c1, rfl, hv⟩ := hv
  have HV := Lib.hid hv
  clear hv
  go_enter Tryd.func25, Tryd.ntmps25
  go_wp2_with fail
  go_loopw [5] (fun s wr => ∃ i : Nat, i ≤ l.length ∧ s = .int .i64 i ∧ rightN W l = i + rightN W (l.drop i) ∧ Below w.heap.size w wr) (fun s _ => l.length - (intOf s).toNat)
  case atStart => exact ⟨0, by omega, rfl, by simp, Below.refl _ _⟩
  case round =>
    obtain ⟨i, hi, rfl, hn, hB⟩ := hrel
    have HN := Lib.hid hn
    clear hn
    by_cases hil : i < l.length
    · obtain ⟨g1, o1, rfl, hg1, hc1⟩ := HV.out (by omega)
      obtain ⟨e, he⟩ : ∃ e, l[i]? = some e := ⟨_, List.getElem?_eq_getElem hil⟩
      have HD := Lib.hid (show l.drop i = e :: l.drop (i + 1) by obtain ⟨h1, h2⟩ := List.getElem?_eq_some_iff.1 he; rw [List.drop_eq_getElem_cons h1, h2])
      have e0 := (hB.cell (p := ⟨g1, o1 + (i * 4 + 0), none⟩) hg1).trans (hc1 _ _ (flatP_at he (c := 0) rfl))
      have e1 := (hB.cell (p := ⟨g1, o1 + (i * 4 + 1), none⟩) hg1).trans (hc1 _ _ (flatP_at he (c := 1) rfl))
      have e2 := (hB.cell (p := ⟨g1, o1 + (i * 4 + 2), none⟩) hg1).trans (hc1 _ _ (flatP_at he (c := 2) rfl))
      have e3 := (hB.cell (p := ⟨g1, o1 + (i * 4 + 3), none⟩) hg1).trans (hc1 _ _ (flatP_at he (c := 3) rfl))
      obtain ⟨kd, ad, va, ol⟩ := e
      simp only [Nat.add_zero, ← Nat.add_assoc] at e0 e1 e2 e3
      have HB := Lib.hid hB
      clear hc1 hg1 hB he
      go_wp2_with fail
      refine (rightop_c ⟨kd, ad, va, ol⟩ W wr).mono ?_
      rintro ev w2 ⟨rfl, hb⟩
      have HB2 := Lib.hid (HB.out.trans (hb.mono HB.out.size))
      clear hb e0 e1 e2 e3
      cases hr : rightB ⟨kd, ad, va, ol⟩ W with
      | true =>
        have HR := Lib.hid hr
        clear hr
        go_wp2_with fail
        go_roundw
        case rel =>
          refine ⟨i + 1, by omega, by go_num, ?_, HB2.out⟩
          rw [HN.out, HD.out, rightN, if_pos HR.out]
          omega
        case measure => simp [intOf]; omega
      | false =>
        have HR := Lib.hid hr
        clear hr
        go_wp2_with fail
        go_ret
        refine ⟨?_, HB2.out⟩
        rw [HN.out, HD.out, rightN, if_neg (by rw [HR.out]; simp)]
        rfl
    · have HD := Lib.hid (show l.drop i = [] from List.drop_eq_nil_of_le (by omega))
      go_wp2_with fail
      go_ret
      refine ⟨?_, hB⟩
      rw [HN.out, HD.out]
      rfl

end Go.Proofs.YtpljdbcifaeblaaDoor
