/- fault.Root, fault.Depth. -/
import Derived.Test.YteljpfbfkpdchaaDoorFlt1
import Derived.Laws.OwnMore
namespace Go.Proofs.YteljpfbfkpdchaaDoor
open Go.RowKit Go.Extern.Stop Go.Stop Go.Extern

def ErrT.root : ErrT → ErrT
  | .nil => .nil
  | .sent k => .sent k
  | .wrap _ _ e => match e.root with
    | .nil => .nil
    | r => r
theorem ErrT.root_wrap (o : ByteArray) (i : Int) (e : ErrT) : (ErrT.wrap o i e).root = e.root := by
  simp only [ErrT.root]
  cases e.root <;> rfl
theorem ErrT.root_eq {e : ErrT} (h : e.wf) (hn : e.isNil = false) : e.root = .sent (e.code - 1) ∧ 1 ≤ e.code ∧ e.code ≤ 10 := by
  induction e with
  | nil => cases hn
  | sent k =>
    have h : k < 10 := h
    exact ⟨rfl, by simp only [ErrT.code]; omega, by simp only [ErrT.code]; omega⟩
  | wrap o i e ih =>
    rw [ErrT.root_wrap]
    exact ih h.2 h.1
theorem ErrT.chain_last {e : ErrT} (h : e.wf) (hn : e.isNil = false) : e.chain[e.depth - 1]? = some e.root := by
  induction e with
  | nil => cases hn
  | sent k => rfl
  | wrap o i e ih =>
    have hd : e.depth = e.unw.depth + 1 := ErrT.depth_unw h.1
    rw [ErrT.root_wrap, ← ih h.2 h.1]
    simp only [ErrT.chain, ErrT.depth, Nat.add_sub_cancel]
    rw [hd, List.getElem?_cons_succ]
    rfl

theorem way_form {A : Nat → Addr} {e : ErrT} {w : World} {base : Nat} {v : Value} (h : w.ownsRow base 24 1 v e.chain.length (e.chain.map (·.val A))) :
    (e.isNil = true ∧ v = .slice none 0 0) ∨ (e.isNil = true ∧ ∃ g cap, v = .slice (some ⟨g, 0, none⟩) 0 cap) ∨
      (e.isNil = false ∧ ∃ g cap, v = .slice (some ⟨g, 0, none⟩) e.depth cap ∧ ∀ k x, e.chain[k]? = some x → w.cell? ⟨g, k, none⟩ = some (x.val A)) := by
  have hl := e.chain_length
  cases hn : e.isNil with
  | true =>
    have hd : e.depth = 0 := by cases e <;> first | rfl | cases hn
    rcases h.2 with ⟨hv, _⟩ | ⟨g, cap, cur, hv, _⟩
    · exact .inl ⟨rfl, hv⟩
    · exact .inr (.inl ⟨rfl, g, cap, by rw [hv, hl, hd]⟩)
  | false =>
    have hd := ErrT.depth_unw hn
    rcases h.2 with ⟨_, h0⟩ | ⟨g, cap, cur, rfl, _⟩
    · omega
    · refine .inr (.inr ⟨rfl, g, cap, by rw [hl], fun k x hk => ?_⟩)
      have hkl := (List.getElem?_eq_some_iff.1 hk).1
      rw [h.cellAt k (by omega), List.getElem?_map, hk]
      rfl

set_option maxHeartbeats 1000000 in
theorem root_c (A : Nat → Addr) (e : ErrT) (w : World) (hw : e.wf) (hd : e.depth ≤ 1000) :
    Calls Tryd.prog 31 #[e.val A] w fun ev w' => ev = .returned (e.root.val A) ∧ Below w.heap.size w w' := by
  go_enter Tryd.func31, Tryd.ntmps31
  go_wp2_with fail
  refine (way_c A e w hw hd).mono ?_
  rintro ev w2 ⟨v, rfl, hown, hB⟩
  have HB := Lib.hid hB
  rcases way_form hown with ⟨hn, rfl⟩ | ⟨hn, g, cap, rfl⟩ | ⟨hn, g, cap, rfl, hcells⟩
  · obtain rfl : e = .nil := by cases e <;> first | rfl | cases hn
    clear hown hB hw hd hn
    go_wp2_with fail
    go_ret
    exact ⟨rfl, HB.out⟩
  · obtain rfl : e = .nil := by cases e <;> first | rfl | cases hn
    clear hown hB hw hd hn
    go_wp2_with fail
    go_ret
    exact ⟨rfl, HB.out⟩
  · have hc := hcells _ _ (ErrT.chain_last hw hn)
    have hd1 : 1 ≤ e.depth := by have := ErrT.depth_unw hn; omega
    have hdz : ((e.depth : Int) == 0) = false := by rw [beq_eq_false_iff_ne]; omega
    have htn : ((e.depth : Int) - 1).toNat = e.depth - 1 := by omega
    clear hown hB hw hn hcells
    generalize e.depth = n at *
    go_wp2_with fail
    go_ret
    exact ⟨rfl, HB.out⟩

set_option maxHeartbeats 1000000 in
theorem depth_c (A : Nat → Addr) (e : ErrT) (w : World) (hw : e.wf) (hd : e.depth ≤ 1000) :
    Calls Tryd.prog 34 #[e.val A] w fun ev w' => ev = .returned (.int .i64 e.depth) ∧ Below w.heap.size w w' := by
  go_enter Tryd.func34, Tryd.ntmps34
  go_wp2_with fail
  refine (way_c A e w hw hd).mono ?_
  rintro ev w2 ⟨v, rfl, hown, hB⟩
  have HB := Lib.hid hB
  have hd0 : e.isNil = true → e.depth = 0 := fun hn => by cases e <;> first | rfl | cases hn
  rcases way_form hown with ⟨hn, rfl⟩ | ⟨hn, g, cap, rfl⟩ | ⟨hn, g, cap, rfl, hcells⟩
  · have hz := Lib.hid (hd0 hn)
    clear hown hB hw hd hn hd0
    go_wp2_with fail
    go_ret
    exact ⟨by rw [hz.out]; rfl, HB.out⟩
  · have hz := Lib.hid (hd0 hn)
    clear hown hB hw hd hn hd0
    go_wp2_with fail
    go_ret
    exact ⟨by rw [hz.out]; rfl, HB.out⟩
  · clear hown hB hw hn hcells hd0
    go_wp2_with fail
    go_ret
    exact ⟨rfl, HB.out⟩

end Go.Proofs.YteljpfbfkpdchaaDoor
