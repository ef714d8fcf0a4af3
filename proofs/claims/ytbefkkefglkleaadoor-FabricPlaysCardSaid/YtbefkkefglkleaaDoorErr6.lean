/- fault.Wrap, assentkeep.Error, assentkeep.Is, assentkeep.Only. -/
import Derived.Test.YtbefkkefglkleaaDoorErr5
namespace Go.Proofs.YtbefkkefglkleaaDoor
open Go.RowKit Go.Extern.Stop Go.Stop Go.Extern

theorem wrap_c (A : Nat → Addr) (op : ByteArray) (i : Int) (e : ErrT) (w : World) :
    Calls Tryd.prog 30 #[.string op, .int .i64 i, e.val A] w fun ev w' => ev = .returned ((wrapE op i e).val A) ∧ w' = w := by
  cases hn : e.isNil with
  | true =>
    obtain rfl : e = .nil := by cases e <;> first | rfl | cases hn
    simp only [ErrT.val]
    go_enter Tryd.func30, Tryd.ntmps30
    go_wp2
    go_ret
    exact ⟨rfl, rfl⟩
  | false =>
    have hw : wrapE op i e = .wrap op i e := by simp [wrapE, hn]
    obtain ⟨t2, u2, hev⟩ := e.val_iface A hn
    have hnil := fun w => run_eql_iface_nil (P := Tryd.prog) (w := w) 24 (by kernel_rfl) t2 u2
    rw [hw]
    simp only [ErrT.val, hev]
    clear hev hw
    go_enter Tryd.func30, Tryd.ntmps30
    go_wp2
    go_ret
    exact ⟨rfl, rfl⟩

theorem error_c (A : Nat → Addr) (w : World) (hs : SentAt w A) (c : Int) (h1 : 1 ≤ c) (h2 : c ≤ 10) :
    Calls Tryd.prog 34 #[.int .i64 c] w fun ev w' => ev = .returned ((ErrT.sent (c.toNat - 1)).val A) ∧ w' = w := by
  have hg := hs.glob (c.toNat - 1) (by omega)
  have hc : c = 1 ∨ c = 2 ∨ c = 3 ∨ c = 4 ∨ c = 5 ∨ c = 6 ∨ c = 7 ∨ c = 8 ∨ c = 9 ∨ c = 10 := by omega
  clear h1 h2
  rcases hc with rfl | rfl | rfl | rfl | rfl | rfl | rfl | rfl | rfl | rfl <;>
  · simp only [show (1:Int).toNat - 1 = 0 from rfl, show (2:Int).toNat - 1 = 1 from rfl, show (3:Int).toNat - 1 = 2 from rfl, show (4:Int).toNat - 1 = 3 from rfl, show (5:Int).toNat - 1 = 4 from rfl, show (6:Int).toNat - 1 = 5 from rfl, show (7:Int).toNat - 1 = 6 from rfl, show (8:Int).toNat - 1 = 7 from rfl, show (9:Int).toNat - 1 = 8 from rfl, show (10:Int).toNat - 1 = 9 from rfl, gnum] at hg ⊢
    go_enter Tryd.func34, Tryd.ntmps34
    go_wp2
    go_ret
    exact ⟨rfl, rfl⟩

/-- What assentkeep.Is answers. -/
def isK (e : ErrT) (code : Int) (op : ByteArray) (i : Int) : Bool :=
  if code = 0 then e.isNil else match e with
    | .wrap o j e' => ((e'.code : Int) == code) && decide (o.toList = op.toList) && (j == i)
    | _ => false

theorem is_c (A : Nat → Addr) (e : ErrT) (code : Int) (op : ByteArray) (i : Int) (w : World) (hs : SentAt w A) (hw : e.wf) (h1 : 0 ≤ code) (h2 : code ≤ 10) :
    Calls Tryd.prog 15 #[e.val A, .int .i64 code, .string op, .int .i64 i] w fun ev w' => ev = .returned (.bool (isK e code op i)) ∧ Below w.heap.size w w' := by
  by_cases h0 : code = 0
  · subst h0
    cases hn : e.isNil with
    | true =>
      obtain rfl : e = .nil := by cases e <;> first | rfl | cases hn
      simp only [ErrT.val]
      go_enter Tryd.func15, Tryd.ntmps15
      go_wp2
      go_ret
      exact ⟨rfl, Below.refl _ _⟩
    | false =>
      obtain ⟨t2, u2, hev⟩ := e.val_iface A hn
      have hnil := fun w => run_eql_iface_nil (P := Tryd.prog) (w := w) 24 (by kernel_rfl) t2 u2
      simp only [hev]
      clear hev
      go_enter Tryd.func15, Tryd.ntmps15
      go_wp2
      go_ret
      exact ⟨by simp [isK, hn], Below.refl _ _⟩
  · have hcB : (code == 0) = false := by simpa using h0
    cases hn : e.isNil with
    | true =>
      obtain rfl : e = .nil := by cases e <;> first | rfl | cases hn
      simp only [ErrT.val]
      go_enter Tryd.func15, Tryd.ntmps15
      go_wp2
      go_ret
      exact ⟨by simp [isK, h0], (Below.refl _ _).alloc (Nat.le_refl _) _⟩
    | false =>
      obtain ⟨t2, u2, hev⟩ := e.val_iface A hn
      have hnil := fun w => run_neq_iface_nil (P := Tryd.prog) (w := w) 24 (by kernel_rfl) t2 u2
      have HE := Lib.hid hev
      simp only [hev]
      clear hev
      go_enter Tryd.func15, Tryd.ntmps15
      go_wp2_with fail
      have hc1 : 1 ≤ code := by omega
      have hs1 := hs.below ((Below.refl w.heap.size w).alloc (Nat.le_refl _) (.cells #[.string ⟨#[]⟩, .int .i64 0, .nilIface] 75))
      have HB := Lib.hid ((Below.refl w.heap.size w).alloc (Nat.le_refl _) (.cells #[.string ⟨#[]⟩, .int .i64 0, .nilIface] 75))
      have hold : (w.alloc (.cells #[.string ⟨#[]⟩, .int .i64 0, .nilIface] 75)).heap[w.heap.size]? = some (.cells #[.string ⟨#[]⟩, .int .i64 0, .nilIface] 75 (0, 0)) := by
        exact Array.getElem?_push_size ..
      have hsz : (w.alloc (.cells #[.string ⟨#[]⟩, .int .i64 0, .nilIface] 75)).heap.size = w.heap.size + 1 := by simp
      generalize (w.alloc (.cells #[.string ⟨#[]⟩, .int .i64 0, .nilIface] 75)) = W at hs1 HB hold hsz ⊢
      have HZ := Lib.hid hsz
      clear hsz
      refine (error_c A W hs1 code hc1 h2).mono ?_
      rintro ev w' ⟨rfl, rfl⟩
      go_wp2_with fail
      rw [← HE.out]
      refine (errIs A e (code.toNat - 1) w' hs1 hw (by omega)).mono ?_
      rintro ev w2 ⟨rfl, hB2⟩
      have hcode : isB e (code.toNat - 1) = ((e.code : Int) == code) := by
        unfold isB
        rw [Bool.eq_iff_iff]
        simp only [decide_eq_true_eq, beq_iff_eq]
        omega
      rw [hcode]
      clear hcode
      have hsz2 := HZ.out
      cases hd : ((e.code : Int) == code) with
      | false =>
        have HD := Lib.hid hd
        clear hd hsz2
        rw [HE.out]
        go_wp2_with fail
        go_ret
        refine ⟨?_, HB.out.trans (hB2.mono (by have := HZ.out; omega))⟩
        simp only [isK, h0, if_false]
        cases e with
        | wrap o j e' =>
          have hd := HD.out
          simp only [ErrT.code] at hd
          simp [hd]
        | _ => rfl
      | true =>
        have hold2 := (hB2.block w.heap.size (by omega)).trans hold
        have HD := Lib.hid hd
        have HB2 := Lib.hid hB2
        have HS2 := Lib.hid (hs1.below hB2)
        have HO := Lib.hid hold2
        clear hd hsz2 hold hold2 hB2
        rw [HE.out]
        go_wp2_with fail
        rw [← HE.out]
        refine (errAs A e w.heap.size _ w2 HS2.out hw HO.out rfl).mono ?_
        rintro ev w3 ⟨rfl, hP⟩
        have hB3 : Below w.heap.size w w3 := (HB.out.trans (HB2.out.mono (by have := HZ.out; omega))).trans (hP.below (by have := HZ.out; have := HB2.out.size; omega))
        have ht := hP.tgt
        rw [HE.out]
        cases e with
        | nil => cases hn
        | sent k =>
          simp only [ErrT.isWrap]
          go_wp2_with fail
          go_ret
          exact ⟨by simp [isK, h0], hB3⟩
        | wrap o j e' =>
          simp only [ErrT.isWrap]
          simp only at ht
          have g0 : w3.cell? ⟨w.heap.size, 0, none⟩ = some (.string o) := by simp [World.cell?, ht]
          have g1 : w3.cell? ⟨w.heap.size, 1, none⟩ = some (.int .i64 j) := by simp [World.cell?, ht]
          have HB3 := Lib.hid hB3
          have HP := Lib.hid hP
          clear hB3 hP ht
          have hres : isK (.wrap o j e') code op i = (decide (o.toList = op.toList) && (j == i)) := by
            have hd := HD.out
            simp only [ErrT.code] at hd
            simp only [isK, h0, if_false, hd, Bool.true_and]
          have HR := Lib.hid hres
          clear hres
          by_cases hop : o.toList = op.toList
          · go_wp2_with fail
            go_ret
            exact ⟨by rw [HR.out]; simp [hop], HB3.out⟩
          · go_wp2_with fail
            go_ret
            exact ⟨by rw [HR.out]; simp [hop], HB3.out⟩

end Go.Proofs.YtbefkkefglkleaaDoor
