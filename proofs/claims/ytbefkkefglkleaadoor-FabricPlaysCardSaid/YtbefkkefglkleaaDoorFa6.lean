/- slices.Delete of one message. -/
import Derived.Test.YtbefkkefglkleaaDoorFa5
namespace Go.Proofs.YtbefkkefglkleaaDoor
open Go.RowKit Go.Extern.Stop Go.Stop Go.Extern

theorem wpList_append_in {P : Program} {w : World} {ops : Array Oper} {rest : List Oper} {o : Oper} {a : Act} {Q : Exit → Act → World → Prop} (hgd : o.guard = none) (s x : Operand) (t : TypeId)
    (ho : o.op = .call { callee := .builtin .append, args := #[s, x], argTypes := #[t, t] })
    (base : Nat) (e : TypeId) (i : TypeInfo) (size : Nat) (ht : P.underlying t = some (.slice e)) (hi : P.info? e = some i) (hsize : i.size = size)
    (g off n cap : Nat) (xs : List Value) (h : winRow w base e size (.slice (some ⟨g, off, none⟩) n cap) n xs) (at_ : Nat) (hat : at_ ≤ n) (hs : a.eval s = .slice (some ⟨g, off, none⟩) at_ cap)
    (ad : Addr) (m c : Nat) (news : List Value) (hx : a.eval x = .slice (some ad) m c) (hl : news.length = m * size) (hnews : ∀ j u, news[j]? = some u → w.cell? (ad.add j) = some u) (h1 : ∀ u ∈ news, u.oneCell' = true) (hroom : at_ + m ≤ cap)
    (hK : ∀ w', winRow w' base e size (.slice (some ⟨g, off, none⟩) (at_ + m) cap) (at_ + m) (xs.take (at_ * size) ++ news) → w.grownBy w' (some g) → wpList P ops Q rest (a.put o.dst (.slice (some ⟨g, off, none⟩) (at_ + m) cap)) w') : wpList P ops Q (o :: rest) a w :=
  wpList_plain hgd fun _ hC => by
    obtain ⟨w', hr, h2, h3⟩ := run_append_in (P := P) t o.type i ht hi hsize h at_ hat ad m c news hl hnews h1 hroom
    unfold Oper.wp execOp
    simp only [ho, resolve, invoke, builtin, Sem.run_bind, Sem.run_pure, Result.andThen_ok, List.map_toArray, List.map_cons, List.map_nil, hs, hx, hr]
    exact hC _ _ (hK w' h2 h3)
def Halt (p : Prop) : Prop := p
theorem halt {p : Prop} (h : Halt p) : p := h
theorem flatM_take (l : List MsgV) (k : Nat) (hk : k ≤ l.length) : (flatM l).take (k * 13) = flatM (l.take k) := by
  have h := flatM_append (l.take k) (l.drop k)
  rw [List.take_append_drop] at h
  rw [h, show k * 13 = (flatM (l.take k)).length by rw [flatM_length, List.length_take, Nat.min_eq_left hk]]
  exact List.take_left

set_option maxRecDepth 100000 in
set_option maxHeartbeats 2000000 in
theorem del_c (base g off cap k : Nat) (L : List MsgV) (w : World) (h : winRow w base 32 13 (.slice (some ⟨g, off, none⟩) L.length cap) L.length (flatM L)) (hk : k < L.length) :
    Calls Tryd.prog 32 #[.slice (some ⟨g, off, none⟩) L.length cap, .int .i64 (k : Nat), .int .i64 ((k : Int) + 1)] w fun ev w' => ev = .returned (.slice (some ⟨g, off, none⟩) (L.length - 1) cap) ∧ winRow w' base 32 13 (.slice (some ⟨g, off, none⟩) (L.length - 1) cap) (L.length - 1) (flatM (L.eraseIdx k)) ∧ Mods (fun q => q = g) w w' := by
  obtain ⟨i0, hi0, hi1⟩ := Option.map_eq_some_iff.1 nInfoM
  simp only [Prod.mk.injEq] at hi1
  obtain ⟨hz0, hz1, hz2⟩ := hi1
  have HI := Lib.hid hi0
  have HZ1 := Lib.hid hz1
  clear hi0 hz0 hz1 hz2
  have HW := Lib.hid h
  obtain ⟨g', off', cap', hvf, hcap, hbg, hgl, hc⟩ := h.form (by omega)
  simp only [Value.slice.injEq, Option.some.injEq, Addr.mk.injEq, true_and] at hvf
  obtain ⟨⟨rfl, rfl, _⟩, rfl⟩ := hvf
  have HC := Lib.hid hc
  have hcm : cap ≤ maxLen := by
    rcases h.2 with ⟨h2, _⟩ | ⟨_, _, _, _, hv, _, _, _, hm, _, _⟩
    · cases h2
    · simp only [Value.slice.injEq, true_and] at hv
      rw [hv.2]
      exact hm
  unfold maxLen at hcm
  have HL := Lib.hid (show ∃ n, n = L.length from ⟨_, rfl⟩)
  obtain ⟨n, hn⟩ := HL.out
  have HN := Lib.hid hn
  rw [← hn] at hk hcap ⊢
  rw [← hn] at HW
  clear h hc hn HL
  have hk2 : (k : Int) + 1 ≤ n := by omega
  go_enter Tryd.func32, Tryd.ntmps32
  go_upto_region 5 with fail
  obtain ⟨ad, hif, hnw⟩ : ∃ ad : Addr, (if cap = k + 1 then some (⟨g, off, none⟩ : Addr) else some ⟨g, off + (k + 1) * 13, none⟩) = some ad ∧ ∀ j u, (flatM (L.drop (k + 1)))[j]? = some u → w.drew.cell? (ad.add j) = some u := by
    by_cases hc1 : cap = k + 1
    · refine ⟨⟨g, off, none⟩, if_pos hc1, fun j u hj => ?_⟩
      rw [List.drop_eq_nil_of_le (by have := HN.out; omega)] at hj
      simp [flatM] at hj
    · refine ⟨⟨g, off + (k + 1) * 13, none⟩, if_neg hc1, fun j u hj => ?_⟩
      rw [Addr.add_lit, Nat.add_assoc]
      refine HC.out _ _ ?_
      have h := flatM_append (L.take (k + 1)) (L.drop (k + 1))
      rw [List.take_append_drop] at h
      have hl : (flatM (L.take (k + 1))).length = (k + 1) * 13 := by rw [flatM_length, List.length_take, ← HN.out, Nat.min_eq_left (by omega)]
      rw [h, List.getElem?_append_right (by omega), hl, Nat.add_sub_cancel_left]
      exact hj
  have HNW := Lib.hid hnw
  clear hnw
  have HLD := Lib.hid (show (flatM (L.drop (k + 1))).length = (n - (k + 1)) * 13 by rw [flatM_length, List.length_drop, HN.out])
  refine wp_region_lexA ⟨[], []⟩ (fun x => Mods (fun q => q = g) w x) (by kernel_rfl) (by kernel_rfl) (Mods.refl _ _).drew ?_
  intro S hto hof hne
  have Hof := Lib.hid hof
  clear hto hof
  refine lexW_light 6 (by kernel_rfl) ?_
  simp only [List.take_succ_cons, List.take_zero, List.drop_succ_cons, List.drop_zero]
  repeat (first | go_big_quiet_skip | (go_big_quiet_want; go_big_quiet_op; go_big_quiet_on))
  refine wpQuiet_nil ?_
  refine lexW_heavy (by kernel_rfl) ?_
  go_wp2_with (at_builtin; refine wpList_append_in rfl _ _ 44 rfl base 32 i0 13 Tryd.underlying44 HI.out HZ1.out g off n cap (flatM L) (HW.out.below (Below.refl _ _).drew) k (by omega) rfl ad (n - (k + 1)) (cap - (k + 1)) (flatM (L.drop (k + 1))) rfl HLD.out HNW.out (flatM_one _) (by omega) ?_; intro w4 hrow4 hgr4; refine halt ?_)
  have hM4 : Mods (fun q => q = g) w w4 := (Mods.refl (fun q => q = g) w).drew.trans (Mods.grown hgr4 fun q hq => (Option.some.inj hq).symm) fun _ _ h => h
  obtain ⟨m, hm⟩ : ∃ m, n = m + 1 := ⟨n - 1, by omega⟩
  have ek : k + (n - (k + 1)) = m := by omega
  have el : (flatM L).take (k * 13) ++ flatM (L.drop (k + 1)) = flatM (L.eraseIdx k) := by
    rw [flatM_take L k (by have := HN.out; omega), ← flatM_append, List.eraseIdx_eq_take_drop_succ]
  rw [ek, el] at hrow4
  rw [ek]
  have HM4 := Lib.hid hM4
  have HR4 := Lib.hid hrow4
  clear hM4 hrow4 hgr4 el hif
  unfold Halt
  go_wp2_with fail
  refine lexQ_more (Hof.out _ HM4.out) ?_
  refine lexW_light 1 (by kernel_rfl) ?_
  simp only [List.take_succ_cons, List.take_zero, List.drop_succ_cons, List.drop_zero]
  repeat (first | go_big_quiet_skip | (go_big_quiet_want; go_big_quiet_op; go_big_quiet_on))
  refine wpQuiet_nil ?_
  refine lexW_done ?_
  clear Hof hne
  obtain ⟨w5, hcl, hr5, hg5⟩ := run_clear_one (c := cap - m) HR4.out (by omega)
  have HR5 := Lib.hid hr5
  have HM5 := Lib.hid (HM4.out.trans (Mods.grown (S := fun q => q = g) hg5 fun q hq => (Option.some.inj hq).symm) fun _ _ h => h)
  clear hr5 hg5 ek
  subst hm
  go_wp2_with fail
  go_ret
  exact ⟨rfl, HR5.out, HM5.out⟩

end Go.Proofs.YtbefkkefglkleaaDoor
