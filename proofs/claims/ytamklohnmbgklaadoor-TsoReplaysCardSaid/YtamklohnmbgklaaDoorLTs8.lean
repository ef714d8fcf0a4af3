/- TsoReplays: true; no condition but what a start gives. -/
import Derived.Test.YtamklohnmbgklaaDoorLTs1
import Derived.Test.YtamklohnmbgklaaDoorRTs7
import Derived.Test.YtamklohnmbgklaaDoorEvArg
import Derived.Test.YtamklohnmbgklaaDoorBools
namespace Go.Proofs.YtamklohnmbgklaaDoor
open Go.RowKit Go.Extern.Stop Go.Stop Go.Extern

theorem set6 (w : World) (t : Nat) (a0 a1 a2 a3 a4 a5 : Value) : w.setCells t 0 [a0, a1, a2, a3, a4, a5] = (((((w.setCell ⟨t, 0, none⟩ a0).setCell ⟨t, 1, none⟩ a1).setCell ⟨t, 2, none⟩ a2).setCell ⟨t, 3, none⟩ a3).setCell ⟨t, 4, none⟩ a4).setCell ⟨t, 5, none⟩ a5 := rfl
theorem put6 (a0 a1 a2 a3 a4 a5 b0 b1 b2 b3 b4 b5 : Value) : putAt #[a0, a1, a2, a3, a4, a5] 0 [b0, b1, b2, b3, b4, b5] = #[b0, b1, b2, b3, b4, b5] := by simp [putAt]
theorem block6 {w : World} {t : Nat} {ty : TypeId} {a0 a1 a2 a3 a4 a5 : Value} (h : w.heap[t]? = some (.cells #[a0, a1, a2, a3, a4, a5] ty (0, 0))) (b0 b1 b2 b3 b4 b5 : Value) : (w.setCells t 0 [b0, b1, b2, b3, b4, b5]).heap[t]? = some (.cells #[b0, b1, b2, b3, b4, b5] ty (0, 0)) := by
  have := heap_setCells_at [b0, b1, b2, b3, b4, b5] 0 w _ h
  rw [put6] at this
  exact this
theorem isK_rr (cc : Nat) (co at_ : Int) : isK (.wrap trT at_ (.wrap tsT co (.sent cc))) ((cc + 1 : Nat) : Int) trT at_ = true := by
  unfold isK
  rw [if_neg (by omega)]
  simp [ErrT.code]
theorem onlyK_rr (cc : Nat) (co at_ : Int) : onlyK (.wrap trT at_ (.wrap tsT co (.sent cc))) ((cc + 1 : Nat) : Int) = true := by
  simp [onlyK, ErrT.code]
/-- Where the document's model and the law's row stand. -/
structure RpT (w wr : World) (b : Nat) (F : Nat → Prop) (s : Value) (row : List Ev) (B : Bufs) (M : List Int) (m i : Nat) : Prop where
  md : Md tyR wr w.heap.size b F B M
  row : winRow wr w.heap.size 24 6 s row.length (flatE row)
  ds : ∀ q, s.ownBlock = some q → ¬ F q
  lenM : M.length = m
  len : ∀ k, (B.getD k []).length ≤ i
  bel : Below w.heap.size w wr
section
variable {w wr : World} {b : Nat} {F : Nat → Prop} {s : Value} {row : List Ev} {B : Bufs} {M : List Int} {m i : Nat}
theorem RpT.below {wq : World} (h : RpT w wr b F s row B M m i) (hb : Below wr.heap.size wr wq) : RpT w wq b F s row B M m i :=
  ⟨h.md.below hb, h.row.below hb, h.ds, h.lenM, h.len, h.bel.trans (hb.mono h.bel.size)⟩
theorem RpT.keepE {wz : World} {hE : Nat} (h : RpT w wr b F s row B M m i) (hM : Mods (fun q => q = hE) wr wz) (h1 : ¬ F hE) (h2 : s.ownBlock ≠ some hE) (h3 : w.heap.size ≤ hE) : RpT w wz b F s row B M m i :=
  ⟨h.md.keep hM fun q hq e => h1 (e ▸ hq), h.row.keep fun q hq => hM.block q (h.row.lt q hq).2 (fun e => h2 (e ▸ hq)), h.ds, h.lenM, h.len, h.bel.trans (hM.below h.bel.size fun q hq => by rw [hq]; exact h3)⟩
theorem RpT.step {w3 : World} {F' : Nat → Prop} {e : Ev} (h : RpT w wr b F s row B M m i) (hF : Md tyR w3 w.heap.size b F' (nxB B M e) (nxM B M e)) (hM : Mods F wr w3) (hO : ∀ k, F' k → F k ∨ wr.heap.size ≤ k) : RpT w w3 b F' s row (nxB B M e) (nxM B M e) m (i + 1) :=
  ⟨hF, h.row.keep fun q hq => hM.block q (h.row.lt q hq).2 (h.ds q hq), fun q hq hh => (hO q hh).elim (h.ds q hq) fun h2 => by have := (h.row.lt q hq).2; omega, by rw [nxM_length]; exact h.lenM, nxB_le h.len, h.bel.trans (hM.below h.bel.size fun q hq => (h.md.lt q hq).1)⟩
theorem RpT.more {wq wz : World} {g off cap : Nat} {e : Ev} (h : RpT w wr b F s row B M m i) (hall : Below wr.heap.size wr wq) (hrow : winRow wz w.heap.size 24 6 (.slice (some ⟨g, off, none⟩) (row.length + 1) cap) (row.length + 1) (flatE row ++ flatE [e]))
    (hgrow : wq.grownBy wz s.ownBlock) (hat : s.ownBlock = some g ∨ g = wq.heap.size) : RpT w wz b F (.slice (some ⟨g, off, none⟩) (row ++ [e]).length cap) (row ++ [e]) B M m i := by
  have h2 := h.below hall
  have hM : Mods (fun k => s.ownBlock = some k) wq wz := Mods.grown hgrow fun k hk => hk
  have hlen : (row ++ [e]).length = row.length + 1 := by simp
  refine ⟨h2.md.keep hM fun q hq hk => h.ds q hk hq, by rw [hlen, flatE_append]; exact hrow, fun q hq => ?_, h.lenM, h.len, h2.bel.grown hgrow h2.bel.size fun k hk => (h.row.lt k hk).1⟩
  simp only [Value.ownBlock, Option.some.injEq] at hq
  subst hq
  rcases hat with h1 | h1
  · exact h.ds _ h1
  · subst h1
    exact fun hh => by have := (h2.md.lt _ hh).2; omega
end

set_option maxRecDepth 100000 in
set_option maxHeartbeats 16000000 in
theorem replays (A : Nat → Addr) (z0 z1 : Int) (p : Option Addr) (n c : Nat) (v3 : Value) (n3 : Nat) (gb : Nat → Bool) (w : World) (hs : SentAt w A) (N : Nat) (hN : N = if 60 < n then 60 else n) (hnc : n ≤ c) (l : List Ev) (hl : l.length = N) (hsl : slc w 6 (.slice p N c) N (flatE l)) (h3 : BoolsAt w v3 n3 gb) :
    Calls Tryd.prog 4 #[.int .i64 z0, .int .i64 z1, .slice p n c, v3] w (TruePost w) := by
  obtain ⟨i0, hi0, hi1⟩ := Option.map_eq_some_iff.1 nInfoE
  simp only [Prod.mk.injEq] at hi1
  obtain ⟨hz0, hz1, hz2⟩ := hi1
  have HI := Lib.hid hi0
  have HZ0 := Lib.hid hz0
  have HZ1 := Lib.hid hz1
  have HZ2 := Lib.hid hz2
  have HS := Lib.hid hs
  have HSL := Lib.hid hsl
  have HLL := Lib.hid hl
  obtain ⟨p3, c3, rfl, hel3⟩ := h3.form
  have HEL3 := Lib.hid hel3
  clear hs h3 hel3 hi0 hz0 hz1 hz2 hsl hl
  by_cases hn : 60 < n
  · rw [if_pos hn] at hN
    subst hN
    have g0 : decide ((n : Int) > 60) = true := by simp; omega
    have g1 : 60 ≤ c := by omega
    clear hnc hn
    by_cases hok : okN z0 z1
    · obtain ⟨⟨k1, k2⟩, k3, k4⟩ := hok
      obtain ⟨n0, rfl⟩ := Int.eq_ofNat_of_zero_le (show 0 ≤ z0 by omega)
      obtain ⟨m0, rfl⟩ := Int.eq_ofNat_of_zero_le (show 0 ≤ z1 by omega)
      have HNM := Lib.hid (show (1 ≤ n0 ∧ n0 ≤ 64) ∧ 1 ≤ m0 ∧ m0 ≤ 128 by omega)
      have HN60 := Lib.hid (show 60 ≤ 60 by omega)
      obtain ⟨_, ap, cp, hse, hcc⟩ := HSL.out
      simp only [Value.slice.injEq] at hse
      obtain ⟨rfl, _, rfl⟩ := hse
      have HCC := Lib.hid hcc
      clear k1 k2 k3 k4 hcc
      go_enter Tryd.func4, Tryd.ntmps4
      go_wp2_with fail
      refine (mnew_ok n0 m0 w (by have := HNM.out; omega) (by have := HNM.out; omega) (by have := HNM.out; omega) (by have := HNM.out; omega)).mono ?_
      rintro ev w1 ⟨b, rfl, ⟨F, hF⟩, hb1⟩
      have HR := Lib.hid (show RpT w w1 b F (.slice none 0 0) [] (List.replicate n0 []) (List.replicate m0 0) m0 0 from ⟨hF, winRow_nil .., fun q hq => by simp [Value.ownBlock] at hq, by simp, fun k => by rw [List.getD_eq_getElem?_getD, List.getElem?_replicate]; split <;> exact Nat.le_refl _, hb1⟩)
      clear hF hb1
      go_wp2_with fail
      go_loopw [9, 12] (fun s9 s12 wr => ∃ (i : Nat) (F : Nat → Prop) (row : List Ev) (B : Bufs) (M : List Int), i ≤ 60 ∧ row.length = i ∧ s12 = .int .i64 i ∧ RpT w wr b F s9 row B M m0 i) (fun _ s12 _ => 60 - (intOf s12).toNat)
      case atStart => exact ⟨0, F, [], _, _, by omega, rfl, rfl, HR.out⟩
      case round =>
        clear HR
        obtain ⟨i, F, row, B, M, hi, hri, rfl, hR⟩ := hrel
        have HR := Lib.hid hR
        have HRI := Lib.hid hri
        obtain ⟨ad9, cp9, rfl⟩ := hR.row.len
        clear hR hri
        by_cases hil : i < 60
        · have g5 : decide ((i : Int) < 60) = true := by simp; omega
          obtain ⟨g, off, rfl, hg, hc⟩ := HCC.out (by omega)
          obtain ⟨e, he⟩ : ∃ e, l[i]? = some e := ⟨_, List.getElem?_eq_getElem (by rw [HLL.out]; exact hil)⟩
          have e0 := (HR.out.bel.cell (p := ⟨g, off + (i * 6 + 0), none⟩) hg).trans (hc _ _ (flatE_at he (c := 0) rfl))
          have e1 := (HR.out.bel.cell (p := ⟨g, off + (i * 6 + 1), none⟩) hg).trans (hc _ _ (flatE_at he (c := 1) rfl))
          have e2 := (HR.out.bel.cell (p := ⟨g, off + (i * 6 + 2), none⟩) hg).trans (hc _ _ (flatE_at he (c := 2) rfl))
          have e3 := (HR.out.bel.cell (p := ⟨g, off + (i * 6 + 3), none⟩) hg).trans (hc _ _ (flatE_at he (c := 3) rfl))
          have e4 := (HR.out.bel.cell (p := ⟨g, off + (i * 6 + 4), none⟩) hg).trans (hc _ _ (flatE_at he (c := 4) rfl))
          have e5 := (HR.out.bel.cell (p := ⟨g, off + (i * 6 + 5), none⟩) hg).trans (hc _ _ (flatE_at he (c := 5) rfl))
          rw [Nat.add_zero] at e0
          rw [← Nat.add_assoc] at e1 e2 e3 e4 e5
          clear hc he hg
          obtain ⟨ka, ca, aa, xa, na, da⟩ := e
          simp only at e0 e1 e2 e3 e4 e5
          by_cases hi3 : i < n3
          · have g6 : decide (i ≥ n3) = false := by simp; omega
            have g7 : decide (n3 ≤ i) = false := by simp; omega
            obtain ⟨bf, of, rfl, hbf, hcf⟩ := HEL3.out i hi3
            have q3 := (HR.out.bel.cell (p := ⟨bf, of + i, none⟩) hbf).trans hcf
            have hbfr := Nat.lt_of_lt_of_le hbf HR.out.bel.size
            clear hbf hcf
            cases hgb : gb i with
            | true =>
              rw [hgb] at q3
              clear hgb
              go_wp2_with fail
              obtain ⟨hE, hhE⟩ : ∃ hE, hE = wr.heap.size := ⟨_, rfl⟩
              have hXW := heap_alloc_new wr (.cells #[.int .i64 ka, .int .i64 ca, .int .i64 aa, .int .u32 xa, .int .u32 na, .bool da] 24)
              have HFL := Lib.hid (show ∀ k, F k → k < hE from fun k hk => by rw [hhE]; exact (HR.out.md.lt k hk).2)
              have HOL := Lib.hid (show ∀ q, (Value.slice ad9 row.length cp9).ownBlock = some q → q < hE from fun q hq => by rw [hhE]; exact (HR.out.row.lt q hq).2)
              have HWE := Lib.hid (show w.heap.size ≤ hE by rw [hhE]; exact HR.out.bel.size)
              have HRW := Lib.hid (HR.out.below ((Below.refl _ _).alloc (Nat.le_refl _) (.cells #[.int .i64 ka, .int .i64 ca, .int .i64 aa, .int .u32 xa, .int .u32 na, .bool da] 24)))
              rw [← hhE] at hXW ⊢
              have HXW := Lib.hid hXW
              generalize wr.alloc (.cells #[.int .i64 ka, .int .i64 ca, .int .i64 aa, .int .u32 xa, .int .u32 na, .bool da] 24) = W1 at *
              clear hhE hXW HR e0 e1 e2 e3 e4 e5
              refine (fit_c w.heap.size b F B M ⟨ka, ca, aa, xa, na, da⟩ W1 HRW.out.md).mono ?_
              rintro ev w3 ⟨rfl, hb3⟩
              have hX3 := (hb3.block hE (Array.getElem?_eq_some_iff.1 HXW.out).1).trans HXW.out
              have HRW := Lib.hid (HRW.out.below hb3)
              have HX3 := Lib.hid hX3
              generalize fitE B M ⟨ka, ca, aa, xa, na, da⟩ = x at *
              obtain ⟨kx, cx, ax, vx, nx, dx⟩ := x
              simp only [Ev.v]
              have q0 := cell_of hX3 0
              have z0 := frozen_of hX3 0
              have q1 := cell_of hX3 1
              have z1 := frozen_of hX3 1
              have q2 := cell_of hX3 2
              have z2 := frozen_of hX3 2
              have q3 := cell_of hX3 3
              have z3 := frozen_of hX3 3
              have q4 := cell_of hX3 4
              have z4 := frozen_of hX3 4
              have q5 := cell_of hX3 5
              have z5 := frozen_of hX3 5
              simp only [List.getElem?_toArray, List.getElem?_cons_zero, List.getElem?_cons_succ] at q0 q1 q2 q3 q4 q5
              have hEl := (Array.getElem?_eq_some_iff.1 hX3).1
              clear hb3 hX3
              go_wp2_with fail
              obtain ⟨W2, hW2⟩ : ∃ W2, W2 = w3.setCells hE 0 [.int .i64 kx, .int .i64 cx, .int .i64 ax, .int .u32 vx, .int .u32 nx, .bool dx] := ⟨_, rfl⟩
              have hX2 : W2.heap[hE]? = some (.cells #[.int .i64 kx, .int .i64 cx, .int .i64 ax, .int .u32 vx, .int .u32 nx, .bool dx] 24 (0, 0)) := by rw [hW2]; exact block6 HX3.out _ _ _ _ _ _
              have hM2 : Mods (fun q => q = hE) w3 W2 := by
                rw [hW2, set6]
                exact ((((((Mods.refl (fun q => q = hE) w3).setCell (p := ⟨hE, 0, none⟩) (show hE = hE from rfl) _).setCell (p := ⟨hE, 1, none⟩) (show hE = hE from rfl) _).setCell (p := ⟨hE, 2, none⟩) (show hE = hE from rfl) _).setCell (p := ⟨hE, 3, none⟩) (show hE = hE from rfl) _).setCell (p := ⟨hE, 4, none⟩) (show hE = hE from rfl) _).setCell (p := ⟨hE, 5, none⟩) (show hE = hE from rfl) _
              rw [← set6 w3 hE, ← hW2]
              have HRW := Lib.hid (HRW.out.keepE hM2 (fun h => by have := HFL.out _ h; omega) (fun h => by have := HOL.out _ h; omega) HWE.out)
              have HXW := Lib.hid hX2
              clear hW2 hX2 hM2 q0 q1 q2 q3 q4 q5 z0 z1 z2 z3 z4 z5 hEl HX3
              refine (rstep_c w.heap.size b F B M ⟨kx, cx, ax, vx, nx, dx⟩ W2 HRW.out.md (fun k => by have := HRW.out.len k; have := HN60.out; omega)).mono ?_
              rintro ev w4 ⟨rfl, F', hF, hM, hO⟩
              have hX4 := (hM.block hE (Array.getElem?_eq_some_iff.1 HXW.out).1 (fun hk => by have := HFL.out _ hk; omega)).trans HXW.out
              have HR4 := Lib.hid (HRW.out.step hF hM hO)
              have q0 := cell_of hX4 0
              have q1 := cell_of hX4 1
              have q2 := cell_of hX4 2
              have q3 := cell_of hX4 3
              have q4 := cell_of hX4 4
              have q5 := cell_of hX4 5
              simp only [List.getElem?_toArray, List.getElem?_cons_zero, List.getElem?_cons_succ] at q0 q1 q2 q3 q4 q5
              clear hX4 hF hM hO
              go_wp2_with (at_builtin; refine wpList_append_win _ rfl _ _ 26 rfl w.heap.size 24 i0 _ 6 40 Tryd.underlying26 HI.out HZ0.out HZ1.out HZ2.out rfl (by decide) _ _ _ rfl (HR4.out.row.below ((Below.refl _ _).alloc (Nat.le_refl _) _)) ⟨w4.heap.size, 0, none⟩ 1 1 (flatE [⟨kx, cx, ax, vx, nx, dx⟩]) rfl rfl (by exact cells_new w4 [_, _, _, _, _, _] _) (flatE_one _) (by omega) (by have := HRI.out; have := HN60.out; unfold maxLen; omega) (by have := HRI.out; have := HN60.out; omega) (by have := HR4.out.bel.size; simp; omega) ?_; intro g8 off8 cap8 w8 hrow8 hgrow8 hat8 hlt8)
              have HN := Lib.hid (HR4.out.more (e := ⟨kx, cx, ax, vx, nx, dx⟩) ((Below.refl _ _).alloc (Nat.le_refl _) _) hrow8 hgrow8 hat8)
              clear hrow8 hgrow8 hat8 hlt8 q0 q1 q2 q3 q4 q5
              go_roundw
              case rel =>
                refine ⟨i + 1, F', row ++ [⟨kx, cx, ax, vx, nx, dx⟩], nxB B M ⟨kx, cx, ax, vx, nx, dx⟩, nxM B M ⟨kx, cx, ax, vx, nx, dx⟩, by omega, by rw [List.length_append]; have := HRI.out; simp; omega, by go_num, ?_⟩
                have h := HN.out
                rw [show (row ++ [(⟨kx, cx, ax, vx, nx, dx⟩ : Ev)]).length = row.length + 1 by simp] at h
                exact h
              case measure => simp [intOf] <;> omega
            | false =>
              rw [hgb] at q3
              clear hgb
              go_wp2_with fail
              obtain ⟨hE, hhE⟩ : ∃ hE, hE = wr.heap.size := ⟨_, rfl⟩
              have hXW := heap_alloc_new wr (.cells #[.int .i64 ka, .int .i64 ca, .int .i64 aa, .int .u32 xa, .int .u32 na, .bool da] 24)
              have HFL := Lib.hid (show ∀ k, F k → k < hE from fun k hk => by rw [hhE]; exact (HR.out.md.lt k hk).2)
              have HOL := Lib.hid (show ∀ q, (Value.slice ad9 row.length cp9).ownBlock = some q → q < hE from fun q hq => by rw [hhE]; exact (HR.out.row.lt q hq).2)
              have HWE := Lib.hid (show w.heap.size ≤ hE by rw [hhE]; exact HR.out.bel.size)
              have HRW := Lib.hid (HR.out.below ((Below.refl _ _).alloc (Nat.le_refl _) (.cells #[.int .i64 ka, .int .i64 ca, .int .i64 aa, .int .u32 xa, .int .u32 na, .bool da] 24)))
              rw [← hhE] at hXW ⊢
              have HXW := Lib.hid hXW
              generalize wr.alloc (.cells #[.int .i64 ka, .int .i64 ca, .int .i64 aa, .int .u32 xa, .int .u32 na, .bool da] 24) = W1 at *
              clear hhE hXW HR e0 e1 e2 e3 e4 e5
              refine (rstep_c w.heap.size b F B M ⟨ka, ca, aa, xa, na, da⟩ W1 HRW.out.md (fun k => by have := HRW.out.len k; have := HN60.out; omega)).mono ?_
              rintro ev w4 ⟨rfl, F', hF, hM, hO⟩
              have hX4 := (hM.block hE (Array.getElem?_eq_some_iff.1 HXW.out).1 (fun hk => by have := HFL.out _ hk; omega)).trans HXW.out
              have HR4 := Lib.hid (HRW.out.step hF hM hO)
              have q0 := cell_of hX4 0
              have q1 := cell_of hX4 1
              have q2 := cell_of hX4 2
              have q3 := cell_of hX4 3
              have q4 := cell_of hX4 4
              have q5 := cell_of hX4 5
              simp only [List.getElem?_toArray, List.getElem?_cons_zero, List.getElem?_cons_succ] at q0 q1 q2 q3 q4 q5
              clear hX4 hF hM hO
              go_wp2_with (at_builtin; refine wpList_append_win _ rfl _ _ 26 rfl w.heap.size 24 i0 _ 6 40 Tryd.underlying26 HI.out HZ0.out HZ1.out HZ2.out rfl (by decide) _ _ _ rfl (HR4.out.row.below ((Below.refl _ _).alloc (Nat.le_refl _) _)) ⟨w4.heap.size, 0, none⟩ 1 1 (flatE [⟨ka, ca, aa, xa, na, da⟩]) rfl rfl (by exact cells_new w4 [_, _, _, _, _, _] _) (flatE_one _) (by omega) (by have := HRI.out; have := HN60.out; unfold maxLen; omega) (by have := HRI.out; have := HN60.out; omega) (by have := HR4.out.bel.size; simp; omega) ?_; intro g8 off8 cap8 w8 hrow8 hgrow8 hat8 hlt8)
              have HN := Lib.hid (HR4.out.more (e := ⟨ka, ca, aa, xa, na, da⟩) ((Below.refl _ _).alloc (Nat.le_refl _) _) hrow8 hgrow8 hat8)
              clear hrow8 hgrow8 hat8 hlt8 q0 q1 q2 q3 q4 q5
              go_roundw
              case rel =>
                refine ⟨i + 1, F', row ++ [⟨ka, ca, aa, xa, na, da⟩], nxB B M ⟨ka, ca, aa, xa, na, da⟩, nxM B M ⟨ka, ca, aa, xa, na, da⟩, by omega, by rw [List.length_append]; have := HRI.out; simp; omega, by go_num, ?_⟩
                have h := HN.out
                rw [show (row ++ [(⟨ka, ca, aa, xa, na, da⟩ : Ev)]).length = row.length + 1 by simp] at h
                exact h
              case measure => simp [intOf] <;> omega
          · have g6 : decide (i ≥ n3) = true := by simp; omega
            have g7 : decide (n3 ≤ i) = true := by simp; omega
            go_wp2_with fail
            obtain ⟨hE, hhE⟩ : ∃ hE, hE = wr.heap.size := ⟨_, rfl⟩
            have hXW := heap_alloc_new wr (.cells #[.int .i64 ka, .int .i64 ca, .int .i64 aa, .int .u32 xa, .int .u32 na, .bool da] 24)
            have HFL := Lib.hid (show ∀ k, F k → k < hE from fun k hk => by rw [hhE]; exact (HR.out.md.lt k hk).2)
            have HOL := Lib.hid (show ∀ q, (Value.slice ad9 row.length cp9).ownBlock = some q → q < hE from fun q hq => by rw [hhE]; exact (HR.out.row.lt q hq).2)
            have HWE := Lib.hid (show w.heap.size ≤ hE by rw [hhE]; exact HR.out.bel.size)
            have HRW := Lib.hid (HR.out.below ((Below.refl _ _).alloc (Nat.le_refl _) (.cells #[.int .i64 ka, .int .i64 ca, .int .i64 aa, .int .u32 xa, .int .u32 na, .bool da] 24)))
            rw [← hhE] at hXW ⊢
            have HXW := Lib.hid hXW
            generalize wr.alloc (.cells #[.int .i64 ka, .int .i64 ca, .int .i64 aa, .int .u32 xa, .int .u32 na, .bool da] 24) = W1 at *
            clear hhE hXW HR e0 e1 e2 e3 e4 e5
            refine (fit_c w.heap.size b F B M ⟨ka, ca, aa, xa, na, da⟩ W1 HRW.out.md).mono ?_
            rintro ev w3 ⟨rfl, hb3⟩
            have hX3 := (hb3.block hE (Array.getElem?_eq_some_iff.1 HXW.out).1).trans HXW.out
            have HRW := Lib.hid (HRW.out.below hb3)
            have HX3 := Lib.hid hX3
            generalize fitE B M ⟨ka, ca, aa, xa, na, da⟩ = x at *
            obtain ⟨kx, cx, ax, vx, nx, dx⟩ := x
            simp only [Ev.v]
            have q0 := cell_of hX3 0
            have z0 := frozen_of hX3 0
            have q1 := cell_of hX3 1
            have z1 := frozen_of hX3 1
            have q2 := cell_of hX3 2
            have z2 := frozen_of hX3 2
            have q3 := cell_of hX3 3
            have z3 := frozen_of hX3 3
            have q4 := cell_of hX3 4
            have z4 := frozen_of hX3 4
            have q5 := cell_of hX3 5
            have z5 := frozen_of hX3 5
            simp only [List.getElem?_toArray, List.getElem?_cons_zero, List.getElem?_cons_succ] at q0 q1 q2 q3 q4 q5
            have hEl := (Array.getElem?_eq_some_iff.1 hX3).1
            clear hb3 hX3
            go_wp2_with fail
            obtain ⟨W2, hW2⟩ : ∃ W2, W2 = w3.setCells hE 0 [.int .i64 kx, .int .i64 cx, .int .i64 ax, .int .u32 vx, .int .u32 nx, .bool dx] := ⟨_, rfl⟩
            have hX2 : W2.heap[hE]? = some (.cells #[.int .i64 kx, .int .i64 cx, .int .i64 ax, .int .u32 vx, .int .u32 nx, .bool dx] 24 (0, 0)) := by rw [hW2]; exact block6 HX3.out _ _ _ _ _ _
            have hM2 : Mods (fun q => q = hE) w3 W2 := by
              rw [hW2, set6]
              exact ((((((Mods.refl (fun q => q = hE) w3).setCell (p := ⟨hE, 0, none⟩) (show hE = hE from rfl) _).setCell (p := ⟨hE, 1, none⟩) (show hE = hE from rfl) _).setCell (p := ⟨hE, 2, none⟩) (show hE = hE from rfl) _).setCell (p := ⟨hE, 3, none⟩) (show hE = hE from rfl) _).setCell (p := ⟨hE, 4, none⟩) (show hE = hE from rfl) _).setCell (p := ⟨hE, 5, none⟩) (show hE = hE from rfl) _
            rw [← set6 w3 hE, ← hW2]
            have HRW := Lib.hid (HRW.out.keepE hM2 (fun h => by have := HFL.out _ h; omega) (fun h => by have := HOL.out _ h; omega) HWE.out)
            have HXW := Lib.hid hX2
            clear hW2 hX2 hM2 q0 q1 q2 q3 q4 q5 z0 z1 z2 z3 z4 z5 hEl HX3
            refine (rstep_c w.heap.size b F B M ⟨kx, cx, ax, vx, nx, dx⟩ W2 HRW.out.md (fun k => by have := HRW.out.len k; have := HN60.out; omega)).mono ?_
            rintro ev w4 ⟨rfl, F', hF, hM, hO⟩
            have hX4 := (hM.block hE (Array.getElem?_eq_some_iff.1 HXW.out).1 (fun hk => by have := HFL.out _ hk; omega)).trans HXW.out
            have HR4 := Lib.hid (HRW.out.step hF hM hO)
            have q0 := cell_of hX4 0
            have q1 := cell_of hX4 1
            have q2 := cell_of hX4 2
            have q3 := cell_of hX4 3
            have q4 := cell_of hX4 4
            have q5 := cell_of hX4 5
            simp only [List.getElem?_toArray, List.getElem?_cons_zero, List.getElem?_cons_succ] at q0 q1 q2 q3 q4 q5
            clear hX4 hF hM hO
            go_wp2_with (at_builtin; refine wpList_append_win _ rfl _ _ 26 rfl w.heap.size 24 i0 _ 6 40 Tryd.underlying26 HI.out HZ0.out HZ1.out HZ2.out rfl (by decide) _ _ _ rfl (HR4.out.row.below ((Below.refl _ _).alloc (Nat.le_refl _) _)) ⟨w4.heap.size, 0, none⟩ 1 1 (flatE [⟨kx, cx, ax, vx, nx, dx⟩]) rfl rfl (by exact cells_new w4 [_, _, _, _, _, _] _) (flatE_one _) (by omega) (by have := HRI.out; have := HN60.out; unfold maxLen; omega) (by have := HRI.out; have := HN60.out; omega) (by have := HR4.out.bel.size; simp; omega) ?_; intro g8 off8 cap8 w8 hrow8 hgrow8 hat8 hlt8)
            have HN := Lib.hid (HR4.out.more (e := ⟨kx, cx, ax, vx, nx, dx⟩) ((Below.refl _ _).alloc (Nat.le_refl _) _) hrow8 hgrow8 hat8)
            clear hrow8 hgrow8 hat8 hlt8 q0 q1 q2 q3 q4 q5
            go_roundw
            case rel =>
              refine ⟨i + 1, F', row ++ [⟨kx, cx, ax, vx, nx, dx⟩], nxB B M ⟨kx, cx, ax, vx, nx, dx⟩, nxM B M ⟨kx, cx, ax, vx, nx, dx⟩, by omega, by rw [List.length_append]; have := HRI.out; simp; omega, by go_num, ?_⟩
              have h := HN.out
              rw [show (row ++ [(⟨kx, cx, ax, vx, nx, dx⟩ : Ev)]).length = row.length + 1 by simp] at h
              exact h
            case measure => simp [intOf] <;> omega
        · have g5 : decide ((i : Int) < 60) = false := by simp; omega
          have HV := Lib.hid HR.out.row.slc
          have HB := Lib.hid HR.out.bel
          have HRL := Lib.hid (show row.length ≤ 60 by have := HRI.out; have := HN60.out; omega)
          clear HR HRI
          go_wp2_with fail
          refine (replay_c A n0 m0 _ row wr (HS.out.below HB.out) (by have := HNM.out; omega) (by have := HNM.out; omega) (by have := HNM.out; omega) (by have := HNM.out; omega) HV.out (by have := HRL.out; omega)).mono ?_
          rintro ev w2 ⟨u2, rfl, hu2, hb2⟩
          have hrr := rpl_rr row (List.replicate n0 []) (List.replicate m0 0) 0
          have hrl : (runM (List.replicate n0 []) (List.replicate m0 0) row).length = m0 := by rw [runM_length, List.length_replicate]
          generalize hRM : runM (List.replicate n0 []) (List.replicate m0 0) row = RM at *
          generalize hQE : rplE (List.replicate n0 []) (List.replicate m0 0) row 0 = QE at *
          have HRM := Lib.hid hRM
          have HRML := Lib.hid hrl
          have HV2 := Lib.hid (HV.out.below hb2)
          have HB2 := Lib.hid (HB.out.trans (hb2.mono HB.out.size))
          clear hRM hQE hrl hb2 HV HB
          rcases hrr with ⟨hr1, rfl⟩ | ⟨cc, co, at_, hr1, hr2, rfl⟩
          · have hu2 : winRow w2 wr.heap.size 22 1 u2 m0 (u32V RM) := hu2
            obtain ⟨a2, c2, rfl⟩ := hu2.len
            have HU2 := Lib.hid hu2.slc
            have HR1 := Lib.hid hr1
            clear hr1 hu2
            rw [show ErrT.nil.val A = .nilIface from rfl]
            go_wp2_with fail
            refine (rreplay_c n0 m0 _ row w2 (by have := HNM.out; omega) (by have := HNM.out; omega) (by have := HNM.out; omega) (by have := HNM.out; omega) HV2.out (by have := HRL.out; omega)).mono ?_
            rintro ev w3 ⟨u3, rfl, hu3, hb3⟩
            rw [HRM.out, if_pos HR1.out] at hu3
            rw [HR1.out]
            have HU2 := Lib.hid (HU2.out.below hb3)
            obtain ⟨_, a3, c3, rfl, hu3'⟩ := hu3
            have HU3 := Lib.hid (show slc w3 1 (.slice a3 m0 c3) m0 (u32V RM) from ⟨by assumption, a3, c3, rfl, hu3'⟩)
            have HB3 := Lib.hid (HB2.out.trans (hb3.mono HB2.out.size))
            generalize (rrA (List.replicate n0 []) (List.replicate m0 0) row 0).1 = zz at *
            clear hu3' hb3 HR1 HB2 HV2
            go_wp2_with fail
            refine (sameU_c RM RM _ _ w3 (by rw [HRML.out]; exact HU2.out) (by rw [HRML.out]; exact HU3.out) (by rw [HRML.out]; have := HNM.out; omega) (by rw [HRML.out]; have := HNM.out; omega)).mono ?_
            rintro ev w4 ⟨rfl, hb4⟩
            rw [decide_eq_true (rfl : RM = RM)]
            have HB4 := Lib.hid (HB3.out.trans (hb4.mono HB3.out.size))
            clear hb4
            go_wp2_with fail
            refine (tsoRuns A _ (HS.out.below HB4.out)).mono ?_
            rintro ev w5 ⟨rfl, hb5⟩
            go_wp2_with fail
            go_ret
            exact ⟨rfl, HB4.out.trans (hb5.mono HB4.out.size)⟩
          · have hu2 : u2 = .slice none 0 0 := hu2
            subst hu2
            have HR1 := Lib.hid hr1
            have HC := Lib.hid hr2
            clear hr1 hr2
            rw [show (ErrT.wrap trT at_ (.wrap tsT co (.sent cc))).val A = .iface 78 (.agg #[.string trT, .int .i64 at_, .iface 78 (.agg #[.string tsT, .int .i64 co, .iface 129 (.pointer (some (A cc)))])]) from rfl]
            go_wp2_with fail
            refine (rreplay_c n0 m0 _ row w2 (by have := HNM.out; omega) (by have := HNM.out; omega) (by have := HNM.out; omega) (by have := HNM.out; omega) HV2.out (by have := HRL.out; omega)).mono ?_
            rintro ev w3 ⟨u3, rfl, hu3, hb3⟩
            rw [HR1.out] at hu3 ⊢
            have hu3 : u3 = .slice none 0 0 := by simpa using hu3
            subst hu3
            obtain ⟨cd, hcd⟩ : ∃ cd : Int, ((cc + 1 : Nat) : Int) = cd := ⟨_, rfl⟩
            simp only [hcd]
            have HCD := Lib.hid hcd
            have g7 : decide (cd = 0) = false := by simp; omega
            have g8 : (cd == 0) = false := by simp; omega
            have HB3 := Lib.hid (HB2.out.trans (hb3.mono HB2.out.size))
            clear hcd hb3 HR1 HB2 HV2
            go_wp2_with fail
            refine (mnew_ok n0 m0 w3 (by have := HNM.out; omega) (by have := HNM.out; omega) (by have := HNM.out; omega) (by have := HNM.out; omega)).mono ?_
            rintro ev w4 ⟨b4, rfl, _, hb4⟩
            have HB4 := Lib.hid (HB3.out.trans (hb4.mono HB3.out.size))
            clear hb4
            go_wp2_with fail
            change Calls Tryd.prog _ #[(ErrT.wrap trT at_ (.wrap tsT co (.sent cc))).val A, .int .i64 cd, .string trT, .int .i64 at_] _ _
            refine (is_c A (.wrap trT at_ (.wrap tsT co (.sent cc))) cd trT at_ w4 (HS.out.below HB4.out) ⟨rfl, rfl, show cc < 10 by have := HC.out; omega⟩ (by have := HCD.out; omega) (by have := HCD.out; have := HC.out; omega)).mono ?_
            rintro ev w5 ⟨rfl, hb5⟩
            rw [show isK (.wrap trT at_ (.wrap tsT co (.sent cc))) cd trT at_ = true by rw [← HCD.out]; exact isK_rr cc co at_]
            have HB5 := Lib.hid (HB4.out.trans (hb5.mono HB4.out.size))
            clear hb5
            go_wp2_with fail
            change Calls Tryd.prog _ #[(ErrT.wrap trT at_ (.wrap tsT co (.sent cc))).val A, .int .i64 cd] _ _
            refine (only_c A (.wrap trT at_ (.wrap tsT co (.sent cc))) cd w5 (HS.out.below HB5.out) ⟨rfl, rfl, show cc < 10 by have := HC.out; omega⟩ (by have := HCD.out; omega) (by have := HCD.out; have := HC.out; omega)).mono ?_
            rintro ev w6 ⟨rfl, hb6⟩
            rw [show onlyK (.wrap trT at_ (.wrap tsT co (.sent cc))) cd = true by rw [← HCD.out]; exact onlyK_rr cc co at_]
            have HB6 := Lib.hid (HB5.out.trans (hb6.mono HB5.out.size))
            clear hb6
            go_wp2_with fail
            refine (tsoRuns A _ (HS.out.below HB6.out)).mono ?_
            rintro ev w7 ⟨rfl, hb7⟩
            go_wp2_with fail
            go_ret
            exact ⟨rfl, HB6.out.trans (hb7.mono HB6.out.size)⟩
    · go_enter Tryd.func4, Tryd.ntmps4
      go_wp2_with fail
      refine (mnew_bad z0 z1 w hok).mono ?_
      rintro ev w' ⟨rfl, hww⟩
      obtain rfl := hww
      go_wp2_with fail
      refine (treplay_bad A z0 z1 _ w HS.out hok).mono ?_
      rintro ev w' ⟨rfl, hww⟩
      obtain rfl := hww
      have HE := Lib.hid (show ∃ i, tnewE z0 z1 = .wrap tnT i (.sent 0) by unfold tnewE; rw [if_neg hok]; exact ⟨_, rfl⟩)
      obtain ⟨ie, hie⟩ := HE.out
      rw [hie, show (ErrT.wrap tnT ie (.sent 0)).val A = .iface 78 (.agg #[.string tnT, .int .i64 ie, .iface 129 (.pointer (some (A 0)))]) from rfl]
      clear hie
      go_wp2_with fail
      refine (rreplay_bad z0 z1 _ w hok).mono ?_
      rintro ev w' ⟨rfl, hww⟩
      obtain rfl := hww
      go_wp2_with fail
      refine (mnew_bad z0 z1 w hok).mono ?_
      rintro ev w' ⟨rfl, hww⟩
      obtain rfl := hww
      go_wp2_with fail
      change Calls Tryd.prog _ #[(ErrT.wrap tnT ie (.sent 0)).val A, .int .i64 (1 : Int)] _ _
      refine (only_c A (.wrap tnT ie (.sent 0)) 1 w HS.out ⟨rfl, show (0 : Nat) < 10 by omega⟩ (by omega) (by omega)).mono ?_
      rintro ev w3 ⟨rfl, hb3⟩
      rw [show onlyK (.wrap tnT ie (.sent 0)) 1 = true by rfl]
      have HB3 := Lib.hid hb3
      clear hb3
      go_wp2_with fail
      refine (tsoRuns A _ (HS.out.below HB3.out)).mono ?_
      rintro ev w4 ⟨rfl, hb4⟩
      go_wp2_with fail
      go_ret
      exact ⟨rfl, HB3.out.trans (hb4.mono HB3.out.size)⟩
  · rw [if_neg hn] at hN
    subst hN
    have g0 : decide ((N : Int) > 60) = false := by simp; omega
    by_cases hok : okN z0 z1
    · obtain ⟨⟨k1, k2⟩, k3, k4⟩ := hok
      obtain ⟨n0, rfl⟩ := Int.eq_ofNat_of_zero_le (show 0 ≤ z0 by omega)
      obtain ⟨m0, rfl⟩ := Int.eq_ofNat_of_zero_le (show 0 ≤ z1 by omega)
      have HNM := Lib.hid (show (1 ≤ n0 ∧ n0 ≤ 64) ∧ 1 ≤ m0 ∧ m0 ≤ 128 by omega)
      have HN60 := Lib.hid (show N ≤ 60 by omega)
      obtain ⟨_, ap, cp, hse, hcc⟩ := HSL.out
      simp only [Value.slice.injEq] at hse
      obtain ⟨rfl, _, rfl⟩ := hse
      have HCC := Lib.hid hcc
      clear k1 k2 k3 k4 hcc
      go_enter Tryd.func4, Tryd.ntmps4
      go_wp2_with fail
      refine (mnew_ok n0 m0 w (by have := HNM.out; omega) (by have := HNM.out; omega) (by have := HNM.out; omega) (by have := HNM.out; omega)).mono ?_
      rintro ev w1 ⟨b, rfl, ⟨F, hF⟩, hb1⟩
      have HR := Lib.hid (show RpT w w1 b F (.slice none 0 0) [] (List.replicate n0 []) (List.replicate m0 0) m0 0 from ⟨hF, winRow_nil .., fun q hq => by simp [Value.ownBlock] at hq, by simp, fun k => by rw [List.getD_eq_getElem?_getD, List.getElem?_replicate]; split <;> exact Nat.le_refl _, hb1⟩)
      clear hF hb1
      go_wp2_with fail
      go_loopw [9, 12] (fun s9 s12 wr => ∃ (i : Nat) (F : Nat → Prop) (row : List Ev) (B : Bufs) (M : List Int), i ≤ N ∧ row.length = i ∧ s12 = .int .i64 i ∧ RpT w wr b F s9 row B M m0 i) (fun _ s12 _ => N - (intOf s12).toNat)
      case atStart => exact ⟨0, F, [], _, _, by omega, rfl, rfl, HR.out⟩
      case round =>
        clear HR
        obtain ⟨i, F, row, B, M, hi, hri, rfl, hR⟩ := hrel
        have HR := Lib.hid hR
        have HRI := Lib.hid hri
        obtain ⟨ad9, cp9, rfl⟩ := hR.row.len
        clear hR hri
        by_cases hil : i < N
        · have g5 : decide (i < N) = true := by simp; omega
          obtain ⟨g, off, rfl, hg, hc⟩ := HCC.out (by omega)
          obtain ⟨e, he⟩ : ∃ e, l[i]? = some e := ⟨_, List.getElem?_eq_getElem (by rw [HLL.out]; exact hil)⟩
          have e0 := (HR.out.bel.cell (p := ⟨g, off + (i * 6 + 0), none⟩) hg).trans (hc _ _ (flatE_at he (c := 0) rfl))
          have e1 := (HR.out.bel.cell (p := ⟨g, off + (i * 6 + 1), none⟩) hg).trans (hc _ _ (flatE_at he (c := 1) rfl))
          have e2 := (HR.out.bel.cell (p := ⟨g, off + (i * 6 + 2), none⟩) hg).trans (hc _ _ (flatE_at he (c := 2) rfl))
          have e3 := (HR.out.bel.cell (p := ⟨g, off + (i * 6 + 3), none⟩) hg).trans (hc _ _ (flatE_at he (c := 3) rfl))
          have e4 := (HR.out.bel.cell (p := ⟨g, off + (i * 6 + 4), none⟩) hg).trans (hc _ _ (flatE_at he (c := 4) rfl))
          have e5 := (HR.out.bel.cell (p := ⟨g, off + (i * 6 + 5), none⟩) hg).trans (hc _ _ (flatE_at he (c := 5) rfl))
          rw [Nat.add_zero] at e0
          rw [← Nat.add_assoc] at e1 e2 e3 e4 e5
          clear hc he hg
          obtain ⟨ka, ca, aa, xa, na, da⟩ := e
          simp only at e0 e1 e2 e3 e4 e5
          by_cases hi3 : i < n3
          · have g6 : decide (i ≥ n3) = false := by simp; omega
            have g7 : decide (n3 ≤ i) = false := by simp; omega
            obtain ⟨bf, of, rfl, hbf, hcf⟩ := HEL3.out i hi3
            have q3 := (HR.out.bel.cell (p := ⟨bf, of + i, none⟩) hbf).trans hcf
            have hbfr := Nat.lt_of_lt_of_le hbf HR.out.bel.size
            clear hbf hcf
            cases hgb : gb i with
            | true =>
              rw [hgb] at q3
              clear hgb
              go_wp2_with fail
              obtain ⟨hE, hhE⟩ : ∃ hE, hE = wr.heap.size := ⟨_, rfl⟩
              have hXW := heap_alloc_new wr (.cells #[.int .i64 ka, .int .i64 ca, .int .i64 aa, .int .u32 xa, .int .u32 na, .bool da] 24)
              have HFL := Lib.hid (show ∀ k, F k → k < hE from fun k hk => by rw [hhE]; exact (HR.out.md.lt k hk).2)
              have HOL := Lib.hid (show ∀ q, (Value.slice ad9 row.length cp9).ownBlock = some q → q < hE from fun q hq => by rw [hhE]; exact (HR.out.row.lt q hq).2)
              have HWE := Lib.hid (show w.heap.size ≤ hE by rw [hhE]; exact HR.out.bel.size)
              have HRW := Lib.hid (HR.out.below ((Below.refl _ _).alloc (Nat.le_refl _) (.cells #[.int .i64 ka, .int .i64 ca, .int .i64 aa, .int .u32 xa, .int .u32 na, .bool da] 24)))
              rw [← hhE] at hXW ⊢
              have HXW := Lib.hid hXW
              generalize wr.alloc (.cells #[.int .i64 ka, .int .i64 ca, .int .i64 aa, .int .u32 xa, .int .u32 na, .bool da] 24) = W1 at *
              clear hhE hXW HR e0 e1 e2 e3 e4 e5
              refine (fit_c w.heap.size b F B M ⟨ka, ca, aa, xa, na, da⟩ W1 HRW.out.md).mono ?_
              rintro ev w3 ⟨rfl, hb3⟩
              have hX3 := (hb3.block hE (Array.getElem?_eq_some_iff.1 HXW.out).1).trans HXW.out
              have HRW := Lib.hid (HRW.out.below hb3)
              have HX3 := Lib.hid hX3
              generalize fitE B M ⟨ka, ca, aa, xa, na, da⟩ = x at *
              obtain ⟨kx, cx, ax, vx, nx, dx⟩ := x
              simp only [Ev.v]
              have q0 := cell_of hX3 0
              have z0 := frozen_of hX3 0
              have q1 := cell_of hX3 1
              have z1 := frozen_of hX3 1
              have q2 := cell_of hX3 2
              have z2 := frozen_of hX3 2
              have q3 := cell_of hX3 3
              have z3 := frozen_of hX3 3
              have q4 := cell_of hX3 4
              have z4 := frozen_of hX3 4
              have q5 := cell_of hX3 5
              have z5 := frozen_of hX3 5
              simp only [List.getElem?_toArray, List.getElem?_cons_zero, List.getElem?_cons_succ] at q0 q1 q2 q3 q4 q5
              have hEl := (Array.getElem?_eq_some_iff.1 hX3).1
              clear hb3 hX3
              go_wp2_with fail
              obtain ⟨W2, hW2⟩ : ∃ W2, W2 = w3.setCells hE 0 [.int .i64 kx, .int .i64 cx, .int .i64 ax, .int .u32 vx, .int .u32 nx, .bool dx] := ⟨_, rfl⟩
              have hX2 : W2.heap[hE]? = some (.cells #[.int .i64 kx, .int .i64 cx, .int .i64 ax, .int .u32 vx, .int .u32 nx, .bool dx] 24 (0, 0)) := by rw [hW2]; exact block6 HX3.out _ _ _ _ _ _
              have hM2 : Mods (fun q => q = hE) w3 W2 := by
                rw [hW2, set6]
                exact ((((((Mods.refl (fun q => q = hE) w3).setCell (p := ⟨hE, 0, none⟩) (show hE = hE from rfl) _).setCell (p := ⟨hE, 1, none⟩) (show hE = hE from rfl) _).setCell (p := ⟨hE, 2, none⟩) (show hE = hE from rfl) _).setCell (p := ⟨hE, 3, none⟩) (show hE = hE from rfl) _).setCell (p := ⟨hE, 4, none⟩) (show hE = hE from rfl) _).setCell (p := ⟨hE, 5, none⟩) (show hE = hE from rfl) _
              rw [← set6 w3 hE, ← hW2]
              have HRW := Lib.hid (HRW.out.keepE hM2 (fun h => by have := HFL.out _ h; omega) (fun h => by have := HOL.out _ h; omega) HWE.out)
              have HXW := Lib.hid hX2
              clear hW2 hX2 hM2 q0 q1 q2 q3 q4 q5 z0 z1 z2 z3 z4 z5 hEl HX3
              refine (rstep_c w.heap.size b F B M ⟨kx, cx, ax, vx, nx, dx⟩ W2 HRW.out.md (fun k => by have := HRW.out.len k; have := HN60.out; omega)).mono ?_
              rintro ev w4 ⟨rfl, F', hF, hM, hO⟩
              have hX4 := (hM.block hE (Array.getElem?_eq_some_iff.1 HXW.out).1 (fun hk => by have := HFL.out _ hk; omega)).trans HXW.out
              have HR4 := Lib.hid (HRW.out.step hF hM hO)
              have q0 := cell_of hX4 0
              have q1 := cell_of hX4 1
              have q2 := cell_of hX4 2
              have q3 := cell_of hX4 3
              have q4 := cell_of hX4 4
              have q5 := cell_of hX4 5
              simp only [List.getElem?_toArray, List.getElem?_cons_zero, List.getElem?_cons_succ] at q0 q1 q2 q3 q4 q5
              clear hX4 hF hM hO
              go_wp2_with (at_builtin; refine wpList_append_win _ rfl _ _ 26 rfl w.heap.size 24 i0 _ 6 40 Tryd.underlying26 HI.out HZ0.out HZ1.out HZ2.out rfl (by decide) _ _ _ rfl (HR4.out.row.below ((Below.refl _ _).alloc (Nat.le_refl _) _)) ⟨w4.heap.size, 0, none⟩ 1 1 (flatE [⟨kx, cx, ax, vx, nx, dx⟩]) rfl rfl (by exact cells_new w4 [_, _, _, _, _, _] _) (flatE_one _) (by omega) (by have := HRI.out; have := HN60.out; unfold maxLen; omega) (by have := HRI.out; have := HN60.out; omega) (by have := HR4.out.bel.size; simp; omega) ?_; intro g8 off8 cap8 w8 hrow8 hgrow8 hat8 hlt8)
              have HN := Lib.hid (HR4.out.more (e := ⟨kx, cx, ax, vx, nx, dx⟩) ((Below.refl _ _).alloc (Nat.le_refl _) _) hrow8 hgrow8 hat8)
              clear hrow8 hgrow8 hat8 hlt8 q0 q1 q2 q3 q4 q5
              go_roundw
              case rel =>
                refine ⟨i + 1, F', row ++ [⟨kx, cx, ax, vx, nx, dx⟩], nxB B M ⟨kx, cx, ax, vx, nx, dx⟩, nxM B M ⟨kx, cx, ax, vx, nx, dx⟩, by omega, by rw [List.length_append]; have := HRI.out; simp; omega, by go_num, ?_⟩
                have h := HN.out
                rw [show (row ++ [(⟨kx, cx, ax, vx, nx, dx⟩ : Ev)]).length = row.length + 1 by simp] at h
                exact h
              case measure => simp [intOf] <;> omega
            | false =>
              rw [hgb] at q3
              clear hgb
              go_wp2_with fail
              obtain ⟨hE, hhE⟩ : ∃ hE, hE = wr.heap.size := ⟨_, rfl⟩
              have hXW := heap_alloc_new wr (.cells #[.int .i64 ka, .int .i64 ca, .int .i64 aa, .int .u32 xa, .int .u32 na, .bool da] 24)
              have HFL := Lib.hid (show ∀ k, F k → k < hE from fun k hk => by rw [hhE]; exact (HR.out.md.lt k hk).2)
              have HOL := Lib.hid (show ∀ q, (Value.slice ad9 row.length cp9).ownBlock = some q → q < hE from fun q hq => by rw [hhE]; exact (HR.out.row.lt q hq).2)
              have HWE := Lib.hid (show w.heap.size ≤ hE by rw [hhE]; exact HR.out.bel.size)
              have HRW := Lib.hid (HR.out.below ((Below.refl _ _).alloc (Nat.le_refl _) (.cells #[.int .i64 ka, .int .i64 ca, .int .i64 aa, .int .u32 xa, .int .u32 na, .bool da] 24)))
              rw [← hhE] at hXW ⊢
              have HXW := Lib.hid hXW
              generalize wr.alloc (.cells #[.int .i64 ka, .int .i64 ca, .int .i64 aa, .int .u32 xa, .int .u32 na, .bool da] 24) = W1 at *
              clear hhE hXW HR e0 e1 e2 e3 e4 e5
              refine (rstep_c w.heap.size b F B M ⟨ka, ca, aa, xa, na, da⟩ W1 HRW.out.md (fun k => by have := HRW.out.len k; have := HN60.out; omega)).mono ?_
              rintro ev w4 ⟨rfl, F', hF, hM, hO⟩
              have hX4 := (hM.block hE (Array.getElem?_eq_some_iff.1 HXW.out).1 (fun hk => by have := HFL.out _ hk; omega)).trans HXW.out
              have HR4 := Lib.hid (HRW.out.step hF hM hO)
              have q0 := cell_of hX4 0
              have q1 := cell_of hX4 1
              have q2 := cell_of hX4 2
              have q3 := cell_of hX4 3
              have q4 := cell_of hX4 4
              have q5 := cell_of hX4 5
              simp only [List.getElem?_toArray, List.getElem?_cons_zero, List.getElem?_cons_succ] at q0 q1 q2 q3 q4 q5
              clear hX4 hF hM hO
              go_wp2_with (at_builtin; refine wpList_append_win _ rfl _ _ 26 rfl w.heap.size 24 i0 _ 6 40 Tryd.underlying26 HI.out HZ0.out HZ1.out HZ2.out rfl (by decide) _ _ _ rfl (HR4.out.row.below ((Below.refl _ _).alloc (Nat.le_refl _) _)) ⟨w4.heap.size, 0, none⟩ 1 1 (flatE [⟨ka, ca, aa, xa, na, da⟩]) rfl rfl (by exact cells_new w4 [_, _, _, _, _, _] _) (flatE_one _) (by omega) (by have := HRI.out; have := HN60.out; unfold maxLen; omega) (by have := HRI.out; have := HN60.out; omega) (by have := HR4.out.bel.size; simp; omega) ?_; intro g8 off8 cap8 w8 hrow8 hgrow8 hat8 hlt8)
              have HN := Lib.hid (HR4.out.more (e := ⟨ka, ca, aa, xa, na, da⟩) ((Below.refl _ _).alloc (Nat.le_refl _) _) hrow8 hgrow8 hat8)
              clear hrow8 hgrow8 hat8 hlt8 q0 q1 q2 q3 q4 q5
              go_roundw
              case rel =>
                refine ⟨i + 1, F', row ++ [⟨ka, ca, aa, xa, na, da⟩], nxB B M ⟨ka, ca, aa, xa, na, da⟩, nxM B M ⟨ka, ca, aa, xa, na, da⟩, by omega, by rw [List.length_append]; have := HRI.out; simp; omega, by go_num, ?_⟩
                have h := HN.out
                rw [show (row ++ [(⟨ka, ca, aa, xa, na, da⟩ : Ev)]).length = row.length + 1 by simp] at h
                exact h
              case measure => simp [intOf] <;> omega
          · have g6 : decide (i ≥ n3) = true := by simp; omega
            have g7 : decide (n3 ≤ i) = true := by simp; omega
            go_wp2_with fail
            obtain ⟨hE, hhE⟩ : ∃ hE, hE = wr.heap.size := ⟨_, rfl⟩
            have hXW := heap_alloc_new wr (.cells #[.int .i64 ka, .int .i64 ca, .int .i64 aa, .int .u32 xa, .int .u32 na, .bool da] 24)
            have HFL := Lib.hid (show ∀ k, F k → k < hE from fun k hk => by rw [hhE]; exact (HR.out.md.lt k hk).2)
            have HOL := Lib.hid (show ∀ q, (Value.slice ad9 row.length cp9).ownBlock = some q → q < hE from fun q hq => by rw [hhE]; exact (HR.out.row.lt q hq).2)
            have HWE := Lib.hid (show w.heap.size ≤ hE by rw [hhE]; exact HR.out.bel.size)
            have HRW := Lib.hid (HR.out.below ((Below.refl _ _).alloc (Nat.le_refl _) (.cells #[.int .i64 ka, .int .i64 ca, .int .i64 aa, .int .u32 xa, .int .u32 na, .bool da] 24)))
            rw [← hhE] at hXW ⊢
            have HXW := Lib.hid hXW
            generalize wr.alloc (.cells #[.int .i64 ka, .int .i64 ca, .int .i64 aa, .int .u32 xa, .int .u32 na, .bool da] 24) = W1 at *
            clear hhE hXW HR e0 e1 e2 e3 e4 e5
            refine (fit_c w.heap.size b F B M ⟨ka, ca, aa, xa, na, da⟩ W1 HRW.out.md).mono ?_
            rintro ev w3 ⟨rfl, hb3⟩
            have hX3 := (hb3.block hE (Array.getElem?_eq_some_iff.1 HXW.out).1).trans HXW.out
            have HRW := Lib.hid (HRW.out.below hb3)
            have HX3 := Lib.hid hX3
            generalize fitE B M ⟨ka, ca, aa, xa, na, da⟩ = x at *
            obtain ⟨kx, cx, ax, vx, nx, dx⟩ := x
            simp only [Ev.v]
            have q0 := cell_of hX3 0
            have z0 := frozen_of hX3 0
            have q1 := cell_of hX3 1
            have z1 := frozen_of hX3 1
            have q2 := cell_of hX3 2
            have z2 := frozen_of hX3 2
            have q3 := cell_of hX3 3
            have z3 := frozen_of hX3 3
            have q4 := cell_of hX3 4
            have z4 := frozen_of hX3 4
            have q5 := cell_of hX3 5
            have z5 := frozen_of hX3 5
            simp only [List.getElem?_toArray, List.getElem?_cons_zero, List.getElem?_cons_succ] at q0 q1 q2 q3 q4 q5
            have hEl := (Array.getElem?_eq_some_iff.1 hX3).1
            clear hb3 hX3
            go_wp2_with fail
            obtain ⟨W2, hW2⟩ : ∃ W2, W2 = w3.setCells hE 0 [.int .i64 kx, .int .i64 cx, .int .i64 ax, .int .u32 vx, .int .u32 nx, .bool dx] := ⟨_, rfl⟩
            have hX2 : W2.heap[hE]? = some (.cells #[.int .i64 kx, .int .i64 cx, .int .i64 ax, .int .u32 vx, .int .u32 nx, .bool dx] 24 (0, 0)) := by rw [hW2]; exact block6 HX3.out _ _ _ _ _ _
            have hM2 : Mods (fun q => q = hE) w3 W2 := by
              rw [hW2, set6]
              exact ((((((Mods.refl (fun q => q = hE) w3).setCell (p := ⟨hE, 0, none⟩) (show hE = hE from rfl) _).setCell (p := ⟨hE, 1, none⟩) (show hE = hE from rfl) _).setCell (p := ⟨hE, 2, none⟩) (show hE = hE from rfl) _).setCell (p := ⟨hE, 3, none⟩) (show hE = hE from rfl) _).setCell (p := ⟨hE, 4, none⟩) (show hE = hE from rfl) _).setCell (p := ⟨hE, 5, none⟩) (show hE = hE from rfl) _
            rw [← set6 w3 hE, ← hW2]
            have HRW := Lib.hid (HRW.out.keepE hM2 (fun h => by have := HFL.out _ h; omega) (fun h => by have := HOL.out _ h; omega) HWE.out)
            have HXW := Lib.hid hX2
            clear hW2 hX2 hM2 q0 q1 q2 q3 q4 q5 z0 z1 z2 z3 z4 z5 hEl HX3
            refine (rstep_c w.heap.size b F B M ⟨kx, cx, ax, vx, nx, dx⟩ W2 HRW.out.md (fun k => by have := HRW.out.len k; have := HN60.out; omega)).mono ?_
            rintro ev w4 ⟨rfl, F', hF, hM, hO⟩
            have hX4 := (hM.block hE (Array.getElem?_eq_some_iff.1 HXW.out).1 (fun hk => by have := HFL.out _ hk; omega)).trans HXW.out
            have HR4 := Lib.hid (HRW.out.step hF hM hO)
            have q0 := cell_of hX4 0
            have q1 := cell_of hX4 1
            have q2 := cell_of hX4 2
            have q3 := cell_of hX4 3
            have q4 := cell_of hX4 4
            have q5 := cell_of hX4 5
            simp only [List.getElem?_toArray, List.getElem?_cons_zero, List.getElem?_cons_succ] at q0 q1 q2 q3 q4 q5
            clear hX4 hF hM hO
            go_wp2_with (at_builtin; refine wpList_append_win _ rfl _ _ 26 rfl w.heap.size 24 i0 _ 6 40 Tryd.underlying26 HI.out HZ0.out HZ1.out HZ2.out rfl (by decide) _ _ _ rfl (HR4.out.row.below ((Below.refl _ _).alloc (Nat.le_refl _) _)) ⟨w4.heap.size, 0, none⟩ 1 1 (flatE [⟨kx, cx, ax, vx, nx, dx⟩]) rfl rfl (by exact cells_new w4 [_, _, _, _, _, _] _) (flatE_one _) (by omega) (by have := HRI.out; have := HN60.out; unfold maxLen; omega) (by have := HRI.out; have := HN60.out; omega) (by have := HR4.out.bel.size; simp; omega) ?_; intro g8 off8 cap8 w8 hrow8 hgrow8 hat8 hlt8)
            have HN := Lib.hid (HR4.out.more (e := ⟨kx, cx, ax, vx, nx, dx⟩) ((Below.refl _ _).alloc (Nat.le_refl _) _) hrow8 hgrow8 hat8)
            clear hrow8 hgrow8 hat8 hlt8 q0 q1 q2 q3 q4 q5
            go_roundw
            case rel =>
              refine ⟨i + 1, F', row ++ [⟨kx, cx, ax, vx, nx, dx⟩], nxB B M ⟨kx, cx, ax, vx, nx, dx⟩, nxM B M ⟨kx, cx, ax, vx, nx, dx⟩, by omega, by rw [List.length_append]; have := HRI.out; simp; omega, by go_num, ?_⟩
              have h := HN.out
              rw [show (row ++ [(⟨kx, cx, ax, vx, nx, dx⟩ : Ev)]).length = row.length + 1 by simp] at h
              exact h
            case measure => simp [intOf] <;> omega
        · have g5 : decide (i < N) = false := by simp; omega
          have HV := Lib.hid HR.out.row.slc
          have HB := Lib.hid HR.out.bel
          have HRL := Lib.hid (show row.length ≤ 60 by have := HRI.out; have := HN60.out; omega)
          clear HR HRI
          go_wp2_with fail
          refine (replay_c A n0 m0 _ row wr (HS.out.below HB.out) (by have := HNM.out; omega) (by have := HNM.out; omega) (by have := HNM.out; omega) (by have := HNM.out; omega) HV.out (by have := HRL.out; omega)).mono ?_
          rintro ev w2 ⟨u2, rfl, hu2, hb2⟩
          have hrr := rpl_rr row (List.replicate n0 []) (List.replicate m0 0) 0
          have hrl : (runM (List.replicate n0 []) (List.replicate m0 0) row).length = m0 := by rw [runM_length, List.length_replicate]
          generalize hRM : runM (List.replicate n0 []) (List.replicate m0 0) row = RM at *
          generalize hQE : rplE (List.replicate n0 []) (List.replicate m0 0) row 0 = QE at *
          have HRM := Lib.hid hRM
          have HRML := Lib.hid hrl
          have HV2 := Lib.hid (HV.out.below hb2)
          have HB2 := Lib.hid (HB.out.trans (hb2.mono HB.out.size))
          clear hRM hQE hrl hb2 HV HB
          rcases hrr with ⟨hr1, rfl⟩ | ⟨cc, co, at_, hr1, hr2, rfl⟩
          · have hu2 : winRow w2 wr.heap.size 22 1 u2 m0 (u32V RM) := hu2
            obtain ⟨a2, c2, rfl⟩ := hu2.len
            have HU2 := Lib.hid hu2.slc
            have HR1 := Lib.hid hr1
            clear hr1 hu2
            rw [show ErrT.nil.val A = .nilIface from rfl]
            go_wp2_with fail
            refine (rreplay_c n0 m0 _ row w2 (by have := HNM.out; omega) (by have := HNM.out; omega) (by have := HNM.out; omega) (by have := HNM.out; omega) HV2.out (by have := HRL.out; omega)).mono ?_
            rintro ev w3 ⟨u3, rfl, hu3, hb3⟩
            rw [HRM.out, if_pos HR1.out] at hu3
            rw [HR1.out]
            have HU2 := Lib.hid (HU2.out.below hb3)
            obtain ⟨_, a3, c3, rfl, hu3'⟩ := hu3
            have HU3 := Lib.hid (show slc w3 1 (.slice a3 m0 c3) m0 (u32V RM) from ⟨by assumption, a3, c3, rfl, hu3'⟩)
            have HB3 := Lib.hid (HB2.out.trans (hb3.mono HB2.out.size))
            generalize (rrA (List.replicate n0 []) (List.replicate m0 0) row 0).1 = zz at *
            clear hu3' hb3 HR1 HB2 HV2
            go_wp2_with fail
            refine (sameU_c RM RM _ _ w3 (by rw [HRML.out]; exact HU2.out) (by rw [HRML.out]; exact HU3.out) (by rw [HRML.out]; have := HNM.out; omega) (by rw [HRML.out]; have := HNM.out; omega)).mono ?_
            rintro ev w4 ⟨rfl, hb4⟩
            rw [decide_eq_true (rfl : RM = RM)]
            have HB4 := Lib.hid (HB3.out.trans (hb4.mono HB3.out.size))
            clear hb4
            go_wp2_with fail
            refine (tsoRuns A _ (HS.out.below HB4.out)).mono ?_
            rintro ev w5 ⟨rfl, hb5⟩
            go_wp2_with fail
            go_ret
            exact ⟨rfl, HB4.out.trans (hb5.mono HB4.out.size)⟩
          · have hu2 : u2 = .slice none 0 0 := hu2
            subst hu2
            have HR1 := Lib.hid hr1
            have HC := Lib.hid hr2
            clear hr1 hr2
            rw [show (ErrT.wrap trT at_ (.wrap tsT co (.sent cc))).val A = .iface 78 (.agg #[.string trT, .int .i64 at_, .iface 78 (.agg #[.string tsT, .int .i64 co, .iface 129 (.pointer (some (A cc)))])]) from rfl]
            go_wp2_with fail
            refine (rreplay_c n0 m0 _ row w2 (by have := HNM.out; omega) (by have := HNM.out; omega) (by have := HNM.out; omega) (by have := HNM.out; omega) HV2.out (by have := HRL.out; omega)).mono ?_
            rintro ev w3 ⟨u3, rfl, hu3, hb3⟩
            rw [HR1.out] at hu3 ⊢
            have hu3 : u3 = .slice none 0 0 := by simpa using hu3
            subst hu3
            obtain ⟨cd, hcd⟩ : ∃ cd : Int, ((cc + 1 : Nat) : Int) = cd := ⟨_, rfl⟩
            simp only [hcd]
            have HCD := Lib.hid hcd
            have g7 : decide (cd = 0) = false := by simp; omega
            have g8 : (cd == 0) = false := by simp; omega
            have HB3 := Lib.hid (HB2.out.trans (hb3.mono HB2.out.size))
            clear hcd hb3 HR1 HB2 HV2
            go_wp2_with fail
            refine (mnew_ok n0 m0 w3 (by have := HNM.out; omega) (by have := HNM.out; omega) (by have := HNM.out; omega) (by have := HNM.out; omega)).mono ?_
            rintro ev w4 ⟨b4, rfl, _, hb4⟩
            have HB4 := Lib.hid (HB3.out.trans (hb4.mono HB3.out.size))
            clear hb4
            go_wp2_with fail
            change Calls Tryd.prog _ #[(ErrT.wrap trT at_ (.wrap tsT co (.sent cc))).val A, .int .i64 cd, .string trT, .int .i64 at_] _ _
            refine (is_c A (.wrap trT at_ (.wrap tsT co (.sent cc))) cd trT at_ w4 (HS.out.below HB4.out) ⟨rfl, rfl, show cc < 10 by have := HC.out; omega⟩ (by have := HCD.out; omega) (by have := HCD.out; have := HC.out; omega)).mono ?_
            rintro ev w5 ⟨rfl, hb5⟩
            rw [show isK (.wrap trT at_ (.wrap tsT co (.sent cc))) cd trT at_ = true by rw [← HCD.out]; exact isK_rr cc co at_]
            have HB5 := Lib.hid (HB4.out.trans (hb5.mono HB4.out.size))
            clear hb5
            go_wp2_with fail
            change Calls Tryd.prog _ #[(ErrT.wrap trT at_ (.wrap tsT co (.sent cc))).val A, .int .i64 cd] _ _
            refine (only_c A (.wrap trT at_ (.wrap tsT co (.sent cc))) cd w5 (HS.out.below HB5.out) ⟨rfl, rfl, show cc < 10 by have := HC.out; omega⟩ (by have := HCD.out; omega) (by have := HCD.out; have := HC.out; omega)).mono ?_
            rintro ev w6 ⟨rfl, hb6⟩
            rw [show onlyK (.wrap trT at_ (.wrap tsT co (.sent cc))) cd = true by rw [← HCD.out]; exact onlyK_rr cc co at_]
            have HB6 := Lib.hid (HB5.out.trans (hb6.mono HB5.out.size))
            clear hb6
            go_wp2_with fail
            refine (tsoRuns A _ (HS.out.below HB6.out)).mono ?_
            rintro ev w7 ⟨rfl, hb7⟩
            go_wp2_with fail
            go_ret
            exact ⟨rfl, HB6.out.trans (hb7.mono HB6.out.size)⟩
    · go_enter Tryd.func4, Tryd.ntmps4
      go_wp2_with fail
      refine (mnew_bad z0 z1 w hok).mono ?_
      rintro ev w' ⟨rfl, hww⟩
      obtain rfl := hww
      go_wp2_with fail
      refine (treplay_bad A z0 z1 _ w HS.out hok).mono ?_
      rintro ev w' ⟨rfl, hww⟩
      obtain rfl := hww
      have HE := Lib.hid (show ∃ i, tnewE z0 z1 = .wrap tnT i (.sent 0) by unfold tnewE; rw [if_neg hok]; exact ⟨_, rfl⟩)
      obtain ⟨ie, hie⟩ := HE.out
      rw [hie, show (ErrT.wrap tnT ie (.sent 0)).val A = .iface 78 (.agg #[.string tnT, .int .i64 ie, .iface 129 (.pointer (some (A 0)))]) from rfl]
      clear hie
      go_wp2_with fail
      refine (rreplay_bad z0 z1 _ w hok).mono ?_
      rintro ev w' ⟨rfl, hww⟩
      obtain rfl := hww
      go_wp2_with fail
      refine (mnew_bad z0 z1 w hok).mono ?_
      rintro ev w' ⟨rfl, hww⟩
      obtain rfl := hww
      go_wp2_with fail
      change Calls Tryd.prog _ #[(ErrT.wrap tnT ie (.sent 0)).val A, .int .i64 (1 : Int)] _ _
      refine (only_c A (.wrap tnT ie (.sent 0)) 1 w HS.out ⟨rfl, show (0 : Nat) < 10 by omega⟩ (by omega) (by omega)).mono ?_
      rintro ev w3 ⟨rfl, hb3⟩
      rw [show onlyK (.wrap tnT ie (.sent 0)) 1 = true by rfl]
      have HB3 := Lib.hid hb3
      clear hb3
      go_wp2_with fail
      refine (tsoRuns A _ (HS.out.below HB3.out)).mono ?_
      rintro ev w4 ⟨rfl, hb4⟩
      go_wp2_with fail
      go_ret
      exact ⟨rfl, HB3.out.trans (hb4.mono HB3.out.size)⟩

theorem tsoReplays (A : Nat → Addr) (z0 z1 : Int) (v2 : Value) (n : Nat) (l : List Ev) (v3 : Value) (n3 : Nat) (gb : Nat → Bool) (w : World) (hs : SentAt w A) (_h0 : -9223372036854775808 ≤ z0 ∧ z0 ≤ 9223372036854775807) (_h1 : -9223372036854775808 ≤ z1 ∧ z1 ≤ 9223372036854775807) (h2 : EvsAt w v2 n l) (h3 : BoolsAt w v3 n3 gb) :
    Calls Tryd.prog 4 #[.int .i64 z0, .int .i64 z1, v2, v3] w (TruePost w) := by
  obtain ⟨_, p, c, rfl, hc⟩ := h2.sl
  have hnc := h2.cap _ _ _ rfl
  have hl := h2.len
  by_cases hn : 60 < n
  · refine replays A z0 z1 p n c v3 n3 gb w hs 60 (by rw [if_pos hn]) hnc (l.take 60) (by rw [List.length_take]; omega) ⟨by rw [flatE_length, List.length_take]; omega, p, c, rfl, fun _ => ?_⟩ h3
    obtain ⟨b, off, h1, h2, h4⟩ := hc (by omega)
    refine ⟨b, off, h1, h2, fun j u hj => h4 j u ?_⟩
    rw [← List.take_append_drop 60 l, flatE_append, List.getElem?_append_left (List.getElem?_eq_some_iff.1 hj).1]
    exact hj
  · exact replays A z0 z1 p n c v3 n3 gb w hs n (by rw [if_neg hn]) hnc l hl h2.sl h3

end Go.Proofs.YtamklohnmbgklaaDoor
