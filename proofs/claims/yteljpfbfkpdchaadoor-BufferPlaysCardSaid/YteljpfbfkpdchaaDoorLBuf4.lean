/- BufferOrder: true; no condition but what a start gives. -/
import Derived.Test.YteljpfbfkpdchaaDoorLBuf1
import Derived.Test.YteljpfbfkpdchaaDoorBuf4
import Derived.Test.YteljpfbfkpdchaaDoorBk
import Derived.Test.YteljpfbfkpdchaaDoorIntsU
namespace Go.Proofs.YteljpfbfkpdchaaDoor
open Go.RowKit Go.Extern.Stop Go.Stop Go.Extern

/-- A window less its first element. -/
theorem winRow.tail {w : World} {base : Nat} {e : TypeId} {g off m cap : Nat} {x y : Value} {xs : List Value} (h : winRow w base e 2 (.slice (some ⟨g, off, none⟩) (m + 1) cap) (m + 1) (x :: y :: xs)) : winRow w base e 2 (.slice (some ⟨g, off + 2, none⟩) m (cap - 1)) m xs := by
  obtain ⟨h1, h2⟩ := h
  refine ⟨by simp only [List.length_cons] at h1; omega, ?_⟩
  rcases h2 with ⟨h2, _⟩ | ⟨g', off', cap', cur, hv, hb, hg, hn, hm, hs, hx⟩
  · cases h2
  · simp only [Value.slice.injEq, Option.some.injEq, Addr.mk.injEq] at hv
    obtain ⟨⟨rfl, rfl, _⟩, _, rfl⟩ := hv
    refine .inr ⟨g, off + 2, cap - 1, cur, rfl, hb, hg, by omega, by omega, by omega, ?_⟩
    have := congrArg (List.drop 2) hx
    rw [List.drop_take, List.drop_drop] at this
    simpa [show (m + 1) * 2 - 2 = m * 2 by omega] using this
theorem winRow.none {w : World} {base : Nat} {e : TypeId} {size g off : Nat} {v : Value} {n : Nat} {xs : List Value} (h : winRow w base e size v n xs) (hv : v.ownBlock = some g) {cap : Nat} (hs : v = .slice (some ⟨g, off, none⟩) n cap) : winRow w base e size (.slice (some ⟨g, off, none⟩) 0 0) 0 [] := by
  subst hs
  rcases h.2 with ⟨h2, _⟩ | ⟨g', off', cap', cur, hv', hb, hg, hn, hm, hsz, hx⟩
  · cases h2
  · simp only [Value.slice.injEq, Option.some.injEq, Addr.mk.injEq] at hv'
    obtain ⟨⟨rfl, rfl, _⟩, _, rfl⟩ := hv'
    exact ⟨by simp, .inr ⟨g, off, 0, cur, rfl, hb, hg, Nat.le_refl _, Nat.zero_le _, by omega, by simp⟩⟩

/-- Where the law's own list and the buffer stand. -/
structure OrdAt (w wr : World) (n : Int) (vb s : Value) (L : List (Int × Int)) : Prop where
  buf : BufAt wr w.heap.size vb n L
  len : (L.length : Int) ≤ n
  row : winRow wr (w.heap.size + 1) 32 2 s L.length (flatW L)
  dis : ∀ g, s.ownBlock = some g → vb.ownBlock ≠ some g
  bel : Below w.heap.size w wr
theorem OrdAt.below {w wr wq : World} {n : Int} {vb s : Value} {L : List (Int × Int)} (h : OrdAt w wr n vb s L) (hb : Below wr.heap.size wr wq) : OrdAt w wq n vb s L :=
  ⟨h.buf.below hb, h.len, h.row.below hb, h.dis, h.bel.trans (hb.mono h.bel.size)⟩
/-- Both have taken one more. -/
theorem OrdAt.more {w w6 w7 w8 : World} {n a x : Int} {vb2 vb3 s2 : Value} {L : List (Int × Int)} {o : Obj} {g off cap : Nat} (h : OrdAt w w6 n vb2 s2 L) (hlt : (L.length : Int) < n) (hA : BufAt w7 w.heap.size vb3 n (L ++ [(a, x)])) (hM : Mods (bufS w.heap.size vb2) w6 w7)
    (hO : ∀ g, vb3.ownBlock = some g → vb2.ownBlock = some g ∨ w6.heap.size ≤ g) (hrow : winRow w8 (w.heap.size + 1) 32 2 (.slice (some ⟨g, off, none⟩) (L.length + 1) cap) (L.length + 1) (flatW L ++ flatW [(a, x)]))
    (hgrow : (w7.alloc o).grownBy w8 s2.ownBlock) (hat : s2.ownBlock = some g ∨ g = (w7.alloc o).heap.size) : OrdAt w w8 n vb3 (.slice (some ⟨g, off, none⟩) (L ++ [(a, x)]).length cap) (L ++ [(a, x)]) := by
  have hsd : ∀ q, s2.ownBlock = some q → vb3.ownBlock ≠ some q := fun q hq e => by
    have h1 := (h.row.lt q hq).2
    rcases hO q e with h2 | h2
    · exact h.dis q hq h2
    · omega
  have hsz := hA.lt
  have hz : (w7.alloc o).heap.size = w7.heap.size + 1 := by simp
  have hall : Below w7.heap.size w7 (w7.alloc o) := (Below.refl _ _).alloc (Nat.le_refl _) _
  have hA2 := hA.below hall
  have hB7 : Below w.heap.size w w7 := h.bel.trans (h.buf.mods_below hM (Nat.le_refl _))
  have hlen : (L ++ [(a, x)]).length = L.length + 1 := by simp
  refine ⟨hA2.keep (S := fun k => s2.ownBlock = some k) (Mods.grown hgrow fun k hk => hk) (fun hk => ?_) fun q hq hk => hsd q hk hq, by rw [hlen]; omega, ?_, fun q hq => ?_, ?_⟩
  · have := (h.row.lt _ hk).1
    omega
  · rw [hlen, flatW_append]
    exact hrow
  · simp only [Value.ownBlock, Option.some.injEq] at hq
    subst hq
    rcases hat with h1 | h1
    · exact hsd _ h1
    · intro e
      have := (hA.row.lt _ e).2
      omega
  · exact (hB7.trans (hall.mono hB7.size)).grown hgrow (by have := hB7.size; omega) fun k hk => by have := (h.row.lt k hk).1; omega

set_option maxRecDepth 100000 in
set_option maxHeartbeats 8000000 in
theorem bufferOrder (A : Nat → Addr) (z0 : Int) (v1 : Value) (n1 : Nat) (g : Nat → Int) (v2 : Value) (n2 : Nat) (gu : Nat → Int) (w : World) (hs : SentAt w A) (b0 : -9223372036854775808 ≤ z0 ∧ z0 ≤ 9223372036854775807) (h1 : IntsAt .i64 w v1 n1 g) (h2 : IntsAt .u32 w v2 n2 gu) :
    Calls Tryd.prog 5 #[.int .i64 z0, v1, v2] w (TruePost w) := by
  obtain ⟨i0, hi0, hi1⟩ := Option.map_eq_some_iff.1 nInfoW
  simp only [Prod.mk.injEq] at hi1
  obtain ⟨hz0, hz1, hz2⟩ := hi1
  have HI := Lib.hid hi0
  have HZ0 := Lib.hid hz0
  have HZ1 := Lib.hid hz1
  have HZ2 := Lib.hid hz2
  clear hi0 hz0 hz1 hz2
  obtain ⟨p1, cap01, rfl, hel⟩ := h1.form
  obtain ⟨p2, cap02, rfl, hel2⟩ := h2.form
  have HEL := Lib.hid hel
  have HEL2 := Lib.hid hel2
  have HNUM := Lib.hid h1.num
  have hn1 := h1.len
  have hn2 := h2.len
  unfold maxLen at hn1 hn2
  clear hel hel2 h1 h2
  go_enter Tryd.func5, Tryd.ntmps5
  go_wp2_with fail
  refine (Within_b z0 1 8 _ (by omega) (by omega) (by omega) b0.1 b0.2).mono ?_
  rintro ev w' ⟨rfl, rfl⟩
  have hn := wiF_b (n := z0) (lo := 1) (hi := 8) (by omega)
  generalize wiF z0 1 8 = n at hn ⊢
  go_wp2_with fail
  refine (bnew_ok n _ (by omega) (by omega)).mono ?_
  rintro ev w1 ⟨rfl, hA1, hB1⟩
  have HS := Lib.hid hs
  clear hs
  go_wp2_with fail
  go_loopw [10, 11] (fun s10 s11 wr => ∃ (i : Nat) (vb : Value) (L : List (Int × Int)), i ≤ 40 ∧ s11 = .int .i64 i ∧ OrdAt w wr n vb s10 L) (fun _ s11 _ => 40 - (intOf s11).toNat)
  case atStart => exact ⟨0, _, [], by omega, rfl, ⟨hA1, by simp; omega, winRow_nil .., fun q hq => by simp [Value.ownBlock] at hq, hB1⟩⟩
  case round =>
    clear hA1 hB1
    obtain ⟨i, vb, L, hi, rfl, hO⟩ := hrel
    have HO := Lib.hid hO
    have hL8 : L.length ≤ 8 := by have := hO.len; omega
    clear hO
    by_cases hi1 : i < n1
    · by_cases hi2 : i < n2
      · by_cases hi40 : i < 40
        · obtain ⟨ba, oa, rfl, hba, hca⟩ := HEL.out i hi1
          obtain ⟨bb, ob, rfl, hbb, hcb⟩ := HEL2.out i hi2
          have HBD := Lib.hid (Go.bounds_i64 (HNUM.out i hi1))
          have hca := (HO.out.bel.cell (p := ⟨ba, _, none⟩) hba).trans hca
          have HCB := Lib.hid hcb
          generalize gu i = x at *
          clear hcb
          by_cases hfull : (L.length : Int) = n
          · cases L with
            | nil => exact absurd hfull (by simp; omega)
            | cons y L =>
              obtain ⟨y1, y2⟩ := y
              obtain ⟨gs, os, caps, hse, hcaps, _, hgs, hcs⟩ := HO.out.row.form (by simp)
              have hc0 := hcs 0 (.int .i64 y1) rfl
              have hc1 := hcs 1 (.int .u32 y2) rfl
              rw [Nat.add_zero] at hc0
              have HSE := Lib.hid hse
              subst hse
              clear hcs
              have hdg := HO.out.dis gs rfl
              have hgb : gs ≠ w.heap.size := by have := (HO.out.row.lt gs rfl).1; omega
              have hg1 : ((L.length : Int) + 1 == n) = true := by simpa using hfull
              have HG1 := Lib.hid hg1
              clear hfull hg1
              go_wp2_with fail
              refine (Within_b (g i) 0 7 _ (by omega) (by omega) (by omega) HBD.out.1 HBD.out.2).mono ?_
              rintro ev w' ⟨rfl, rfl⟩
              have ha := wiF_b (n := g i) (lo := 0) (hi := 7) (by omega)
              generalize wiF (g i) 0 7 = a at ha ⊢
              clear hca
              have hg1 := HG1.out
              go_wp2_with fail
              clear hg1
              refine (bhead_c w.heap.size vb n _ wr HO.out.buf (by simp only [List.length_cons] at hL8 ⊢; omega)).mono ?_
              rintro ev w2 ⟨rfl, hb2⟩
              rw [show headV ((y1, y2) :: L) = .agg #[.int .i64 y1, .int .u32 y2] from rfl, show decide (0 < ((y1, y2) :: L).length) = true by simp]
              go_wp2_with fail
              have hb3 : Below wr.heap.size wr (w2.alloc (.cells #[.int .i64 y1, .int .u32 y2] 32)) := hb2.trans ((Below.refl _ _).alloc hb2.size _)
              have hX3 := heap_alloc_new w2 (.cells #[.int .i64 y1, .int .u32 y2] 32)
              have hw2 := hb2.size
              generalize w2.alloc (.cells #[.int .i64 y1, .int .u32 y2] 32) = w3 at hb3 hX3 ⊢
              have hl3 := (Array.getElem?_eq_some_iff.1 hX3).1
              have hlb := HO.out.buf.lt
              have hvb : ∀ q, vb.ownBlock = some q → q < wr.heap.size := fun q hq => (HO.out.buf.row.lt q hq).2
              have d0 := cell_of hX3 0
              have d1 := cell_of hX3 1
              simp only [List.getElem?_toArray, List.getElem?_cons_zero, List.getElem?_cons_succ] at d0 d1
              have e0 := (hb3.cell (p := ⟨gs, os, none⟩) hgs).trans hc0
              have e1 := (hb3.cell (p := ⟨gs, os + 1, none⟩) hgs).trans hc1
              refine wp_region_lexA ⟨[], []⟩ (fun x => Mods (bufS w.heap.size vb) w3 x) (by kernel_rfl) (by kernel_rfl) (Mods.refl _ _).drew ?_
              intro S hto hof hne
              have n1' : ¬ bufS w.heap.size vb w2.heap.size := fun h => by
                rcases h with h | h
                · omega
                · have := hvb _ h
                  omega
              have n2' : ¬ bufS w.heap.size vb gs := fun h => by
                rcases h with h | h
                · exact hgb h
                · exact hdg h
              have hgs3 : gs < w3.heap.size := Nat.lt_of_lt_of_le hgs hb3.size
              have x0 : ∀ z : Wd S, z.w.cell? ⟨w2.heap.size, 0, none⟩ = some (.int .i64 y1) := fun z => ((hto z).cell (p := ⟨w2.heap.size, 0, none⟩) hl3 n1').trans d0
              have x1 : ∀ z : Wd S, z.w.cell? ⟨w2.heap.size, 1, none⟩ = some (.int .u32 y2) := fun z => ((hto z).cell (p := ⟨w2.heap.size, 1, none⟩) hl3 n1').trans d1
              have x2 : ∀ z : Wd S, z.w.cell? ⟨gs, os, none⟩ = some (.int .i64 y1) := fun z => ((hto z).cell (p := ⟨gs, os, none⟩) hgs3 n2').trans e0
              have x3 : ∀ z : Wd S, z.w.cell? ⟨gs, os + 1, none⟩ = some (.int .u32 y2) := fun z => ((hto z).cell (p := ⟨gs, os + 1, none⟩) hgs3 n2').trans e1
              have Hof := Lib.hid hof
              have HO3 := Lib.hid (HO.out.below hb3)
              clear hto hof d0 d1 e0 e1 hX3 hl3 hb2 hb3 hc0 hc1 n1' hvb hw2
              refine lexW_light 11 (by kernel_rfl) ?_
              simp only [List.take_succ_cons, List.take_zero, List.drop_succ_cons, List.drop_zero]
              repeat (first | go_big_quiet_skip | (go_big_quiet_want; go_big_quiet_op; go_big_quiet_on))
              refine wpQuiet_nil ?_
              refine lexW_heavy (by kernel_rfl) ?_
              go_wp2_with fail
              refine (bpop_c w.heap.size vb n _ _ (HO3.out.buf.below (Below.refl _ _).drew) (by simp only [List.length_cons] at hL8 ⊢; omega)).mono ?_
              rintro ev w6 ⟨rfl, vb2, hA6, hM6, hO6⟩
              rw [show decide (0 < ((y1, y2) :: L).length) = true by simp]
              have hM6 : Mods (bufS w.heap.size vb) w3 w6 := ((Mods.refl (bufS w.heap.size vb) w3).drew).trans hM6 fun k _ h => h
              have hO6 : ∀ q, vb2.ownBlock = some q → vb.ownBlock = some q ∨ w3.heap.size ≤ q := hO6
              go_wp2_with fail
              refine lexQ_more (Hof.out _ hM6) ?_
              refine lexW_light 2 (by kernel_rfl) ?_
              simp only [List.take_succ_cons, List.take_zero, List.drop_succ_cons, List.drop_zero]
              repeat (first | go_big_quiet_skip | (go_big_quiet_want; go_big_quiet_op; go_big_quiet_on))
              refine wpQuiet_nil ?_
              refine lexW_done ?_
              clear x0 x1 x2 x3
              have hrow6 : winRow w6 (w.heap.size + 1) 32 2 (.slice (some ⟨gs, os, none⟩) (L.length + 1) caps) (L.length + 1) (.int .i64 y1 :: .int .u32 y2 :: flatW L) := HO3.out.row.keep fun q hq => hM6.block q (HO3.out.row.lt q hq).2 (by simp only [Value.ownBlock, Option.some.injEq] at hq; subst hq; exact n2')
              have hB6 := HO3.out.bel.trans (HO3.out.buf.mods_below hM6 (Nat.le_refl _))
              have hdis6 : vb2.ownBlock ≠ some gs := fun e => by
                rcases hO6 gs e with h | h
                · exact hdg h
                · omega
              have hlt6 : (L.length : Int) < n := by have := HO.out.len; simp only [List.length_cons] at this; omega
              have hL7 : L.length ≤ 8 := by simp only [List.length_cons] at hL8; omega
              simp only [List.drop_succ_cons, List.drop_zero] at hA6
              have hcb6 := (hB6.cell (p := ⟨bb, _, none⟩) hbb).trans HCB.out
              have hcapL : L.length + 1 ≤ caps := hcaps
              have HROW := Lib.hid hrow6
              have HA6 := Lib.hid hA6
              have HB6 := Lib.hid hB6
              clear hrow6 hA6 hB6 hO6 hM6 n2' HO3 HO HSE
              by_cases hcap1 : caps = 1
              · subst hcap1
                have hL0 : L.length = 0 := by omega
                obtain rfl : L = [] := List.eq_nil_of_length_eq_zero hL0
                have HT := Lib.hid (OrdAt.mk (s := .slice (some ⟨gs, os, none⟩) 0 0) (L := []) HA6.out (by simp; omega) (HROW.out.none rfl rfl) (fun q hq e => hdis6 (by simp only [Value.ownBlock, Option.some.injEq] at hq; rw [hq]; exact e)) HB6.out)
                go_wp2_with fail
                refine (bpush_ok A w.heap.size vb2 n a x ([] : List (Int × Int)) _ HT.out.buf (by omega) (by first | omega | (simp only [List.length_nil]; omega)) (by first | omega | (simp only [List.length_nil]; omega))).mono ?_
                rintro ev w7 ⟨rfl, vb3, hA7, hM7, hO7⟩
                have hB7 := HT.out.bel.trans (HT.out.buf.mods_below hM7 (Nat.le_refl _))
                have hcb7 := (hB7.cell (p := ⟨bb, _, none⟩) hbb).trans HCB.out
                have hrow7 := HT.out.row.keep (w' := w7) fun q hq => hM7.block q (HT.out.row.lt q hq).2 fun h => by
                  rcases h with h | h
                  · have := (HT.out.row.lt q hq).1
                    omega
                  · exact HT.out.dis q hq h
                have HR7 := Lib.hid hrow7
                have HA7 := Lib.hid hA7
                have HM7 := Lib.hid hM7
                have HO7 := Lib.hid hO7
                clear hrow7 hA7 hM7 hO7 hcb6
                have hs7 := hB7.size
                go_wp2_with (at_builtin; refine wpList_append_win _ rfl _ _ 47 rfl (w.heap.size + 1) 32 i0 (.agg #[.int .i64 0, .int .u32 0]) 2 16 Tryd.underlying47 HI.out HZ0.out HZ1.out HZ2.out rfl (by decide) _ _ _ rfl (HR7.out.below ((Below.refl _ _).alloc (Nat.le_refl _) _)) ⟨w7.heap.size, 0, none⟩ 1 1 (flatW [(a, x)]) rfl rfl (by exact cells_new w7 [_, _] _) (flatW_one _) (by omega) (by unfold maxLen; first | omega | (simp only [List.length_nil]; omega)) (by first | omega | (simp only [List.length_nil]; omega)) (by have := HA7.out.lt; simp; omega) ?_; intro g8 off8 cap8 w8 hrow8 hgrow8 hat8 hlt8)
                have HN := Lib.hid (HT.out.more (by first | omega | (simp only [List.length_nil]; omega)) HA7.out HM7.out HO7.out hrow8 hgrow8 hat8)
                have hlen3 : (([] : List (Int × Int)) ++ [(a, x)]).length = ([] : List (Int × Int)).length + 1 := by simp
                have hlen9 : (([] : List (Int × Int)) ++ [(a, x)]).length ≤ 9 := by rw [hlen3]; first | omega | (simp only [List.length_nil]; omega)
                clear hrow8 hgrow8 hat8 hlt8 hcb7 hs7 hB7 HR7 HA7 HM7 HO7 HT
                rw [show Value.slice (some ⟨g8, off8, none⟩) (1) cap8 = Value.slice (some ⟨g8, off8, none⟩) (([] : List (Int × Int)) ++ [(a, x)]).length cap8 by simp]
                clear hlen3
                generalize ([] : List (Int × Int)) ++ [(a, x)] = L3 at *
                go_loopw [15] (fun s15 wr => ∃ k : Nat, k ≤ 8 ∧ s15 = .int .i64 k ∧ OrdAt w wr n vb3 (.slice (some ⟨g8, off8, none⟩) L3.length cap8) L3) (fun s15 _ => 8 - (intOf s15).toNat)
                case atStart => exact ⟨0, by omega, rfl, HN.out⟩
                case round =>
                  obtain ⟨k, hk8, rfl, hO⟩ := hrel
                  have HK := Lib.hid hO
                  clear hO
                  rename_i wk _ _
                  by_cases hk : k < 8
                  · go_wp2_with fail
                    go_loopw [16, 17, 104] (fun s16 s17 s104 wq => ∃ m : Nat, m ≤ L3.length ∧ s104 = .int .i64 m ∧ s16 = .int .u32 ((fwdF (L3.take m) k).getD 0) ∧ s17 = .bool (fwdF (L3.take m) k).isSome ∧ OrdAt w wq n vb3 (.slice (some ⟨g8, off8, none⟩) L3.length cap8) L3) (fun _ _ s104 _ => L3.length - (intOf s104).toNat)
                    case atStart => exact ⟨0, by omega, rfl, rfl, rfl, HK.out⟩
                    case round =>
                      obtain ⟨m, hm, rfl, rfl, rfl, hO⟩ := hrel
                      have HQ := Lib.hid hO
                      clear hO
                      by_cases hml : m < L3.length
                      · have hkl : L3[m]? = some L3[m] := List.getElem?_eq_getElem hml
                        obtain ⟨g9, off9, cap9, he, _, _, hg9, hc9⟩ := HQ.out.row.form (by omega)
                        simp only [Value.slice.injEq, Option.some.injEq, Addr.mk.injEq] at he
                        obtain ⟨⟨rfl, rfl, _⟩, _, rfl⟩ := he
                        have e1 := hc9 _ _ (flatW_at hkl).1
                        have e2 := hc9 _ _ (flatW_at hkl).2
                        have hft := fwd_take (k : Int) hkl
                        have HFT := Lib.hid hft
                        clear hkl hc9 hft
                        generalize L3[m] = y9 at *
                        obtain ⟨u1, u2⟩ := y9
                        simp only at e1 e2
                        rw [Nat.mul_comm 2 m] at e1 e2
                        rw [← Nat.add_assoc] at e2
                        have hfr := HFT.out
                        by_cases hy : u1 = (k : Int)
                        · have hyb : (u1 == (k : Int)) = true := by simpa using hy
                          rw [if_pos hy] at hfr
                          have HFR := Lib.hid hfr
                          clear hy hfr
                          generalize fwdF (L3.take m) k = fo at *
                          go_wp2_with fail
                          go_roundw
                          case measure => simp [intOf]; omega
                          case rel => exact ⟨m + 1, by omega, by go_num, by rw [HFR.out]; rfl, by rw [HFR.out]; rfl, HQ.out.below ((Below.refl _ _).alloc (Nat.le_refl _) _)⟩
                        · have hyb : (u1 == (k : Int)) = false := by simpa using hy
                          rw [if_neg hy] at hfr
                          have HFR := Lib.hid hfr
                          clear hy hfr
                          generalize fwdF (L3.take m) k = fo at *
                          go_wp2_with fail
                          go_roundw
                          case measure => simp [intOf]; omega
                          case rel => exact ⟨m + 1, by omega, by go_num, by rw [HFR.out], by rw [HFR.out], HQ.out.below ((Below.refl _ _).alloc (Nat.le_refl _) _)⟩
                      · have hm' : m = L3.length := by omega
                        subst hm'
                        rw [List.take_length]
                        go_wp2_with fail
                        refine (bforward_c w.heap.size vb3 n (k : Int) L3 _ HQ.out.buf (by omega)).mono ?_
                        rintro ev w' ⟨rfl, hww⟩
                        obtain rfl := hww
                        go_wp2_with fail
                        go_roundw
                        case measure => simp [intOf]; omega
                        case rel => exact ⟨k + 1, by omega, by go_num, HQ.out⟩
                  · go_wp2_with fail
                    go_roundw
                    case measure => simp [intOf]; omega
                    case rel => exact ⟨i + 1, vb3, L3, by omega, by go_num, HK.out⟩
              · have HT := Lib.hid (OrdAt.mk (s := .slice (some ⟨gs, os + 2, none⟩) L.length (caps - 1)) (L := L) HA6.out (by omega) HROW.out.tail (fun q hq e => hdis6 (by simp only [Value.ownBlock, Option.some.injEq] at hq; rw [hq]; exact e)) HB6.out)
                go_wp2_with fail
                refine (bpush_ok A w.heap.size vb2 n a x L _ HT.out.buf (by omega) (by first | omega | (simp only [List.length_nil]; omega)) (by first | omega | (simp only [List.length_nil]; omega))).mono ?_
                rintro ev w7 ⟨rfl, vb3, hA7, hM7, hO7⟩
                have hB7 := HT.out.bel.trans (HT.out.buf.mods_below hM7 (Nat.le_refl _))
                have hcb7 := (hB7.cell (p := ⟨bb, _, none⟩) hbb).trans HCB.out
                have hrow7 := HT.out.row.keep (w' := w7) fun q hq => hM7.block q (HT.out.row.lt q hq).2 fun h => by
                  rcases h with h | h
                  · have := (HT.out.row.lt q hq).1
                    omega
                  · exact HT.out.dis q hq h
                have HR7 := Lib.hid hrow7
                have HA7 := Lib.hid hA7
                have HM7 := Lib.hid hM7
                have HO7 := Lib.hid hO7
                clear hrow7 hA7 hM7 hO7 hcb6
                have hs7 := hB7.size
                go_wp2_with (at_builtin; refine wpList_append_win _ rfl _ _ 47 rfl (w.heap.size + 1) 32 i0 (.agg #[.int .i64 0, .int .u32 0]) 2 16 Tryd.underlying47 HI.out HZ0.out HZ1.out HZ2.out rfl (by decide) _ _ _ rfl (HR7.out.below ((Below.refl _ _).alloc (Nat.le_refl _) _)) ⟨w7.heap.size, 0, none⟩ 1 1 (flatW [(a, x)]) rfl rfl (by exact cells_new w7 [_, _] _) (flatW_one _) (by omega) (by unfold maxLen; first | omega | (simp only [List.length_nil]; omega)) (by first | omega | (simp only [List.length_nil]; omega)) (by have := HA7.out.lt; simp; omega) ?_; intro g8 off8 cap8 w8 hrow8 hgrow8 hat8 hlt8)
                have HN := Lib.hid (HT.out.more (by first | omega | (simp only [List.length_nil]; omega)) HA7.out HM7.out HO7.out hrow8 hgrow8 hat8)
                have hlen3 : (L ++ [(a, x)]).length = L.length + 1 := by simp
                have hlen9 : (L ++ [(a, x)]).length ≤ 9 := by rw [hlen3]; first | omega | (simp only [List.length_nil]; omega)
                clear hrow8 hgrow8 hat8 hlt8 hcb7 hs7 hB7 HR7 HA7 HM7 HO7 HT
                rw [show Value.slice (some ⟨g8, off8, none⟩) (L.length + 1) cap8 = Value.slice (some ⟨g8, off8, none⟩) (L ++ [(a, x)]).length cap8 by simp]
                clear hlen3
                generalize L ++ [(a, x)] = L3 at *
                go_loopw [15] (fun s15 wr => ∃ k : Nat, k ≤ 8 ∧ s15 = .int .i64 k ∧ OrdAt w wr n vb3 (.slice (some ⟨g8, off8, none⟩) L3.length cap8) L3) (fun s15 _ => 8 - (intOf s15).toNat)
                case atStart => exact ⟨0, by omega, rfl, HN.out⟩
                case round =>
                  obtain ⟨k, hk8, rfl, hO⟩ := hrel
                  have HK := Lib.hid hO
                  clear hO
                  rename_i wk _ _
                  by_cases hk : k < 8
                  · go_wp2_with fail
                    go_loopw [16, 17, 104] (fun s16 s17 s104 wq => ∃ m : Nat, m ≤ L3.length ∧ s104 = .int .i64 m ∧ s16 = .int .u32 ((fwdF (L3.take m) k).getD 0) ∧ s17 = .bool (fwdF (L3.take m) k).isSome ∧ OrdAt w wq n vb3 (.slice (some ⟨g8, off8, none⟩) L3.length cap8) L3) (fun _ _ s104 _ => L3.length - (intOf s104).toNat)
                    case atStart => exact ⟨0, by omega, rfl, rfl, rfl, HK.out⟩
                    case round =>
                      obtain ⟨m, hm, rfl, rfl, rfl, hO⟩ := hrel
                      have HQ := Lib.hid hO
                      clear hO
                      by_cases hml : m < L3.length
                      · have hkl : L3[m]? = some L3[m] := List.getElem?_eq_getElem hml
                        obtain ⟨g9, off9, cap9, he, _, _, hg9, hc9⟩ := HQ.out.row.form (by omega)
                        simp only [Value.slice.injEq, Option.some.injEq, Addr.mk.injEq] at he
                        obtain ⟨⟨rfl, rfl, _⟩, _, rfl⟩ := he
                        have e1 := hc9 _ _ (flatW_at hkl).1
                        have e2 := hc9 _ _ (flatW_at hkl).2
                        have hft := fwd_take (k : Int) hkl
                        have HFT := Lib.hid hft
                        clear hkl hc9 hft
                        generalize L3[m] = y9 at *
                        obtain ⟨u1, u2⟩ := y9
                        simp only at e1 e2
                        rw [Nat.mul_comm 2 m] at e1 e2
                        rw [← Nat.add_assoc] at e2
                        have hfr := HFT.out
                        by_cases hy : u1 = (k : Int)
                        · have hyb : (u1 == (k : Int)) = true := by simpa using hy
                          rw [if_pos hy] at hfr
                          have HFR := Lib.hid hfr
                          clear hy hfr
                          generalize fwdF (L3.take m) k = fo at *
                          go_wp2_with fail
                          go_roundw
                          case measure => simp [intOf]; omega
                          case rel => exact ⟨m + 1, by omega, by go_num, by rw [HFR.out]; rfl, by rw [HFR.out]; rfl, HQ.out.below ((Below.refl _ _).alloc (Nat.le_refl _) _)⟩
                        · have hyb : (u1 == (k : Int)) = false := by simpa using hy
                          rw [if_neg hy] at hfr
                          have HFR := Lib.hid hfr
                          clear hy hfr
                          generalize fwdF (L3.take m) k = fo at *
                          go_wp2_with fail
                          go_roundw
                          case measure => simp [intOf]; omega
                          case rel => exact ⟨m + 1, by omega, by go_num, by rw [HFR.out], by rw [HFR.out], HQ.out.below ((Below.refl _ _).alloc (Nat.le_refl _) _)⟩
                      · have hm' : m = L3.length := by omega
                        subst hm'
                        rw [List.take_length]
                        go_wp2_with fail
                        refine (bforward_c w.heap.size vb3 n (k : Int) L3 _ HQ.out.buf (by omega)).mono ?_
                        rintro ev w' ⟨rfl, hww⟩
                        obtain rfl := hww
                        go_wp2_with fail
                        go_roundw
                        case measure => simp [intOf]; omega
                        case rel => exact ⟨k + 1, by omega, by go_num, HQ.out⟩
                  · go_wp2_with fail
                    go_roundw
                    case measure => simp [intOf]; omega
                    case rel => exact ⟨i + 1, vb3, L3, by omega, by go_num, HK.out⟩
          · have hg1 : ((((L.length : Nat) : Int)) == n) = false := by simpa using hfull
            obtain ⟨ads, caps, hse⟩ := HO.out.row.len
            subst hse
            have HG1 := Lib.hid hg1
            have hlt6 : (L.length : Int) < n := by have := HO.out.len; omega
            clear hfull hg1
            go_wp2_with fail
            refine (Within_b (g i) 0 7 _ (by omega) (by omega) (by omega) HBD.out.1 HBD.out.2).mono ?_
            rintro ev w' ⟨rfl, rfl⟩
            have ha := wiF_b (n := g i) (lo := 0) (hi := 7) (by omega)
            generalize wiF (g i) 0 7 = a at ha ⊢
            clear hca
            have hcb6 := (HO.out.bel.cell (p := ⟨bb, _, none⟩) hbb).trans HCB.out
            have HT := HO
            have hg1 := HG1.out
            go_wp2_with fail
            clear hg1
            refine (bpush_ok A w.heap.size vb n a x L _ HT.out.buf (by omega) (by first | omega | (simp only [List.length_nil]; omega)) (by first | omega | (simp only [List.length_nil]; omega))).mono ?_
            rintro ev w7 ⟨rfl, vb3, hA7, hM7, hO7⟩
            have hB7 := HT.out.bel.trans (HT.out.buf.mods_below hM7 (Nat.le_refl _))
            have hcb7 := (hB7.cell (p := ⟨bb, _, none⟩) hbb).trans HCB.out
            have hrow7 := HT.out.row.keep (w' := w7) fun q hq => hM7.block q (HT.out.row.lt q hq).2 fun h => by
              rcases h with h | h
              · have := (HT.out.row.lt q hq).1
                omega
              · exact HT.out.dis q hq h
            have HR7 := Lib.hid hrow7
            have HA7 := Lib.hid hA7
            have HM7 := Lib.hid hM7
            have HO7 := Lib.hid hO7
            clear hrow7 hA7 hM7 hO7 hcb6
            have hs7 := hB7.size
            go_wp2_with (at_builtin; refine wpList_append_win _ rfl _ _ 47 rfl (w.heap.size + 1) 32 i0 (.agg #[.int .i64 0, .int .u32 0]) 2 16 Tryd.underlying47 HI.out HZ0.out HZ1.out HZ2.out rfl (by decide) _ _ _ rfl (HR7.out.below ((Below.refl _ _).alloc (Nat.le_refl _) _)) ⟨w7.heap.size, 0, none⟩ 1 1 (flatW [(a, x)]) rfl rfl (by exact cells_new w7 [_, _] _) (flatW_one _) (by omega) (by unfold maxLen; first | omega | (simp only [List.length_nil]; omega)) (by first | omega | (simp only [List.length_nil]; omega)) (by have := HA7.out.lt; simp; omega) ?_; intro g8 off8 cap8 w8 hrow8 hgrow8 hat8 hlt8)
            have HN := Lib.hid (HT.out.more (by first | omega | (simp only [List.length_nil]; omega)) HA7.out HM7.out HO7.out hrow8 hgrow8 hat8)
            have hlen3 : (L ++ [(a, x)]).length = L.length + 1 := by simp
            have hlen9 : (L ++ [(a, x)]).length ≤ 9 := by rw [hlen3]; first | omega | (simp only [List.length_nil]; omega)
            clear hrow8 hgrow8 hat8 hlt8 hcb7 hs7 hB7 HR7 HA7 HM7 HO7 HT
            rw [show Value.slice (some ⟨g8, off8, none⟩) (L.length + 1) cap8 = Value.slice (some ⟨g8, off8, none⟩) (L ++ [(a, x)]).length cap8 by simp]
            clear hlen3
            generalize L ++ [(a, x)] = L3 at *
            go_loopw [15] (fun s15 wr => ∃ k : Nat, k ≤ 8 ∧ s15 = .int .i64 k ∧ OrdAt w wr n vb3 (.slice (some ⟨g8, off8, none⟩) L3.length cap8) L3) (fun s15 _ => 8 - (intOf s15).toNat)
            case atStart => exact ⟨0, by omega, rfl, HN.out⟩
            case round =>
              obtain ⟨k, hk8, rfl, hO⟩ := hrel
              have HK := Lib.hid hO
              clear hO
              rename_i wk _ _
              by_cases hk : k < 8
              · go_wp2_with fail
                go_loopw [16, 17, 104] (fun s16 s17 s104 wq => ∃ m : Nat, m ≤ L3.length ∧ s104 = .int .i64 m ∧ s16 = .int .u32 ((fwdF (L3.take m) k).getD 0) ∧ s17 = .bool (fwdF (L3.take m) k).isSome ∧ OrdAt w wq n vb3 (.slice (some ⟨g8, off8, none⟩) L3.length cap8) L3) (fun _ _ s104 _ => L3.length - (intOf s104).toNat)
                case atStart => exact ⟨0, by omega, rfl, rfl, rfl, HK.out⟩
                case round =>
                  obtain ⟨m, hm, rfl, rfl, rfl, hO⟩ := hrel
                  have HQ := Lib.hid hO
                  clear hO
                  by_cases hml : m < L3.length
                  · have hkl : L3[m]? = some L3[m] := List.getElem?_eq_getElem hml
                    obtain ⟨g9, off9, cap9, he, _, _, hg9, hc9⟩ := HQ.out.row.form (by omega)
                    simp only [Value.slice.injEq, Option.some.injEq, Addr.mk.injEq] at he
                    obtain ⟨⟨rfl, rfl, _⟩, _, rfl⟩ := he
                    have e1 := hc9 _ _ (flatW_at hkl).1
                    have e2 := hc9 _ _ (flatW_at hkl).2
                    have hft := fwd_take (k : Int) hkl
                    have HFT := Lib.hid hft
                    clear hkl hc9 hft
                    generalize L3[m] = y9 at *
                    obtain ⟨u1, u2⟩ := y9
                    simp only at e1 e2
                    rw [Nat.mul_comm 2 m] at e1 e2
                    rw [← Nat.add_assoc] at e2
                    have hfr := HFT.out
                    by_cases hy : u1 = (k : Int)
                    · have hyb : (u1 == (k : Int)) = true := by simpa using hy
                      rw [if_pos hy] at hfr
                      have HFR := Lib.hid hfr
                      clear hy hfr
                      generalize fwdF (L3.take m) k = fo at *
                      go_wp2_with fail
                      go_roundw
                      case measure => simp [intOf]; omega
                      case rel => exact ⟨m + 1, by omega, by go_num, by rw [HFR.out]; rfl, by rw [HFR.out]; rfl, HQ.out.below ((Below.refl _ _).alloc (Nat.le_refl _) _)⟩
                    · have hyb : (u1 == (k : Int)) = false := by simpa using hy
                      rw [if_neg hy] at hfr
                      have HFR := Lib.hid hfr
                      clear hy hfr
                      generalize fwdF (L3.take m) k = fo at *
                      go_wp2_with fail
                      go_roundw
                      case measure => simp [intOf]; omega
                      case rel => exact ⟨m + 1, by omega, by go_num, by rw [HFR.out], by rw [HFR.out], HQ.out.below ((Below.refl _ _).alloc (Nat.le_refl _) _)⟩
                  · have hm' : m = L3.length := by omega
                    subst hm'
                    rw [List.take_length]
                    go_wp2_with fail
                    refine (bforward_c w.heap.size vb3 n (k : Int) L3 _ HQ.out.buf (by omega)).mono ?_
                    rintro ev w' ⟨rfl, hww⟩
                    obtain rfl := hww
                    go_wp2_with fail
                    go_roundw
                    case measure => simp [intOf]; omega
                    case rel => exact ⟨k + 1, by omega, by go_num, HQ.out⟩
              · go_wp2_with fail
                go_roundw
                case measure => simp [intOf]; omega
                case rel => exact ⟨i + 1, vb3, L3, by omega, by go_num, HK.out⟩
        · have hs2 := HS.out.below HO.out.bel
          go_wp2_with fail
          refine (blist_c w.heap.size vb n L wr HO.out.buf (by omega)).mono ?_
          rintro ev w2 ⟨u2, rfl, hu2, hb2⟩
          have hO2 := HO.out.below hb2
          have hs3 := hu2.slc
          obtain ⟨ad2, cap2, rfl⟩ := hu2.len
          have HS3 := Lib.hid hs3
          have HO2 := Lib.hid hO2
          clear hs2 hb2 hu2 hs3 hO2
          go_wp2_with fail
          refine (sameW_c L _ _ _ HS3.out HO2.out.row.slc (by omega)).mono ?_
          rintro ev w3 ⟨rfl, hb3⟩
          have hB3 := HO2.out.bel.trans (hb3.mono HO2.out.bel.size)
          clear hb3
          go_wp2_with fail
          refine (bufferRuns A _ (HS.out.below hB3)).mono ?_
          rintro ev w4 ⟨rfl, hb4⟩
          go_wp2_with fail
          go_ret
          exact ⟨rfl, hB3.trans (hb4.mono hB3.size)⟩
      · have hs2 := HS.out.below HO.out.bel
        go_wp2_with fail
        refine (blist_c w.heap.size vb n L wr HO.out.buf (by omega)).mono ?_
        rintro ev w2 ⟨u2, rfl, hu2, hb2⟩
        have hO2 := HO.out.below hb2
        have hs3 := hu2.slc
        obtain ⟨ad2, cap2, rfl⟩ := hu2.len
        have HS3 := Lib.hid hs3
        have HO2 := Lib.hid hO2
        clear hs2 hb2 hu2 hs3 hO2
        go_wp2_with fail
        refine (sameW_c L _ _ _ HS3.out HO2.out.row.slc (by omega)).mono ?_
        rintro ev w3 ⟨rfl, hb3⟩
        have hB3 := HO2.out.bel.trans (hb3.mono HO2.out.bel.size)
        clear hb3
        go_wp2_with fail
        refine (bufferRuns A _ (HS.out.below hB3)).mono ?_
        rintro ev w4 ⟨rfl, hb4⟩
        go_wp2_with fail
        go_ret
        exact ⟨rfl, hB3.trans (hb4.mono hB3.size)⟩
    · have hs2 := HS.out.below HO.out.bel
      go_wp2_with fail
      refine (blist_c w.heap.size vb n L wr HO.out.buf (by omega)).mono ?_
      rintro ev w2 ⟨u2, rfl, hu2, hb2⟩
      have hO2 := HO.out.below hb2
      have hs3 := hu2.slc
      obtain ⟨ad2, cap2, rfl⟩ := hu2.len
      have HS3 := Lib.hid hs3
      have HO2 := Lib.hid hO2
      clear hs2 hb2 hu2 hs3 hO2
      go_wp2_with fail
      refine (sameW_c L _ _ _ HS3.out HO2.out.row.slc (by omega)).mono ?_
      rintro ev w3 ⟨rfl, hb3⟩
      have hB3 := HO2.out.bel.trans (hb3.mono HO2.out.bel.size)
      clear hb3
      go_wp2_with fail
      refine (bufferRuns A _ (HS.out.below hB3)).mono ?_
      rintro ev w4 ⟨rfl, hb4⟩
      go_wp2_with fail
      go_ret
      exact ⟨rfl, hB3.trans (hb4.mono hB3.size)⟩

end Go.Proofs.YteljpfbfkpdchaaDoor
