/- The memory model: Twin. -/
import Derived.Test.YtamklohnmbgklaaDoorTs10
import Derived.Test.YtamklohnmbgklaaDoorLexN
namespace Go.Proofs.YtamklohnmbgklaaDoor
open Go.RowKit Go.Extern.Stop Go.Stop Go.Extern

theorem own_len (a : Option Addr) (n m c : Nat) : (Value.slice a n c).ownBlock = (Value.slice a m c).ownBlock := by cases a <;> rfl
/-- One buffer more. -/
theorem MdAt.snoc {T : MdT} {w w1 w2 w3 : World} {lo b : Nat} {vB vM u v' : Value} {vs : List Value} {B : Bufs} {M : List Int} {L : List (Int × Int)} (h : MdAt T w lo b vB vM vs B M) (hb1 : Below w.heap.size w w1) (hu : winRow w1 w.heap.size T.tW 2 u L.length (flatW L))
    (hb2 : Below w1.heap.size w1 w2) (hrow : winRow w3 lo T.tS 1 v' (B.length + 1) (vs ++ [u])) (hgrow : w2.grownBy w3 vB.ownBlock) : MdAt T (w3.setCell ⟨b, 0, none⟩ v') lo b v' vM (vs ++ [u]) (B ++ [L]) M := by
  have hb12 := hb1.trans (hb2.mono hb1.size)
  have hM : Mods (fun q => vB.ownBlock = some q) w w3 := (Mods.of_below hb12).trans (Mods.grown hgrow (S := fun q => vB.ownBlock = some q) fun k hk => hk) fun _ _ h => h
  have hbl := h.lt b (.inl rfl)
  have hbw : w3.heap[b]? = some (.cells #[vB, vM] T.tM (0, 0)) := (hM.block b hbl.2 fun e => (h.neBB e).1 rfl).trans h.blk
  have oth : ∀ q, q ≠ b → (w3.setCell ⟨b, 0, none⟩ v').heap[q]? = w3.heap[q]? := fun q hq => Below.heap_setCell _ _ _ _ (by simpa using hq)
  have hlen : (B ++ [L]).length = B.length + 1 := by simp
  refine ⟨?_, h.lob, ?_, h.rowM.keep fun g hg => ?_, fun i v L' hv hL => ?_, fun i j x y g hij hx hy hg => ?_⟩
  · have := heap_setCell_at (k := 0) hbw v'
    rw [this]
    rfl
  · rw [hlen]
    refine hrow.keep fun g hg => oth g fun e => ?_
    subst e
    obtain ⟨c, hc⟩ := hrow.ty hg
    exact ty_ne hbw hc T.d1
  · rw [oth g (fun e => by subst e; exact (h.neMB hg).1 rfl)]
    exact hM.block g (h.rowM.lt g hg).2 fun e => (h.neMB hg).2.1 e
  · by_cases hi : i < vs.length
    · rw [List.getElem?_append_left hi] at hv
      rw [List.getElem?_append_left (by rw [← h.lenV]; exact hi)] at hL
      have hr := h.rows i v L' hv hL
      refine hr.keep fun g hg => ?_
      rw [oth g (h.neVB hv hg)]
      exact hM.block g (hr.lt g hg).2 fun e => (h.neBB e).2.2 i v hv hg
    · have hi2 : i = vs.length := by
        have := (List.getElem?_eq_some_iff.1 hv).1
        simp only [List.length_append, List.length_cons, List.length_nil] at this
        omega
      subst hi2
      rw [List.getElem?_concat_length] at hv
      rw [h.lenV, List.getElem?_concat_length] at hL
      obtain rfl := Option.some.inj hv
      obtain rfl := Option.some.inj hL
      have h2 : winRow w3 w.heap.size T.tW 2 u L.length (flatW L) := hu.keep fun g hg => by
        have hlt := hu.lt g hg
        rw [hgrow.block g (Nat.lt_of_lt_of_le hlt.2 hb2.size) (fun e => by have := (h.rowB.lt g e.symm).2; omega)]
        exact hb2.block g hlt.2
      have h3 : winRow w3 lo T.tW 2 u L.length (flatW L) := h2.base_le fun g hg => by
        have := (h2.lt g hg).1
        have := hbl.1
        have := hbl.2
        omega
      exact h3.keep fun g hg => oth g fun e => by
        have := (h2.lt g hg).1
        have := hbl.2
        omega
  · have old : ∀ (i : Nat) v g, i < vs.length → (vs ++ [u])[i]? = some v → v.ownBlock = some g → vs[i]? = some v ∧ g < w.heap.size := fun i v g hi hv hg => by
      rw [List.getElem?_append_left hi] at hv
      exact ⟨hv, (h.lt g (.inr (.inr (.inr ⟨i, v, hv, hg⟩)))).2⟩
    have new : ∀ (i : Nat) v, ¬ i < vs.length → (vs ++ [u])[i]? = some v → i = vs.length ∧ v = u := fun i v hi hv => by
      have h1 := (List.getElem?_eq_some_iff.1 hv).1
      simp only [List.length_append, List.length_cons, List.length_nil] at h1
      have hi2 : i = vs.length := by omega
      subst hi2
      rw [List.getElem?_concat_length] at hv
      exact ⟨rfl, (Option.some.inj hv).symm⟩
    intro e
    by_cases hi : i < vs.length
    · obtain ⟨hx', hlx⟩ := old i x g hi hx hg
      by_cases hj : j < vs.length
      · exact h.dd i j x y g hij hx' (old j y g hj hy e).1 hg e
      · obtain ⟨_, rfl⟩ := new j y hj hy
        have := (hu.lt g e).1
        omega
    · obtain ⟨hi2, rfl⟩ := new i x hi hx
      have h1 := (hu.lt g hg).1
      by_cases hj : j < vs.length
      · have := (old j y g hj hy e).2
        omega
      · have := (new j y hj hy).1
        omega

set_option maxRecDepth 100000 in
set_option maxHeartbeats 8000000 in
theorem twin_at (lo b : Nat) (vB vM : Value) (vs : List Value) (B : Bufs) (M : List Int) (w : World) (h : MdAt tyP w lo b vB vM vs B M) (hlb : ∀ k, (B.getD k []).length ≤ 100000) (hBl : 0 < B.length ∧ B.length ≤ 64) (hMl : M.length ≤ 100000) :
    Calls Tryd.prog 30 #[.pointer (some ⟨b, 0, none⟩)] w fun ev w' => ∃ tb, ev = .returned (.pointer (some ⟨tb, 0, none⟩)) ∧ (∃ F, Md tyP w' w.heap.size tb F B M) ∧ Below w.heap.size w w' := by
  obtain ⟨i0, hi0, hi1⟩ := Option.map_eq_some_iff.1 nInfoSP
  simp only [Prod.mk.injEq] at hi1
  obtain ⟨hz0, hz1, hz2⟩ := hi1
  have HI := Lib.hid hi0
  have HZ0 := Lib.hid hz0
  have HZ1 := Lib.hid hz1
  have HZ2 := Lib.hid hz2
  have HH := Lib.hid h
  have HLB := Lib.hid hlb
  have HBL := Lib.hid hBl
  obtain ⟨gB, oB, kB, sd0, cp0, hvB, _, _, _, _⟩ := h.buf hBl.1
  subst hvB
  obtain ⟨aM, kM, hvM⟩ := h.rowM.len
  subst hvM
  have c0 := cell_of h.blk 0
  have c1 := cell_of h.blk 1
  simp only [List.getElem?_toArray, List.getElem?_cons_zero, List.getElem?_cons_succ] at c0 c1
  have C0 := Lib.hid c0
  have HBLT := Lib.hid (h.lt b (.inl rfl)).2
  have HSM := Lib.hid h.rowM.slc
  have HML := Lib.hid hMl
  clear hi0 hz0 hz1 hz2 h hlb hBl c0 hMl
  go_enter Tryd.func30, Tryd.ntmps30
  go_wp2_with fail
  refine (cloneU_c _ M w HSM.out HML.out).mono ?_
  rintro ev w1 ⟨u, rfl, hu, hb1⟩
  obtain ⟨aU, cU, rfl⟩ := hu.len
  have hX := heap_alloc_new w1 (.cells #[.slice none 0 0, .slice aU M.length cU] 90)
  have hba : Below w1.heap.size w1 (w1.alloc (.cells #[.slice none 0 0, .slice aU M.length cU] 90)) := (Below.refl _ _).alloc (Nat.le_refl _) _
  have c0 := ((hb1.trans (hba.mono hb1.size)).cell (p := ⟨b, 0, none⟩) HBLT.out).trans C0.out
  have HU := Lib.hid hu
  have HB1 := Lib.hid hb1
  have HBA := Lib.hid hba
  have HX := Lib.hid hX
  clear hu hb1 hba hX c1
  go_wp2_with fail
  have hA0 : MdAt tyP (w1.alloc (.cells #[.slice none 0 0, .slice aU M.length cU] 90)) w.heap.size w1.heap.size (.slice none 0 0) (.slice aU M.length cU) [] (B.take 0) M := by
    refine ⟨HX.out, HB1.out.size, winRow_nil .., HU.out.below HBA.out, fun i v L hv => absurd hv (by simp), fun i j x y g _ hx => absurd hx (by simp)⟩
  have HB2 := Lib.hid (HB1.out.trans (HBA.out.mono HB1.out.size))
  have HA0 := Lib.hid hA0
  obtain ⟨tb, htb⟩ : ∃ tb, tb = w1.heap.size := ⟨_, rfl⟩
  rw [← htb] at HA0 ⊢
  generalize w1.alloc (.cells #[.slice none 0 0, .slice aU M.length cU] 90) = wa at *
  clear hA0 HU HB1 HBA HX c0 htb
  go_loopw [18] (fun s18 wr => ∃ (i : Nat) (vB' : Value) (vs' : List Value), i ≤ B.length ∧ s18 = .int .i64 i ∧ MdAt tyP wr w.heap.size tb vB' (.slice aU M.length cU) vs' (B.take i) M ∧ Below w.heap.size w wr) (fun s18 _ => B.length - (intOf s18).toNat)
  case atStart => exact ⟨0, _, [], by omega, rfl, HA0.out, HB2.out⟩
  case round =>
    clear HA0 HB2
    obtain ⟨i, vB', vs', hi, rfl, hA, hB⟩ := hrel
    have HA := Lib.hid hA
    have HB := Lib.hid hB
    have hBl := HBL.out.2
    clear hA hB
    by_cases hil : i < B.length
    · have g3 : decide ((i : Int) < B.length) = true := by simp; omega
      obtain ⟨gB', oB', kB', sd, cp, hv, _, e0, _, hrow⟩ := HH.out.buf hil
      simp only [Value.slice.injEq, Option.some.injEq, Addr.mk.injEq] at hv
      obtain ⟨⟨rfl, rfl, _⟩, _, rfl⟩ := hv
      have e0 := (HB.out.cell (p := ⟨gB, oB + i, none⟩) (HH.out.lt gB (.inr (.inl rfl))).2).trans e0
      have HSL := Lib.hid (hrow.below HB.out).slc
      obtain ⟨L, hL⟩ : ∃ L, B.getD i [] = L := ⟨_, rfl⟩
      have HL := Lib.hid hL
      rw [hL] at e0 HSL
      have HLL := Lib.hid (show L.length ≤ 100000 by rw [← hL]; exact HLB.out i)
      obtain ⟨aT, kT, hvT⟩ := HA.out.rowB.len
      subst hvT
      have htl : (B.take i).length = i := by rw [List.length_take]; omega
      have HTL := Lib.hid htl
      have ha2 := HA.out
      have HA2 := Lib.hid (cell_of ha2.blk 0)
      have HTB := Lib.hid (ha2.lt tb (.inl rfl))
      have HRB := Lib.hid (show winRow wr w.heap.size 92 1 (.slice aT i kT) i vs' by have := ha2.rowB; rw [htl] at this; exact this)
      rw [htl] at HA2
      clear hrow hL ha2 htl
      go_wp2_with fail
      refine wp_region_lexN ⟨[], []⟩ (fun n x => if n ≤ 2 then Below wr.heap.size wr x else True) (by kernel_rfl) (by kernel_rfl) (by simp only [Nat.zero_le, if_true]; exact (Below.refl _ _).drew) ?_
      intro S hto hof hne
      have hto1 : ∀ z : Wd (upS S 2), Below wr.heap.size wr z.w := fun z => by
        obtain ⟨m, hm, hx⟩ := hto 2 z
        rw [if_pos hm] at hx
        exact hx
      have y1 : ∀ z : Wd (upS S 2), z.w.cell? ⟨tb, 0, none⟩ = some (.slice aT i kT) := fun z => ((hto1 z).cell (p := ⟨tb, 0, none⟩) HTB.out.2).trans HA2.out
      have Hof := Lib.hid hof
      have hne0 := hne 0
      have hne2 := hne 2
      have hne3 := hne 3
      clear hto hof hto1 hne
      refine lexM_light 1 3 (by kernel_rfl) (by kernel_rfl) ?_
      simp only [List.take_succ_cons, List.take_zero, List.drop_succ_cons, List.drop_zero]
      repeat (first | go_big_quiet_skip | (go_big_quiet_want; go_big_quiet_op; go_big_quiet_on))
      refine wpQuiet_nil ?_
      refine lexM_light 4 2 (by kernel_rfl) (by kernel_rfl) ?_
      simp only [List.take_succ_cons, List.take_zero, List.drop_succ_cons, List.drop_zero]
      repeat (first | go_big_quiet_skip | (go_big_quiet_want; go_big_quiet_op; go_big_quiet_on))
      refine wpQuiet_nil ?_
      refine lexM_light 1 0 (by kernel_rfl) (by kernel_rfl) ?_
      simp only [List.take_succ_cons, List.take_zero, List.drop_succ_cons, List.drop_zero]
      repeat (first | go_big_quiet_skip | (go_big_quiet_want; go_big_quiet_op; go_big_quiet_on))
      refine wpQuiet_nil ?_
      refine lexM_heavy (by kernel_rfl) ?_
      go_wp2_with fail
      refine (cloneW_c _ L _ (HSL.out.below (Below.refl _ _).drew) HLL.out).mono ?_
      rintro ev w3 ⟨u, rfl, hu, hb3⟩
      obtain ⟨aL, cL, rfl⟩ := hu.len
      have hb3' : Below wr.heap.size wr w3 := (Below.refl _ _).drew.trans hb3
      have HU := Lib.hid (show winRow w3 wr.heap.size 94 2 (.slice aL L.length cL) L.length (flatW L) from hu)
      have HB3 := Lib.hid hb3'
      clear hu hb3
      go_wp2_with fail
      refine lexMQ_more (Hof.out 1 _ (by rw [if_pos (by omega)]; exact HB3.out)) ?_
      clear hb3'
      refine lexM_heavy (by kernel_rfl) ?_
      go_wp2_with fail
      have hbl : Below w3.heap.size w3 (w3.alloc (.cells #[.slice aL L.length cL] 92)) := (Below.refl _ _).alloc (Nat.le_refl _) _
      have HBL4 := Lib.hid hbl
      have HB4 := Lib.hid (HB3.out.trans (hbl.mono HB3.out.size))
      clear hbl
      refine lexMQ_more (Hof.out 2 _ (by rw [if_pos (by omega)]; exact HB4.out)) ?_
      refine lexM_heavy (by kernel_rfl) ?_
      go_wp2_with (at_builtin; refine wpList_append_win _ rfl _ _ 88 rfl w.heap.size 92 i0 (.slice none 0 0) 1 24 Tryd.underlying88 HI.out HZ0.out HZ1.out HZ2.out rfl (by decide) (.slice aT i kT) i vs' (by rfl) (HRB.out.below HB4.out) ⟨w3.heap.size, 0, none⟩ 1 1 [.slice aL L.length cL] rfl rfl (by exact cells_new w3 [_] _) (by intro u hu; rw [List.mem_singleton] at hu; subst hu; rfl) (by omega) (by unfold maxLen; omega) (by omega) (by have := HB.out.size; have := HB4.out.size; omega) ?_; intro g off cap w5 hrow hgrow hat hlt)
      refine lexMQ_more (Hof.out 3 _ (by rw [if_neg (by omega)]; trivial)) ?_
      rw [own_len aT i (B.take i).length kT] at hgrow
      have hblk : w5.heap[tb]? = wr.heap[tb]? := (hgrow.block tb (Nat.lt_of_lt_of_le HTB.out.2 HB4.out.size) (fun e => (HA.out.neBB (show Value.ownBlock (.slice aT (B.take i).length kT) = some tb from e.symm)).1 rfl)).trans (HB4.out.block tb HTB.out.2)
      have g1 := (World.cell?_of_block (a := ⟨tb, 0, none⟩) hblk).trans HA2.out
      have g2 := (World.frozen?_of_block (a := ⟨tb, 0, none⟩) hblk).trans (frozen_of HA.out.blk 0)
      have HROW := Lib.hid hrow
      have HGR := Lib.hid hgrow
      clear hrow hgrow hat hlt hblk y1
      refine lexM_light 2 3 (by kernel_rfl) (by kernel_rfl) ?_
      simp only [List.take_succ_cons, List.take_zero, List.drop_succ_cons, List.drop_zero]
      repeat (first | go_big_quiet_skip | (go_big_quiet_want; go_big_quiet_op; go_big_quiet_on))
      refine wpQuiet_nil ?_
      refine lexM_heavy (by kernel_rfl) ?_
      go_wp2_with fail
      refine lexMQ_more (Hof.out 4 _ (by rw [if_neg (by omega)]; trivial)) ?_
      refine lexM_done ?_
      clear g1 g2
      have hsn := MdAt.snoc (L := L) (u := .slice aL L.length cL) HA.out HB3.out HU.out HBL4.out (by rw [HTL.out]; exact HROW.out) HGR.out
      have htk : B.take i ++ [L] = B.take (i + 1) := by
        rw [List.take_add_one, List.getElem?_eq_getElem hil]
        have := HL.out
        rw [List.getD_eq_getElem?_getD, List.getElem?_eq_getElem hil] at this
        simp only [Option.getD_some] at this
        rw [this]
        rfl
      rw [htk] at hsn
      have HSN := Lib.hid hsn
      have hm5 : Mods (fun q => q = tb ∨ Value.ownBlock (.slice aT (B.take i).length kT) = some q) wr (w5.setCell ⟨tb, 0, none⟩ (.slice (some ⟨g, off, none⟩) (i + 1) cap)) := Mods.setCell ((Mods.of_below HB4.out).trans (Mods.grown HGR.out (S := fun q => Value.ownBlock (.slice aT (B.take i).length kT) = some q) fun k hk => hk) fun _ _ h => .inr h) (p := ⟨tb, 0, none⟩) (.inl rfl) _
      have HB5 := Lib.hid (HB.out.trans (hm5.below HB.out.size fun q hq => by
        rcases hq with rfl | hq
        · exact HTB.out.1
        · exact (HA.out.rowB.lt q hq).1))
      clear hsn htk hm5
      go_wp2_with fail
      go_roundw
      case rel => exact ⟨i + 1, _, _, by omega, by go_num, HSN.out, HB5.out⟩
      case measure => simp [intOf]; omega
    · have g3 : decide ((i : Int) < B.length) = false := by simp; omega
      have ha := HA.out
      rw [List.take_of_length_le (by omega)] at ha
      have HA2 := Lib.hid ha
      clear ha
      go_wp2_with fail
      go_ret
      exact ⟨tb, rfl, ⟨_, _, _, _, HA2.out, rfl⟩, HB.out⟩

end Go.Proofs.YtamklohnmbgklaaDoor
