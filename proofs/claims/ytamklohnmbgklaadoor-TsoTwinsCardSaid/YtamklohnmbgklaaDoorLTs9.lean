/- TsoTwins: true; no condition but what a start gives. -/
import Derived.Test.YtamklohnmbgklaaDoorLTs1
import Derived.Test.YtamklohnmbgklaaDoorTri
import Derived.Test.YtamklohnmbgklaaDoorEvArg
import Derived.Test.YtamklohnmbgklaaDoorBk
namespace Go.Proofs.YtamklohnmbgklaaDoor
open Go.RowKit Go.Extern.Stop Go.Stop Go.Extern

/-- Where the law's loop stands. -/
structure TwL (w wr : World) (b1 b2 bt : Nat) (F1 F2 Ft : Nat → Prop) (s : Value) (row : List Ev) (B : Bufs) (M : List Int) (Bt : Bufs) (Mt : List Int) (k nn i : Nat) : Prop where
  o : Tri w wr b1 b2 bt F1 F2 Ft s row B M B M Bt Mt
  took : Took (List.replicate k []) (List.replicate 4 0) row B M
  rl : row.length ≤ i
  lenB : B.length = k
  lenM : M.length = 4
  len : ∀ k, (B.getD k []).length ≤ i
  same : nn < i → Bt = B ∧ Mt = M


set_option maxRecDepth 100000 in
set_option maxHeartbeats 16000000 in
theorem tsoTwins (A : Nat → Addr) (cores : Int) (v : Value) (n : Nat) (l : List Ev) (cut : Int) (w : World) (hs : SentAt w A) (hc1 : -9223372036854775808 ≤ cores ∧ cores ≤ 9223372036854775807) (h1 : EvsAt w v n l) (hc2 : -9223372036854775808 ≤ cut ∧ cut ≤ 9223372036854775807) :
    Calls Tryd.prog 10 #[.int .i64 cores, v, .int .i64 cut] w (TruePost w) := by
  obtain ⟨i0, hi0, hi1⟩ := Option.map_eq_some_iff.1 nInfoE
  simp only [Prod.mk.injEq] at hi1
  obtain ⟨hz0, hz1, hz2⟩ := hi1
  have HI := Lib.hid hi0
  have HZ0 := Lib.hid hz0
  have HZ1 := Lib.hid hz1
  have HZ2 := Lib.hid hz2
  have HS := Lib.hid hs
  have hn := h1.big
  obtain ⟨hlen, ap, cp, rfl, hcc⟩ := h1.sl
  have hll := h1.len
  have HCC := Lib.hid hcc
  have HLL := Lib.hid hll
  unfold maxLen at hn
  have hk := wiF_b (n := cores) (lo := 1) (hi := 4) (by omega)
  have hnn := wiF_b (n := cut) (lo := 0) (hi := 30) (by omega)
  obtain ⟨k, hkk⟩ := Int.eq_ofNat_of_zero_le (show 0 ≤ wiF cores 1 4 by omega)
  obtain ⟨nn, hnk⟩ := Int.eq_ofNat_of_zero_le (show 0 ≤ wiF cut 0 30 by omega)
  rw [hkk] at hk
  rw [hnk] at hnn
  have HK := Lib.hid (show 1 ≤ k ∧ k ≤ 4 by omega)
  have HNN := Lib.hid (show nn ≤ 30 by omega)
  have HKK := Lib.hid hkk
  have HNK := Lib.hid hnk
  have HC1 := Lib.hid hc1
  have HC2 := Lib.hid hc2
  clear h1 hlen hcc hll hs hk hnn hkk hnk hc1 hc2 hi0 hz0 hz1 hz2
  go_enter Tryd.func10, Tryd.ntmps10
  go_wp2_with fail
  refine (Within_b cores 1 4 w (by omega) (by omega) (by omega) HC1.out.1 HC1.out.2).mono ?_
  rintro ev w' ⟨rfl, hww⟩
  obtain rfl := hww
  rw [HKK.out]
  go_wp2_with fail
  refine (tnew_ok k 4 w (by have := HK.out; omega) (by have := HK.out; omega) (by omega) (by omega)).mono ?_
  rintro ev w1 ⟨b1, rfl, ⟨F1, hF1⟩, hb1⟩
  have HF1 := Lib.hid hF1
  have HB1 := Lib.hid hb1
  clear hF1 hb1
  go_wp2_with fail
  refine (mnew_ok k 4 w1 (by have := HK.out; omega) (by have := HK.out; omega) (by omega) (by omega)).mono ?_
  rintro ev w2 ⟨b2, rfl, ⟨F2, hF2⟩, hb2⟩
  have HF1b := Lib.hid (HF1.out.below hb2)
  have HF2 := Lib.hid hF2
  have HB2 := Lib.hid (HB1.out.trans (hb2.mono HB1.out.size))
  have HD := Lib.hid (show ∀ k, F1 k → ¬ F2 k from fun k hk hk2 => by have := (HF1.out.lt k hk).2; have := (hF2.lt k hk2).1; omega)
  have HLO := Lib.hid HB1.out.size
  clear hF2 hb2 HF1 HB1
  go_wp2_with fail
  refine (Within_b cut 0 30 w2 (by omega) (by omega) (by omega) HC2.out.1 HC2.out.2).mono ?_
  rintro ev w' ⟨rfl, hww⟩
  obtain rfl := hww
  rw [HNK.out]
  go_wp2_with fail
  refine (twin_c w.heap.size b1 F1 (List.replicate k []) (List.replicate 4 0) w2 HF1b.out (fun j => by rw [rep_get0]; simp) (by have := HK.out; simp; omega) (by simp)).mono ?_
  rintro ev w3 ⟨bt, rfl, ⟨Ft, hFt⟩, hb3⟩
  have HO := Lib.hid (show Tri w w3 b1 b2 bt F1 F2 Ft (.slice none 0 0) [] (List.replicate k []) (List.replicate 4 0) (List.replicate k []) (List.replicate 4 0) (List.replicate k []) (List.replicate 4 0) from
    ⟨HF1b.out.below hb3, (HF2.out.base HLO.out).below hb3, hFt.base HB2.out.size, winRow_nil .., HD.out, fun q hq hq2 => by have := (HF1b.out.lt q hq).2; have := (hFt.lt q hq2).1; omega, fun q hq hq2 => by have := (HF2.out.lt q hq).2; have := (hFt.lt q hq2).1; omega,
      fun q hq => by simp [Value.ownBlock] at hq, fun q hq => by simp [Value.ownBlock] at hq, fun q hq => by simp [Value.ownBlock] at hq, HB2.out.trans (hb3.mono HB2.out.size)⟩)
  clear hFt hb3 HF1b HF2 HB2 HD HLO
  go_wp2_with fail
  go_loopw [13, 14, 15] (fun s13 s14 s15 wr => ∃ (i : Nat) (F1 F2 Ft : Nat → Prop) (row : List Ev) (B : Bufs) (M : List Int) (Bt : Bufs) (Mt : List Int) (bt : Nat), i ≤ n ∧ i ≤ 40 ∧ s15 = .int .i64 i ∧ s13 = .pointer (some ⟨bt, 0, none⟩) ∧ Tri w wr b1 b2 bt F1 F2 Ft s14 row B M B M Bt Mt ∧ Took (List.replicate k []) (List.replicate 4 0) row B M ∧ row.length ≤ i ∧ B.length = k ∧ M.length = 4 ∧ (∀ k, (B.getD k []).length ≤ i) ∧ (nn < i → Bt = B ∧ Mt = M)) (fun _ _ s15 _ => 40 - (intOf s15).toNat)
  case atStart => exact ⟨0, F1, F2, Ft, [], _, _, _, _, bt, by omega, by omega, rfl, rfl, HO.out, Took.nil, by simp, by simp, by simp, fun k => by rw [rep_get0]; exact Nat.le_refl _, fun h => absurd h (by omega)⟩
  case round =>
    clear HO
    obtain ⟨i, F1, F2, Ft, row, B, M, Bt, Mt, bt, hin, hi40, rfl, rfl, hO, hTK, hrl, hlB, hlM, hlen, hsm⟩ := hrel
    have HO := Lib.hid hO
    have HTK := Lib.hid hTK
    have HSM := Lib.hid hsm
    have HL := Lib.hid (show row.length ≤ i ∧ (B.length = k ∧ M.length = 4) ∧ (∀ k, (B.getD k []).length ≤ i) ∧ i ≤ 40 from ⟨hrl, ⟨hlB, hlM⟩, hlen, hi40⟩)
    obtain ⟨ad9, cp9, rfl⟩ := hO.row.len
    clear hO hTK hsm hrl hlB hlM hlen
    by_cases hi : i < n ∧ i < 40
    · obtain ⟨hi1, hi2⟩ := hi
      have g1 : decide (i < n) = true := by simp; omega
      have g2 : decide ((i : Int) < 40) = true := by simp; omega
      obtain ⟨g, off, rfl, hg, hc⟩ := HCC.out (by omega)
      obtain ⟨e, he⟩ : ∃ e, l[i]? = some e := ⟨_, List.getElem?_eq_getElem (by rw [HLL.out]; exact hi1)⟩
      obtain ⟨ka, ca, aa, xa, na, da⟩ := e
      by_cases hni : i = nn
      · subst hni
        go_wp2_with fail
        refine (twin_c w.heap.size b1 F1 B M wr HO.out.p (fun j => by have := HL.out.2.2.1 j; omega) (by have := HL.out.2.1.1; have := HK.out; omega) (by have := HL.out.2.1.2; omega)).mono ?_
        rintro ev w2 ⟨bt2, rfl, ⟨Ft2, hFt⟩, hb2⟩
        have HO := Lib.hid (HO.out.twin hFt hb2)
        clear hFt hb2 HSM
        generalize Ft2 = Ft at *
        generalize bt2 = bt at *
        have e0 := (HO.out.bel.cell (p := ⟨g, off + (i * 6 + 0), none⟩) hg).trans (hc _ _ (flatE_at he (c := 0) rfl))
        have e1 := (HO.out.bel.cell (p := ⟨g, off + (i * 6 + 1), none⟩) hg).trans (hc _ _ (flatE_at he (c := 1) rfl))
        have e2 := (HO.out.bel.cell (p := ⟨g, off + (i * 6 + 2), none⟩) hg).trans (hc _ _ (flatE_at he (c := 2) rfl))
        have e3 := (HO.out.bel.cell (p := ⟨g, off + (i * 6 + 3), none⟩) hg).trans (hc _ _ (flatE_at he (c := 3) rfl))
        have e4 := (HO.out.bel.cell (p := ⟨g, off + (i * 6 + 4), none⟩) hg).trans (hc _ _ (flatE_at he (c := 4) rfl))
        have e5 := (HO.out.bel.cell (p := ⟨g, off + (i * 6 + 5), none⟩) hg).trans (hc _ _ (flatE_at he (c := 5) rfl))
        simp only [Nat.add_zero, ← Nat.add_assoc] at e0 e1 e2 e3 e4 e5
        clear hc he hg
        have g4 : decide ((i : Int) ≥ i) = true := by simp
        go_wp2_with fail
        refine (fit_c w.heap.size b2 F2 B M ⟨ka, ca, aa, xa, na, da⟩ w2 HO.out.r).mono ?_
        rintro ev w3 ⟨rfl, hb3⟩
        have HO3 := Lib.hid (HO.out.below hb3)
        clear hb3 e0 e1 e2 e3 e4 e5 HO
        generalize fitE B M ⟨ka, ca, aa, xa, na, da⟩ = x at *
        obtain ⟨kx, cx, ax, vx, nx, dx⟩ := x
        simp only [Ev.v]
        obtain ⟨hE, hhE⟩ : ∃ hE, hE = w3.heap.size := ⟨_, rfl⟩
        have hba : Below w3.heap.size w3 (w3.alloc (.cells #[.int .i64 kx, .int .i64 cx, .int .i64 ax, .int .u32 vx, .int .u32 nx, .bool dx] 24)) := (Below.refl _ _).alloc (Nat.le_refl _) _
        have hXX := heap_alloc_new w3 (.cells #[.int .i64 kx, .int .i64 cx, .int .i64 ax, .int .u32 vx, .int .u32 nx, .bool dx] 24)
        rw [← hhE] at hXX
        have HO4 := Lib.hid (HO3.out.below hba)
        have HNX := Lib.hid (show ((¬ F1 hE) ∧ ¬ F2 hE) ∧ (¬ Ft hE) ∧ (Value.slice ad9 row.length cp9).ownBlock ≠ some hE from ⟨⟨fun h => by have := (HO3.out.p.lt _ h).2; omega, fun h => by have := (HO3.out.r.lt _ h).2; omega⟩, fun h => by have := (HO3.out.t.lt _ h).2; omega, fun h => by have := (HO3.out.row.lt _ h).2; omega⟩)
        have HXX := Lib.hid hXX
        clear hba HO3 hXX
        go_wp2_with fail
        rw [← hhE]
        generalize w3.alloc (.cells #[.int .i64 kx, .int .i64 cx, .int .i64 ax, .int .u32 vx, .int .u32 nx, .bool dx] 24) = W3 at *
        clear hhE
        refine (rstep_c w.heap.size b2 F2 B M ⟨kx, cx, ax, vx, nx, dx⟩ W3 HO4.out.r (fun k => by have := HL.out.2.2.1 k; omega)).mono ?_
        rintro ev w4 ⟨rfl, F2', hr, hM, hF⟩
        by_cases hc : stC B M ⟨kx, cx, ax, vx, nx, dx⟩ = 0
        · rw [show ((stC B M ⟨kx, cx, ax, vx, nx, dx⟩ : Nat) : Int) = 0 by rw [hc]; rfl]
          have hX4 := (hM.block hE (Array.getElem?_eq_some_iff.1 HXX.out).1 HNX.out.1.2).trans HXX.out
          have q0 := cell_of hX4 0
          have q1 := cell_of hX4 1
          have q2 := cell_of hX4 2
          have q3 := cell_of hX4 3
          have q4 := cell_of hX4 4
          have q5 := cell_of hX4 5
          simp only [List.getElem?_toArray, List.getElem?_cons_zero, List.getElem?_cons_succ] at q0 q1 q2 q3 q4 q5
          have HO5 := Lib.hid (HO4.out.stepR hr hM hF)
          have HX4 := Lib.hid hX4
          have HC := Lib.hid hc
          clear hX4 hc hr hM hF HO4 HXX
          go_wp2_with fail
          refine (tstep_c A w.heap.size b1 F1 B M ⟨kx, cx, ax, vx, nx, dx⟩ w4 (HS.out.below HO5.out.bel) HO5.out.p (by rw [HL.out.2.1.2]; omega) (fun k => by have := HL.out.2.2.1 k; omega)).mono ?_
          rintro ev w5 ⟨rfl, F1', hp, hM1, hF1⟩
          rw [(st_ok HC.out).1, show ErrT.nil.val A = .nilIface from rfl]
          have hX5 := (hM1.block hE (Array.getElem?_eq_some_iff.1 HX4.out).1 HNX.out.1.1).trans HX4.out
          have HO6 := Lib.hid (HO5.out.stepP hp hM1 hF1)
          clear q0 q1 q2 q3 q4 q5
          have q0 := cell_of hX5 0
          have q1 := cell_of hX5 1
          have q2 := cell_of hX5 2
          have q3 := cell_of hX5 3
          have q4 := cell_of hX5 4
          have q5 := cell_of hX5 5
          simp only [List.getElem?_toArray, List.getElem?_cons_zero, List.getElem?_cons_succ] at q0 q1 q2 q3 q4 q5
          have HX5 := Lib.hid hX5
          clear hX5 hp hM1 hF1 HO5 HX4
          go_wp2_with (at_builtin; refine wpList_append_win _ rfl _ _ 26 rfl w.heap.size 24 i0 _ 6 40 Tryd.underlying26 HI.out HZ0.out HZ1.out HZ2.out rfl (by decide) _ _ _ rfl (HO6.out.row.below ((Below.refl _ _).alloc (Nat.le_refl _) _)) ⟨w5.heap.size, 0, none⟩ 1 1 (flatE [⟨kx, cx, ax, vx, nx, dx⟩]) rfl rfl (by exact cells_new w5 [_, _, _, _, _, _] _) (flatE_one _) (by omega) (by have := HL.out.1; unfold maxLen; omega) (by have := HL.out.1; omega) (by have := HO6.out.bel.size; simp; omega) ?_; intro g8 off8 cap8 w8 hrow8 hgrow8 hat8 hlt8; refine halt ?_)
          have HO7 := Lib.hid (HO6.out.more (e := ⟨kx, cx, ax, vx, nx, dx⟩) ((Below.refl _ _).alloc (Nat.le_refl _) _) hrow8 hgrow8 hat8)
          have hX8 : w8.heap[hE]? = some (.cells #[.int .i64 kx, .int .i64 cx, .int .i64 ax, .int .u32 vx, .int .u32 nx, .bool dx] 24 (0, 0)) := by
            have hl5 := (Array.getElem?_eq_some_iff.1 HX5.out).1
            rw [hgrow8.block hE (by simp; omega) (fun e => HNX.out.2.2 e.symm)]
            exact (((Below.refl w5.heap.size w5).alloc (Nat.le_refl _) _).block hE hl5).trans HX5.out
          rw [show row.length + 1 = (row ++ [(⟨kx, cx, ax, vx, nx, dx⟩ : Ev)]).length by simp]
          unfold Halt
          clear hrow8 hgrow8 hat8 hlt8 q0 q1 q2 q3 q4 q5
          have q0 := cell_of hX8 0
          have q1 := cell_of hX8 1
          have q2 := cell_of hX8 2
          have q3 := cell_of hX8 3
          have q4 := cell_of hX8 4
          have q5 := cell_of hX8 5
          simp only [List.getElem?_toArray, List.getElem?_cons_zero, List.getElem?_cons_succ] at q0 q1 q2 q3 q4 q5
          have HX8 := Lib.hid hX8
          clear hX8
          go_wp2_with fail
          refine (tstep_c A w.heap.size bt Ft B M ⟨kx, cx, ax, vx, nx, dx⟩ w8 (HS.out.below HO7.out.bel) HO7.out.t (by rw [HL.out.2.1.2]; omega) (fun k => by have := HL.out.2.2.1 k; omega)).mono ?_
          rintro ev w9 ⟨rfl, Ft', hp, hM1, hF1⟩
          rw [(st_ok HC.out).1, show ErrT.nil.val A = .nilIface from rfl]
          have HO8 := Lib.hid (HO7.out.stepT hp hM1 hF1)
          clear hp hM1 hF1 HO7 HX8 q0 q1 q2 q3 q4 q5
          go_wp2_with fail
          go_roundw
          case rel =>
            have h8 := HO8.out
            rw [show (row ++ [(⟨kx, cx, ax, vx, nx, dx⟩ : Ev)]).length = row.length + 1 by simp] at h8
            exact ⟨i + 1, F1', F2', Ft', row ++ [⟨kx, cx, ax, vx, nx, dx⟩], nxB B M ⟨kx, cx, ax, vx, nx, dx⟩, nxM B M ⟨kx, cx, ax, vx, nx, dx⟩, nxB B M ⟨kx, cx, ax, vx, nx, dx⟩, nxM B M ⟨kx, cx, ax, vx, nx, dx⟩, bt, by omega, by omega, by go_num, rfl, h8, HTK.out.snoc _ HC.out, by have := HL.out.1; simp; omega, by rw [nxB_length]; exact HL.out.2.1.1, by rw [nxM_length]; exact HL.out.2.1.2, nxB_le HL.out.2.2.1, fun _ => ⟨rfl, rfl⟩⟩
          case measure => simp [intOf] <;> omega
        · unfold nxB nxM at hr
          rw [if_neg hc, if_neg hc] at hr
          have HO5 := Lib.hid (HO4.out.stepR hr hM hF)
          obtain ⟨c, hcc⟩ : ∃ c, stC B M ⟨kx, cx, ax, vx, nx, dx⟩ = c := ⟨_, rfl⟩
          rw [hcc] at hc ⊢
          have hcb : ((c : Int) == 0) = false := by simpa using hc
          clear hr hM hF HO4 HXX hcc hc
          go_wp2_with fail
          go_roundw
          case rel => exact ⟨i + 1, F1, F2', Ft, row, B, M, B, M, bt, by omega, by omega, by go_num, rfl, HO5.out, HTK.out, by have := HL.out.1; omega, HL.out.2.1.1, HL.out.2.1.2, fun k => Nat.le_succ_of_le (HL.out.2.2.1 k), fun _ => ⟨rfl, rfl⟩⟩
          case measure => simp [intOf] <;> omega
      · have hne1 : ((i : Int) == (nn : Int)) = false := by simp; omega
        have hne2 : (i == nn) = false := by simp; omega
        have hne3 : decide (i = nn) = false := by simp; omega
        by_cases hlt : i < nn
        · have g4 : decide ((i : Int) ≥ nn) = false := by simp; omega
          have g5 : decide (nn ≤ i) = false := by simp; omega
          clear HSM hni
          have e0 := (HO.out.bel.cell (p := ⟨g, off + (i * 6 + 0), none⟩) hg).trans (hc _ _ (flatE_at he (c := 0) rfl))
          have e1 := (HO.out.bel.cell (p := ⟨g, off + (i * 6 + 1), none⟩) hg).trans (hc _ _ (flatE_at he (c := 1) rfl))
          have e2 := (HO.out.bel.cell (p := ⟨g, off + (i * 6 + 2), none⟩) hg).trans (hc _ _ (flatE_at he (c := 2) rfl))
          have e3 := (HO.out.bel.cell (p := ⟨g, off + (i * 6 + 3), none⟩) hg).trans (hc _ _ (flatE_at he (c := 3) rfl))
          have e4 := (HO.out.bel.cell (p := ⟨g, off + (i * 6 + 4), none⟩) hg).trans (hc _ _ (flatE_at he (c := 4) rfl))
          have e5 := (HO.out.bel.cell (p := ⟨g, off + (i * 6 + 5), none⟩) hg).trans (hc _ _ (flatE_at he (c := 5) rfl))
          simp only [Nat.add_zero, ← Nat.add_assoc] at e0 e1 e2 e3 e4 e5
          clear hc he hg
          go_wp2_with fail
          refine (fit_c w.heap.size b2 F2 B M ⟨ka, ca, aa, xa, na, da⟩ wr HO.out.r).mono ?_
          rintro ev w3 ⟨rfl, hb3⟩
          have HO3 := Lib.hid (HO.out.below hb3)
          clear hb3 e0 e1 e2 e3 e4 e5 HO
          generalize fitE B M ⟨ka, ca, aa, xa, na, da⟩ = x at *
          obtain ⟨kx, cx, ax, vx, nx, dx⟩ := x
          simp only [Ev.v]
          obtain ⟨hE, hhE⟩ : ∃ hE, hE = w3.heap.size := ⟨_, rfl⟩
          have hba : Below w3.heap.size w3 (w3.alloc (.cells #[.int .i64 kx, .int .i64 cx, .int .i64 ax, .int .u32 vx, .int .u32 nx, .bool dx] 24)) := (Below.refl _ _).alloc (Nat.le_refl _) _
          have hXX := heap_alloc_new w3 (.cells #[.int .i64 kx, .int .i64 cx, .int .i64 ax, .int .u32 vx, .int .u32 nx, .bool dx] 24)
          rw [← hhE] at hXX
          have HO4 := Lib.hid (HO3.out.below hba)
          have HNX := Lib.hid (show ((¬ F1 hE) ∧ ¬ F2 hE) ∧ (¬ Ft hE) ∧ (Value.slice ad9 row.length cp9).ownBlock ≠ some hE from ⟨⟨fun h => by have := (HO3.out.p.lt _ h).2; omega, fun h => by have := (HO3.out.r.lt _ h).2; omega⟩, fun h => by have := (HO3.out.t.lt _ h).2; omega, fun h => by have := (HO3.out.row.lt _ h).2; omega⟩)
          have HXX := Lib.hid hXX
          clear hba HO3 hXX
          go_wp2_with fail
          rw [← hhE]
          generalize w3.alloc (.cells #[.int .i64 kx, .int .i64 cx, .int .i64 ax, .int .u32 vx, .int .u32 nx, .bool dx] 24) = W3 at *
          clear hhE
          refine (rstep_c w.heap.size b2 F2 B M ⟨kx, cx, ax, vx, nx, dx⟩ W3 HO4.out.r (fun k => by have := HL.out.2.2.1 k; omega)).mono ?_
          rintro ev w4 ⟨rfl, F2', hr, hM, hF⟩
          by_cases hc : stC B M ⟨kx, cx, ax, vx, nx, dx⟩ = 0
          · rw [show ((stC B M ⟨kx, cx, ax, vx, nx, dx⟩ : Nat) : Int) = 0 by rw [hc]; rfl]
            have hX4 := (hM.block hE (Array.getElem?_eq_some_iff.1 HXX.out).1 HNX.out.1.2).trans HXX.out
            have q0 := cell_of hX4 0
            have q1 := cell_of hX4 1
            have q2 := cell_of hX4 2
            have q3 := cell_of hX4 3
            have q4 := cell_of hX4 4
            have q5 := cell_of hX4 5
            simp only [List.getElem?_toArray, List.getElem?_cons_zero, List.getElem?_cons_succ] at q0 q1 q2 q3 q4 q5
            have HO5 := Lib.hid (HO4.out.stepR hr hM hF)
            have HX4 := Lib.hid hX4
            have HC := Lib.hid hc
            clear hX4 hc hr hM hF HO4 HXX
            go_wp2_with fail
            refine (tstep_c A w.heap.size b1 F1 B M ⟨kx, cx, ax, vx, nx, dx⟩ w4 (HS.out.below HO5.out.bel) HO5.out.p (by rw [HL.out.2.1.2]; omega) (fun k => by have := HL.out.2.2.1 k; omega)).mono ?_
            rintro ev w5 ⟨rfl, F1', hp, hM1, hF1⟩
            rw [(st_ok HC.out).1, show ErrT.nil.val A = .nilIface from rfl]
            have hX5 := (hM1.block hE (Array.getElem?_eq_some_iff.1 HX4.out).1 HNX.out.1.1).trans HX4.out
            have HO6 := Lib.hid (HO5.out.stepP hp hM1 hF1)
            clear q0 q1 q2 q3 q4 q5
            have q0 := cell_of hX5 0
            have q1 := cell_of hX5 1
            have q2 := cell_of hX5 2
            have q3 := cell_of hX5 3
            have q4 := cell_of hX5 4
            have q5 := cell_of hX5 5
            simp only [List.getElem?_toArray, List.getElem?_cons_zero, List.getElem?_cons_succ] at q0 q1 q2 q3 q4 q5
            have HX5 := Lib.hid hX5
            clear hX5 hp hM1 hF1 HO5 HX4
            go_wp2_with (at_builtin; refine wpList_append_win _ rfl _ _ 26 rfl w.heap.size 24 i0 _ 6 40 Tryd.underlying26 HI.out HZ0.out HZ1.out HZ2.out rfl (by decide) _ _ _ rfl (HO6.out.row.below ((Below.refl _ _).alloc (Nat.le_refl _) _)) ⟨w5.heap.size, 0, none⟩ 1 1 (flatE [⟨kx, cx, ax, vx, nx, dx⟩]) rfl rfl (by exact cells_new w5 [_, _, _, _, _, _] _) (flatE_one _) (by omega) (by have := HL.out.1; unfold maxLen; omega) (by have := HL.out.1; omega) (by have := HO6.out.bel.size; simp; omega) ?_; intro g8 off8 cap8 w8 hrow8 hgrow8 hat8 hlt8; refine halt ?_)
            have HO7 := Lib.hid (HO6.out.more (e := ⟨kx, cx, ax, vx, nx, dx⟩) ((Below.refl _ _).alloc (Nat.le_refl _) _) hrow8 hgrow8 hat8)
            have hX8 : w8.heap[hE]? = some (.cells #[.int .i64 kx, .int .i64 cx, .int .i64 ax, .int .u32 vx, .int .u32 nx, .bool dx] 24 (0, 0)) := by
              have hl5 := (Array.getElem?_eq_some_iff.1 HX5.out).1
              rw [hgrow8.block hE (by simp; omega) (fun e => HNX.out.2.2 e.symm)]
              exact (((Below.refl w5.heap.size w5).alloc (Nat.le_refl _) _).block hE hl5).trans HX5.out
            rw [show row.length + 1 = (row ++ [(⟨kx, cx, ax, vx, nx, dx⟩ : Ev)]).length by simp]
            unfold Halt
            clear hrow8 hgrow8 hat8 hlt8 q0 q1 q2 q3 q4 q5
            clear hX8
            go_wp2_with fail
            go_roundw
            case rel => exact ⟨i + 1, F1', F2', Ft, row ++ [⟨kx, cx, ax, vx, nx, dx⟩], nxB B M ⟨kx, cx, ax, vx, nx, dx⟩, nxM B M ⟨kx, cx, ax, vx, nx, dx⟩, Bt, Mt, bt, by omega, by omega, by go_num, rfl, HO7.out, HTK.out.snoc _ HC.out, by have := HL.out.1; simp; omega, by rw [nxB_length]; exact HL.out.2.1.1, by rw [nxM_length]; exact HL.out.2.1.2, nxB_le HL.out.2.2.1, fun h => absurd h (by omega)⟩
            case measure => simp [intOf] <;> omega
          · unfold nxB nxM at hr
            rw [if_neg hc, if_neg hc] at hr
            have HO5 := Lib.hid (HO4.out.stepR hr hM hF)
            obtain ⟨c, hcc⟩ : ∃ c, stC B M ⟨kx, cx, ax, vx, nx, dx⟩ = c := ⟨_, rfl⟩
            rw [hcc] at hc ⊢
            have hcb : ((c : Int) == 0) = false := by simpa using hc
            clear hr hM hF HO4 HXX hcc hc
            go_wp2_with fail
            go_roundw
            case rel => exact ⟨i + 1, F1, F2', Ft, row, B, M, Bt, Mt, bt, by omega, by omega, by go_num, rfl, HO5.out, HTK.out, by have := HL.out.1; omega, HL.out.2.1.1, HL.out.2.1.2, fun k => Nat.le_succ_of_le (HL.out.2.2.1 k), fun h => absurd h (by omega)⟩
            case measure => simp [intOf] <;> omega
        · have g4 : decide ((i : Int) ≥ nn) = true := by simp; omega
          have g5 : decide (nn ≤ i) = true := by simp; omega
          obtain ⟨hB, hM⟩ := HSM.out (by omega)
          obtain rfl := hB.symm
          obtain rfl := hM.symm
          clear HSM hni
          have e0 := (HO.out.bel.cell (p := ⟨g, off + (i * 6 + 0), none⟩) hg).trans (hc _ _ (flatE_at he (c := 0) rfl))
          have e1 := (HO.out.bel.cell (p := ⟨g, off + (i * 6 + 1), none⟩) hg).trans (hc _ _ (flatE_at he (c := 1) rfl))
          have e2 := (HO.out.bel.cell (p := ⟨g, off + (i * 6 + 2), none⟩) hg).trans (hc _ _ (flatE_at he (c := 2) rfl))
          have e3 := (HO.out.bel.cell (p := ⟨g, off + (i * 6 + 3), none⟩) hg).trans (hc _ _ (flatE_at he (c := 3) rfl))
          have e4 := (HO.out.bel.cell (p := ⟨g, off + (i * 6 + 4), none⟩) hg).trans (hc _ _ (flatE_at he (c := 4) rfl))
          have e5 := (HO.out.bel.cell (p := ⟨g, off + (i * 6 + 5), none⟩) hg).trans (hc _ _ (flatE_at he (c := 5) rfl))
          simp only [Nat.add_zero, ← Nat.add_assoc] at e0 e1 e2 e3 e4 e5
          clear hc he hg
          go_wp2_with fail
          refine (fit_c w.heap.size b2 F2 B M ⟨ka, ca, aa, xa, na, da⟩ wr HO.out.r).mono ?_
          rintro ev w3 ⟨rfl, hb3⟩
          have HO3 := Lib.hid (HO.out.below hb3)
          clear hb3 e0 e1 e2 e3 e4 e5 HO
          generalize fitE B M ⟨ka, ca, aa, xa, na, da⟩ = x at *
          obtain ⟨kx, cx, ax, vx, nx, dx⟩ := x
          simp only [Ev.v]
          obtain ⟨hE, hhE⟩ : ∃ hE, hE = w3.heap.size := ⟨_, rfl⟩
          have hba : Below w3.heap.size w3 (w3.alloc (.cells #[.int .i64 kx, .int .i64 cx, .int .i64 ax, .int .u32 vx, .int .u32 nx, .bool dx] 24)) := (Below.refl _ _).alloc (Nat.le_refl _) _
          have hXX := heap_alloc_new w3 (.cells #[.int .i64 kx, .int .i64 cx, .int .i64 ax, .int .u32 vx, .int .u32 nx, .bool dx] 24)
          rw [← hhE] at hXX
          have HO4 := Lib.hid (HO3.out.below hba)
          have HNX := Lib.hid (show ((¬ F1 hE) ∧ ¬ F2 hE) ∧ (¬ Ft hE) ∧ (Value.slice ad9 row.length cp9).ownBlock ≠ some hE from ⟨⟨fun h => by have := (HO3.out.p.lt _ h).2; omega, fun h => by have := (HO3.out.r.lt _ h).2; omega⟩, fun h => by have := (HO3.out.t.lt _ h).2; omega, fun h => by have := (HO3.out.row.lt _ h).2; omega⟩)
          have HXX := Lib.hid hXX
          clear hba HO3 hXX
          go_wp2_with fail
          rw [← hhE]
          generalize w3.alloc (.cells #[.int .i64 kx, .int .i64 cx, .int .i64 ax, .int .u32 vx, .int .u32 nx, .bool dx] 24) = W3 at *
          clear hhE
          refine (rstep_c w.heap.size b2 F2 B M ⟨kx, cx, ax, vx, nx, dx⟩ W3 HO4.out.r (fun k => by have := HL.out.2.2.1 k; omega)).mono ?_
          rintro ev w4 ⟨rfl, F2', hr, hM, hF⟩
          by_cases hc : stC B M ⟨kx, cx, ax, vx, nx, dx⟩ = 0
          · rw [show ((stC B M ⟨kx, cx, ax, vx, nx, dx⟩ : Nat) : Int) = 0 by rw [hc]; rfl]
            have hX4 := (hM.block hE (Array.getElem?_eq_some_iff.1 HXX.out).1 HNX.out.1.2).trans HXX.out
            have q0 := cell_of hX4 0
            have q1 := cell_of hX4 1
            have q2 := cell_of hX4 2
            have q3 := cell_of hX4 3
            have q4 := cell_of hX4 4
            have q5 := cell_of hX4 5
            simp only [List.getElem?_toArray, List.getElem?_cons_zero, List.getElem?_cons_succ] at q0 q1 q2 q3 q4 q5
            have HO5 := Lib.hid (HO4.out.stepR hr hM hF)
            have HX4 := Lib.hid hX4
            have HC := Lib.hid hc
            clear hX4 hc hr hM hF HO4 HXX
            go_wp2_with fail
            refine (tstep_c A w.heap.size b1 F1 B M ⟨kx, cx, ax, vx, nx, dx⟩ w4 (HS.out.below HO5.out.bel) HO5.out.p (by rw [HL.out.2.1.2]; omega) (fun k => by have := HL.out.2.2.1 k; omega)).mono ?_
            rintro ev w5 ⟨rfl, F1', hp, hM1, hF1⟩
            rw [(st_ok HC.out).1, show ErrT.nil.val A = .nilIface from rfl]
            have hX5 := (hM1.block hE (Array.getElem?_eq_some_iff.1 HX4.out).1 HNX.out.1.1).trans HX4.out
            have HO6 := Lib.hid (HO5.out.stepP hp hM1 hF1)
            clear q0 q1 q2 q3 q4 q5
            have q0 := cell_of hX5 0
            have q1 := cell_of hX5 1
            have q2 := cell_of hX5 2
            have q3 := cell_of hX5 3
            have q4 := cell_of hX5 4
            have q5 := cell_of hX5 5
            simp only [List.getElem?_toArray, List.getElem?_cons_zero, List.getElem?_cons_succ] at q0 q1 q2 q3 q4 q5
            have HX5 := Lib.hid hX5
            clear hX5 hp hM1 hF1 HO5 HX4
            go_wp2_with (at_builtin; refine wpList_append_win _ rfl _ _ 26 rfl w.heap.size 24 i0 _ 6 40 Tryd.underlying26 HI.out HZ0.out HZ1.out HZ2.out rfl (by decide) _ _ _ rfl (HO6.out.row.below ((Below.refl _ _).alloc (Nat.le_refl _) _)) ⟨w5.heap.size, 0, none⟩ 1 1 (flatE [⟨kx, cx, ax, vx, nx, dx⟩]) rfl rfl (by exact cells_new w5 [_, _, _, _, _, _] _) (flatE_one _) (by omega) (by have := HL.out.1; unfold maxLen; omega) (by have := HL.out.1; omega) (by have := HO6.out.bel.size; simp; omega) ?_; intro g8 off8 cap8 w8 hrow8 hgrow8 hat8 hlt8; refine halt ?_)
            have HO7 := Lib.hid (HO6.out.more (e := ⟨kx, cx, ax, vx, nx, dx⟩) ((Below.refl _ _).alloc (Nat.le_refl _) _) hrow8 hgrow8 hat8)
            have hX8 : w8.heap[hE]? = some (.cells #[.int .i64 kx, .int .i64 cx, .int .i64 ax, .int .u32 vx, .int .u32 nx, .bool dx] 24 (0, 0)) := by
              have hl5 := (Array.getElem?_eq_some_iff.1 HX5.out).1
              rw [hgrow8.block hE (by simp; omega) (fun e => HNX.out.2.2 e.symm)]
              exact (((Below.refl w5.heap.size w5).alloc (Nat.le_refl _) _).block hE hl5).trans HX5.out
            rw [show row.length + 1 = (row ++ [(⟨kx, cx, ax, vx, nx, dx⟩ : Ev)]).length by simp]
            unfold Halt
            clear hrow8 hgrow8 hat8 hlt8 q0 q1 q2 q3 q4 q5
            have q0 := cell_of hX8 0
            have q1 := cell_of hX8 1
            have q2 := cell_of hX8 2
            have q3 := cell_of hX8 3
            have q4 := cell_of hX8 4
            have q5 := cell_of hX8 5
            simp only [List.getElem?_toArray, List.getElem?_cons_zero, List.getElem?_cons_succ] at q0 q1 q2 q3 q4 q5
            have HX8 := Lib.hid hX8
            clear hX8
            go_wp2_with fail
            refine (tstep_c A w.heap.size bt Ft B M ⟨kx, cx, ax, vx, nx, dx⟩ w8 (HS.out.below HO7.out.bel) HO7.out.t (by rw [HL.out.2.1.2]; omega) (fun k => by have := HL.out.2.2.1 k; omega)).mono ?_
            rintro ev w9 ⟨rfl, Ft', hp, hM1, hF1⟩
            rw [(st_ok HC.out).1, show ErrT.nil.val A = .nilIface from rfl]
            have HO8 := Lib.hid (HO7.out.stepT hp hM1 hF1)
            clear hp hM1 hF1 HO7 HX8 q0 q1 q2 q3 q4 q5
            go_wp2_with fail
            go_roundw
            case rel =>
              have h8 := HO8.out
              rw [show (row ++ [(⟨kx, cx, ax, vx, nx, dx⟩ : Ev)]).length = row.length + 1 by simp] at h8
              exact ⟨i + 1, F1', F2', Ft', row ++ [⟨kx, cx, ax, vx, nx, dx⟩], nxB B M ⟨kx, cx, ax, vx, nx, dx⟩, nxM B M ⟨kx, cx, ax, vx, nx, dx⟩, nxB B M ⟨kx, cx, ax, vx, nx, dx⟩, nxM B M ⟨kx, cx, ax, vx, nx, dx⟩, bt, by omega, by omega, by go_num, rfl, h8, HTK.out.snoc _ HC.out, by have := HL.out.1; simp; omega, by rw [nxB_length]; exact HL.out.2.1.1, by rw [nxM_length]; exact HL.out.2.1.2, nxB_le HL.out.2.2.1, fun _ => ⟨rfl, rfl⟩⟩
            case measure => simp [intOf] <;> omega
          · unfold nxB nxM at hr
            rw [if_neg hc, if_neg hc] at hr
            have HO5 := Lib.hid (HO4.out.stepR hr hM hF)
            obtain ⟨c, hcc⟩ : ∃ c, stC B M ⟨kx, cx, ax, vx, nx, dx⟩ = c := ⟨_, rfl⟩
            rw [hcc] at hc ⊢
            have hcb : ((c : Int) == 0) = false := by simpa using hc
            clear hr hM hF HO4 HXX hcc hc
            go_wp2_with fail
            go_roundw
            case rel => exact ⟨i + 1, F1, F2', Ft, row, B, M, B, M, bt, by omega, by omega, by go_num, rfl, HO5.out, HTK.out, by have := HL.out.1; omega, HL.out.2.1.1, HL.out.2.1.2, fun k => Nat.le_succ_of_le (HL.out.2.2.1 k), fun _ => ⟨rfl, rfl⟩⟩
            case measure => simp [intOf] <;> omega
    · by_cases hi1 : i < n
      · have g1 : decide (i < n) = true := by simp; omega
        have g2 : decide ((i : Int) < 40) = false := by simp; omega
        have HRS := Lib.hid HO.out.row.slc
        go_wp2_with fail
        refine (replay_c A k 4 _ row wr (HS.out.below HO.out.bel) (by have := HK.out; omega) (by have := HK.out; omega) (by omega) (by omega) HRS.out (by have := HL.out.1; omega)).mono ?_
        rintro ev w2 ⟨u2, rfl, hu2, hb2⟩
        rw [HTK.out.done.1, HTK.out.done.2] at hu2
        rw [HTK.out.done.1, show ErrT.nil.val A = .nilIface from rfl]
        have hu2 : winRow w2 wr.heap.size 22 1 u2 4 (u32V M) := hu2
        obtain ⟨a2, c2, rfl⟩ := hu2.len
        have HU2 := Lib.hid hu2.slc
        have HO2 := Lib.hid (HO.out.below hb2)
        clear hb2 hu2 HO HRS
        go_wp2_with fail
        refine (tmem_c w.heap.size b1 F1 B M w2 HO2.out.p (by have := HL.out.2.1.2; omega)).mono ?_
        rintro ev w3 ⟨u3, rfl, hu3, hb3⟩
        obtain ⟨a3, c3, rfl⟩ := hu3.len
        have HU3 := Lib.hid hu3.slc
        have HU2b := Lib.hid (HU2.out.below hb3)
        have HO3 := Lib.hid (HO2.out.below hb3)
        clear hb3 hu3 HO2 HU2
        go_wp2_with fail
        refine (sameU_c M M _ _ w3 (by rw [HL.out.2.1.2]; exact HU2b.out) HU3.out (by have := HL.out.2.1.2; omega) (by have := HL.out.2.1.2; omega)).mono ?_
        rintro ev w4 ⟨rfl, hb4⟩
        rw [decide_eq_true (rfl : M = M)]
        have HO4 := Lib.hid (HO3.out.below hb4)
        clear hb4 HO3 HU3 HU2b
        by_cases hnl : nn ≥ n
        · have g6 : decide ((nn : Int) ≥ n) = true := by simp; omega
          have g7 : decide (n ≤ nn) = true := by simp; omega
          go_wp2_with fail
          refine (tsoRuns A _ (HS.out.below HO4.out.bel)).mono ?_
          rintro ev w5 ⟨rfl, hb5⟩
          go_wp2_with fail
          go_ret
          exact ⟨rfl, HO4.out.bel.trans (hb5.mono HO4.out.bel.size)⟩
        · have g6 : decide ((nn : Int) ≥ n) = false := by simp; omega
          have g7 : decide (n ≤ nn) = false := by simp; omega
          have g8 : decide ((nn : Int) ≥ 40) = false := by have := HNN.out; simp; omega
          obtain ⟨rfl, rfl⟩ := HSM.out (by have := HNN.out; omega)
          go_wp2_with fail
          refine (tmem_c w.heap.size bt Ft Bt Mt w4 HO4.out.t (by have := HL.out.2.1.2; omega)).mono ?_
          rintro ev w5 ⟨u5, rfl, hu5, hb5⟩
          obtain ⟨a5, c5, rfl⟩ := hu5.len
          have HU5 := Lib.hid hu5.slc
          have HO5 := Lib.hid (HO4.out.below hb5)
          clear hb5 hu5 HO4
          go_wp2_with fail
          refine (tmem_c w.heap.size b1 F1 Bt Mt w5 HO5.out.p (by have := HL.out.2.1.2; omega)).mono ?_
          rintro ev w6 ⟨u6, rfl, hu6, hb6⟩
          obtain ⟨a6, c6, rfl⟩ := hu6.len
          have HU6 := Lib.hid hu6.slc
          have HU5b := Lib.hid (HU5.out.below hb6)
          have HO6 := Lib.hid (HO5.out.below hb6)
          clear hb6 hu6 HO5 HU5
          go_wp2_with fail
          refine (sameU_c Mt Mt _ _ w6 HU5b.out HU6.out (by have := HL.out.2.1.2; omega) (by have := HL.out.2.1.2; omega)).mono ?_
          rintro ev w7 ⟨rfl, hb7⟩
          rw [decide_eq_true (rfl : Mt = Mt)]
          have HO7 := Lib.hid (HO6.out.below hb7)
          clear hb7 HO6 HU6 HU5b
          go_wp2_with fail
          refine (tsoRuns A _ (HS.out.below HO7.out.bel)).mono ?_
          rintro ev w8 ⟨rfl, hb8⟩
          go_wp2_with fail
          go_ret
          exact ⟨rfl, HO7.out.bel.trans (hb8.mono HO7.out.bel.size)⟩
      · have g1 : decide (i < n) = false := by simp; omega
        have HRS := Lib.hid HO.out.row.slc
        go_wp2_with fail
        refine (replay_c A k 4 _ row wr (HS.out.below HO.out.bel) (by have := HK.out; omega) (by have := HK.out; omega) (by omega) (by omega) HRS.out (by have := HL.out.1; omega)).mono ?_
        rintro ev w2 ⟨u2, rfl, hu2, hb2⟩
        rw [HTK.out.done.1, HTK.out.done.2] at hu2
        rw [HTK.out.done.1, show ErrT.nil.val A = .nilIface from rfl]
        have hu2 : winRow w2 wr.heap.size 22 1 u2 4 (u32V M) := hu2
        obtain ⟨a2, c2, rfl⟩ := hu2.len
        have HU2 := Lib.hid hu2.slc
        have HO2 := Lib.hid (HO.out.below hb2)
        clear hb2 hu2 HO HRS
        go_wp2_with fail
        refine (tmem_c w.heap.size b1 F1 B M w2 HO2.out.p (by have := HL.out.2.1.2; omega)).mono ?_
        rintro ev w3 ⟨u3, rfl, hu3, hb3⟩
        obtain ⟨a3, c3, rfl⟩ := hu3.len
        have HU3 := Lib.hid hu3.slc
        have HU2b := Lib.hid (HU2.out.below hb3)
        have HO3 := Lib.hid (HO2.out.below hb3)
        clear hb3 hu3 HO2 HU2
        go_wp2_with fail
        refine (sameU_c M M _ _ w3 (by rw [HL.out.2.1.2]; exact HU2b.out) HU3.out (by have := HL.out.2.1.2; omega) (by have := HL.out.2.1.2; omega)).mono ?_
        rintro ev w4 ⟨rfl, hb4⟩
        rw [decide_eq_true (rfl : M = M)]
        have HO4 := Lib.hid (HO3.out.below hb4)
        clear hb4 HO3 HU3 HU2b
        by_cases hnl : nn ≥ n
        · have g6 : decide ((nn : Int) ≥ n) = true := by simp; omega
          have g7 : decide (n ≤ nn) = true := by simp; omega
          go_wp2_with fail
          refine (tsoRuns A _ (HS.out.below HO4.out.bel)).mono ?_
          rintro ev w5 ⟨rfl, hb5⟩
          go_wp2_with fail
          go_ret
          exact ⟨rfl, HO4.out.bel.trans (hb5.mono HO4.out.bel.size)⟩
        · have g6 : decide ((nn : Int) ≥ n) = false := by simp; omega
          have g7 : decide (n ≤ nn) = false := by simp; omega
          have g8 : decide ((nn : Int) ≥ 40) = false := by have := HNN.out; simp; omega
          obtain ⟨rfl, rfl⟩ := HSM.out (by have := HNN.out; omega)
          go_wp2_with fail
          refine (tmem_c w.heap.size bt Ft Bt Mt w4 HO4.out.t (by have := HL.out.2.1.2; omega)).mono ?_
          rintro ev w5 ⟨u5, rfl, hu5, hb5⟩
          obtain ⟨a5, c5, rfl⟩ := hu5.len
          have HU5 := Lib.hid hu5.slc
          have HO5 := Lib.hid (HO4.out.below hb5)
          clear hb5 hu5 HO4
          go_wp2_with fail
          refine (tmem_c w.heap.size b1 F1 Bt Mt w5 HO5.out.p (by have := HL.out.2.1.2; omega)).mono ?_
          rintro ev w6 ⟨u6, rfl, hu6, hb6⟩
          obtain ⟨a6, c6, rfl⟩ := hu6.len
          have HU6 := Lib.hid hu6.slc
          have HU5b := Lib.hid (HU5.out.below hb6)
          have HO6 := Lib.hid (HO5.out.below hb6)
          clear hb6 hu6 HO5 HU5
          go_wp2_with fail
          refine (sameU_c Mt Mt _ _ w6 HU5b.out HU6.out (by have := HL.out.2.1.2; omega) (by have := HL.out.2.1.2; omega)).mono ?_
          rintro ev w7 ⟨rfl, hb7⟩
          rw [decide_eq_true (rfl : Mt = Mt)]
          have HO7 := Lib.hid (HO6.out.below hb7)
          clear hb7 HO6 HU6 HU5b
          go_wp2_with fail
          refine (tsoRuns A _ (HS.out.below HO7.out.bel)).mono ?_
          rintro ev w8 ⟨rfl, hb8⟩
          go_wp2_with fail
          go_ret
          exact ⟨rfl, HO7.out.bel.trans (hb8.mono HO7.out.bel.size)⟩

end Go.Proofs.YtamklohnmbgklaaDoor
