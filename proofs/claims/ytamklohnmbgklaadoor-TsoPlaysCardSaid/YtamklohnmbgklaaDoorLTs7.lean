/- TsoRefuses: true; no condition but what a start gives. -/
import Derived.Test.YtamklohnmbgklaaDoorLTs1
import Derived.Test.YtamklohnmbgklaaDoorRTs5
import Derived.Test.YtamklohnmbgklaaDoorTs11
import Derived.Test.YtamklohnmbgklaaDoorEvArg
namespace Go.Proofs.YtamklohnmbgklaaDoor
open Go.RowKit Go.Extern.Stop Go.Stop Go.Extern

theorem rep_get0 (k j : Nat) : (List.replicate k ([] : List (Int × Int))).getD j [] = [] := by
  rw [List.getD_eq_getElem?_getD, List.getElem?_replicate]
  split <;> rfl
/-- The program's model and the document's, side by side. -/
structure Both (w0 wr : World) (lo1 lo2 b1 b2 : Nat) (F1 F2 : Nat → Prop) (B : Bufs) (M : List Int) (nc nw i : Nat) : Prop where
  p : Md tyP wr lo1 b1 F1 B M
  r : Md tyR wr lo2 b2 F2 B M
  dis : ∀ k, F1 k → ¬ F2 k
  lenB : B.length = nc
  lenM : M.length = nw
  len : ∀ k, (B.getD k []).length ≤ i
  bel : Below w0.heap.size w0 wr
  lo1 : w0.heap.size ≤ lo1
  lo2 : w0.heap.size ≤ lo2
section
variable {w0 wr w' : World} {lo1 lo2 b1 b2 : Nat} {F1 F2 : Nat → Prop} {B : Bufs} {M : List Int} {nc nw i : Nat}
theorem Both.below (h : Both w0 wr lo1 lo2 b1 b2 F1 F2 B M nc nw i) (hb : Below wr.heap.size wr w') : Both w0 w' lo1 lo2 b1 b2 F1 F2 B M nc nw i :=
  ⟨h.p.below hb, h.r.below hb, h.dis, h.lenB, h.lenM, h.len, h.bel.trans (hb.mono h.bel.size), h.lo1, h.lo2⟩
/-- The document's has gone on alone: if it refused, both stand as they stood. -/
theorem Both.no {e : Ev} {F2' : Nat → Prop} (h : Both w0 wr lo1 lo2 b1 b2 F1 F2 B M nc nw i) (hc : stC B M e ≠ 0) (hr : Md tyR w' lo2 b2 F2' (nxB B M e) (nxM B M e)) (hM : Mods F2 wr w') (hF : ∀ k, F2' k → F2 k ∨ wr.heap.size ≤ k) : Both w0 w' lo1 lo2 b1 b2 F1 F2' B M nc nw (i + 1) := by
  unfold nxB nxM at hr
  rw [if_neg hc, if_neg hc] at hr
  exact ⟨h.p.keep hM fun k hk => h.dis k hk, hr, fun k hk hk2 => (hF k hk2).elim (h.dis k hk) fun h3 => by have := (h.p.lt k hk).2; omega, h.lenB, h.lenM, fun k => Nat.le_succ_of_le (h.len k), h.bel.trans (hM.below h.bel.size fun k hk => Nat.le_trans h.lo2 (h.r.lt k hk).1), h.lo1, h.lo2⟩
/-- Both have gone on. -/
theorem Both.ok {e : Ev} {w2 w3 : World} {F1' F2' : Nat → Prop} (h : Both w0 wr lo1 lo2 b1 b2 F1 F2 B M nc nw i) (hr : Md tyR w' lo2 b2 F2' (nxB B M e) (nxM B M e)) (hM : Mods F2 wr w') (hF : ∀ k, F2' k → F2 k ∨ wr.heap.size ≤ k)
    (hb : Below w'.heap.size w' w2) (hp : Md tyP w3 lo1 b1 F1' (nxB B M e) (nxM B M e)) (hM1 : Mods F1 w2 w3) (hF1 : ∀ k, F1' k → F1 k ∨ w2.heap.size ≤ k) : Both w0 w3 lo1 lo2 b1 b2 F1' F2' (nxB B M e) (nxM B M e) nc nw (i + 1) := by
  have hr2 := hr.below hb
  have hd : ∀ k, F1 k → ¬ F2' k := fun k hk hk2 => (hF k hk2).elim (h.dis k hk) fun h3 => by have := (h.p.lt k hk).2; omega
  refine ⟨hp, hr2.keep hM1 fun k hk hk1 => hd k hk1 hk, fun k hk hk2 => (hF1 k hk).elim (fun h3 => hd k h3 hk2) fun h3 => by have := (hr2.lt k hk2).2; omega, by rw [nxB_length]; exact h.lenB, by rw [nxM_length]; exact h.lenM, nxB_le h.len, ?_, h.lo1, h.lo2⟩
  have h1 := h.bel.trans (hM.below h.bel.size fun k hk => Nat.le_trans h.lo2 (h.r.lt k hk).1)
  have h2 := h1.trans (hb.mono h1.size)
  exact h2.trans (hM1.below h2.size fun k hk => Nat.le_trans h.lo1 (h.p.lt k hk).1)
/-- The program's, where the document's has gone on alone. -/
theorem Both.mid {F2' : Nat → Prop} {B' : Bufs} {M' : List Int} (h : Both w0 wr lo1 lo2 b1 b2 F1 F2 B M nc nw i) (_hr : Md tyR w' lo2 b2 F2' B' M') (hM : Mods F2 wr w') : Md tyP w' lo1 b1 F1 B M ∧ Below w0.heap.size w0 w' :=
  ⟨h.p.keep hM fun k hk => h.dis k hk, h.bel.trans (hM.below h.bel.size fun k hk => Nat.le_trans h.lo2 (h.r.lt k hk).1)⟩
end

theorem twin_c (lo b : Nat) (F : Nat → Prop) (B : Bufs) (M : List Int) (w : World) (h : Md tyP w lo b F B M) (hlb : ∀ k, (B.getD k []).length ≤ 100000) (hBl : 0 < B.length ∧ B.length ≤ 64) (hMl : M.length ≤ 100000) :
    Calls Tryd.prog 30 #[.pointer (some ⟨b, 0, none⟩)] w fun ev w' => ∃ tb, ev = .returned (.pointer (some ⟨tb, 0, none⟩)) ∧ (∃ F, Md tyP w' w.heap.size tb F B M) ∧ Below w.heap.size w w' := by
  obtain ⟨vB, vM, vs, hA, _⟩ := h
  exact twin_at lo b vB vM vs B M w hA hlb hBl hMl

set_option maxRecDepth 100000 in
set_option maxHeartbeats 16000000 in
theorem tsoRefuses (A : Nat → Addr) (v : Value) (n : Nat) (l : List Ev) (bad : Ev) (w : World) (hs : SentAt w A) (h1 : EvsAt w v n l) (_h2 : True) :
    Calls Tryd.prog 12 #[v, bad.v] w (TruePost w) := by
  obtain ⟨kd, co, ad, va, ne, dn⟩ := bad
  have hn := h1.big
  obtain ⟨hlen, ap, cp, rfl, hcc⟩ := h1.sl
  have hll := h1.len
  have HCC := Lib.hid hcc
  have HLL := Lib.hid hll
  have hb0 : Below w.heap.size w (w.alloc (.cells #[.int .i64 kd, .int .i64 co, .int .i64 ad, .int .u32 va, .int .u32 ne, .bool dn] 24)) := (Below.refl _ _).alloc (Nat.le_refl _) _
  have hX := heap_alloc_new w (.cells #[.int .i64 kd, .int .i64 co, .int .i64 ad, .int .u32 va, .int .u32 ne, .bool dn] 24)
  have HB0 := Lib.hid hb0
  have HX := Lib.hid hX
  have HS := Lib.hid (hs.below hb0)
  unfold maxLen at hn
  clear h1 hlen hcc hll hb0 hX hs
  simp only [Ev.v]
  go_enter Tryd.func12, Tryd.ntmps12
  go_wp2_with fail
  generalize hW0 : w.alloc (.cells #[.int .i64 kd, .int .i64 co, .int .i64 ad, .int .u32 va, .int .u32 ne, .bool dn] 24) = W0 at *
  obtain ⟨hE, hhE⟩ : ∃ hE, hE = w.heap.size := ⟨_, rfl⟩
  have HX := Lib.hid (show W0.heap[hE]? = some (.cells #[.int .i64 kd, .int .i64 co, .int .i64 ad, .int .u32 va, .int .u32 ne, .bool dn] 24 (0, 0)) by rw [hhE]; exact HX.out)
  rw [← hhE]
  clear hW0 hhE
  refine (tnew_ok 2 4 W0 (by omega) (by omega) (by omega) (by omega)).mono ?_
  rintro ev w1 ⟨b1, rfl, ⟨F1, hF1⟩, hb1⟩
  have HF1 := Lib.hid hF1
  have HB1 := Lib.hid hb1
  clear hF1 hb1
  go_wp2_with fail
  refine (mnew_ok 2 4 w1 (by omega) (by omega) (by omega) (by omega)).mono ?_
  rintro ev w2 ⟨b2, rfl, ⟨F2, hF2⟩, hb2⟩
  have HBO := Lib.hid (show Both W0 w2 W0.heap.size w1.heap.size b1 b2 F1 F2 (List.replicate 2 []) (List.replicate 4 0) 2 4 0 from ⟨HF1.out.below hb2, hF2, fun k hk hk2 => by have := (HF1.out.lt k hk).2; have := (hF2.lt k hk2).1; omega, by simp, by simp, fun k => by rw [rep_get0]; exact Nat.le_refl _, HB1.out.trans (hb2.mono HB1.out.size), Nat.le_refl _, HB1.out.size⟩)
  obtain ⟨lo2, hlo2⟩ : ∃ lo2, lo2 = w1.heap.size := ⟨_, rfl⟩
  rw [← hlo2] at HBO
  clear hF2 hb2 HF1 HB1 hlo2
  go_wp2_with fail
  go_loopw [9] (fun s9 wr => ∃ (i : Nat) (F1 F2 : Nat → Prop) (B : Bufs) (M : List Int), i ≤ n ∧ i ≤ 30 ∧ s9 = .int .i64 i ∧ Both W0 wr W0.heap.size lo2 b1 b2 F1 F2 B M 2 4 i) (fun s9 _ => 30 - (intOf s9).toNat)
  case atStart => exact ⟨0, F1, F2, _, _, by omega, by omega, rfl, HBO.out⟩
  case round =>
    clear HBO
    obtain ⟨i, F1, F2, B, M, hin, hi30, rfl, hO⟩ := hrel
    have HO := Lib.hid hO
    clear hO
    by_cases hi : i < n ∧ i < 30
    · obtain ⟨hi1, hi2⟩ := hi
      have g1 : decide (i < n) = true := by simp; omega
      have g2 : decide ((i : Int) < 30) = true := by simp; omega
      obtain ⟨g, off, rfl, hg, hc⟩ := HCC.out (by omega)
      obtain ⟨e, he⟩ : ∃ e, l[i]? = some e := ⟨_, List.getElem?_eq_getElem (by rw [HLL.out]; exact hi1)⟩
      have hg0 := Nat.lt_of_lt_of_le hg HB0.out.size
      have e0 := (HO.out.bel.cell (p := ⟨g, off + (i * 6 + 0), none⟩) hg0).trans ((HB0.out.cell (p := ⟨g, off + (i * 6 + 0), none⟩) hg).trans (hc _ _ (flatE_at he (c := 0) rfl)))
      have e1 := (HO.out.bel.cell (p := ⟨g, off + (i * 6 + 1), none⟩) hg0).trans ((HB0.out.cell (p := ⟨g, off + (i * 6 + 1), none⟩) hg).trans (hc _ _ (flatE_at he (c := 1) rfl)))
      have e2 := (HO.out.bel.cell (p := ⟨g, off + (i * 6 + 2), none⟩) hg0).trans ((HB0.out.cell (p := ⟨g, off + (i * 6 + 2), none⟩) hg).trans (hc _ _ (flatE_at he (c := 2) rfl)))
      have e3 := (HO.out.bel.cell (p := ⟨g, off + (i * 6 + 3), none⟩) hg0).trans ((HB0.out.cell (p := ⟨g, off + (i * 6 + 3), none⟩) hg).trans (hc _ _ (flatE_at he (c := 3) rfl)))
      have e4 := (HO.out.bel.cell (p := ⟨g, off + (i * 6 + 4), none⟩) hg0).trans ((HB0.out.cell (p := ⟨g, off + (i * 6 + 4), none⟩) hg).trans (hc _ _ (flatE_at he (c := 4) rfl)))
      have e5 := (HO.out.bel.cell (p := ⟨g, off + (i * 6 + 5), none⟩) hg0).trans ((HB0.out.cell (p := ⟨g, off + (i * 6 + 5), none⟩) hg).trans (hc _ _ (flatE_at he (c := 5) rfl)))
      rw [Nat.add_zero] at e0
      rw [← Nat.add_assoc] at e1 e2 e3 e4 e5
      clear hc he hg hg0
      obtain ⟨ka, ca, aa, xa, na, da⟩ := e
      simp only at e0 e1 e2 e3 e4 e5
      go_wp2_with fail
      refine (fit_c lo2 b2 F2 B M ⟨ka, ca, aa, xa, na, da⟩ wr HO.out.r).mono ?_
      rintro ev w3 ⟨rfl, hb3⟩
      have HO3 := Lib.hid (HO.out.below hb3)
      clear hb3 e0 e1 e2 e3 e4 e5 HO
      generalize fitE B M ⟨ka, ca, aa, xa, na, da⟩ = x at *
      obtain ⟨kx, cx, ax, vx, nx, dx⟩ := x
      simp only [Ev.v]
      have hba : Below w3.heap.size w3 (w3.alloc (.cells #[.int .i64 kx, .int .i64 cx, .int .i64 ax, .int .u32 vx, .int .u32 nx, .bool dx] 24)) := (Below.refl _ _).alloc (Nat.le_refl _) _
      have HO4 := Lib.hid (HO3.out.below hba)
      have hXX := heap_alloc_new w3 (.cells #[.int .i64 kx, .int .i64 cx, .int .i64 ax, .int .u32 vx, .int .u32 nx, .bool dx] 24)
      have hxn : ∀ k, F2 k → k ≠ w3.heap.size := fun k hk e => by have := (HO3.out.r.lt k hk).2; omega
      have HXX := Lib.hid hXX
      have HXN := Lib.hid hxn
      clear hba HO3 hXX hxn
      go_wp2_with fail
      refine (rstep_c lo2 b2 F2 B M ⟨kx, cx, ax, vx, nx, dx⟩ _ HO4.out.r (fun k => by have := HO4.out.len k; omega)).mono ?_
      rintro ev w4 ⟨rfl, F2', hr, hM, hF⟩
      by_cases hc : stC B M ⟨kx, cx, ax, vx, nx, dx⟩ = 0
      · rw [show ((stC B M ⟨kx, cx, ax, vx, nx, dx⟩ : Nat) : Int) = 0 by rw [hc]; rfl]
        obtain ⟨hp4, hb4⟩ := HO4.out.mid hr hM
        have hX4 := (hM.block w3.heap.size (Array.getElem?_eq_some_iff.1 HXX.out).1 (fun hk => HXN.out _ hk rfl)).trans HXX.out
        have q0 := cell_of hX4 0
        have q1 := cell_of hX4 1
        have q2 := cell_of hX4 2
        have q3 := cell_of hX4 3
        have q4 := cell_of hX4 4
        have q5 := cell_of hX4 5
        simp only [List.getElem?_toArray, List.getElem?_cons_zero, List.getElem?_cons_succ] at q0 q1 q2 q3 q4 q5
        have HP4 := Lib.hid hp4
        have HB4 := Lib.hid hb4
        have HC := Lib.hid hc
        have HR := Lib.hid hr
        have HM := Lib.hid hM
        have HF := Lib.hid hF
        clear hX4 hp4 hb4 hc hr hM hF
        go_wp2_with fail
        refine (tstep_c A W0.heap.size b1 F1 B M ⟨kx, cx, ax, vx, nx, dx⟩ w4 (HS.out.below HB4.out) HP4.out (by rw [HO4.out.lenM]; omega) (fun k => by have := HO4.out.len k; omega)).mono ?_
        rintro ev w5 ⟨rfl, F1', hp, hM1, hF1⟩
        rw [(st_ok HC.out).1, show ErrT.nil.val A = .nilIface from rfl]
        have HO5 := Lib.hid (HO4.out.ok HR.out HM.out HF.out (Below.refl _ _) hp hM1 hF1)
        clear hp hM1 hF1 q0 q1 q2 q3 q4 q5 HP4 HB4 HR HM HF HXX HXN HO4
        go_wp2_with fail
        go_roundw
        case rel => exact ⟨i + 1, F1', F2', _, _, by omega, by omega, by go_num, HO5.out⟩
        case measure => simp [intOf] <;> omega
      · have HO5 := Lib.hid (HO4.out.no hc hr hM hF)
        obtain ⟨c, hcc⟩ : ∃ c, stC B M ⟨kx, cx, ax, vx, nx, dx⟩ = c := ⟨_, rfl⟩
        rw [hcc] at hc ⊢
        have hcb : ((c : Int) == 0) = false := by simpa using hc
        clear hr hM hF HO4 HXX HXN hcc hc
        go_wp2_with fail
        go_roundw
        case rel => exact ⟨i + 1, F1, F2', B, M, by omega, by omega, by go_num, HO5.out⟩
        case measure => simp [intOf] <;> omega
    · by_cases hi1 : i < n
      · have g1 : decide (i < n) = true := by simp; omega
        have g2 : decide ((i : Int) < 30) = false := by simp; omega
        go_wp2_with fail
        refine (twin_c W0.heap.size b1 F1 B M wr HO.out.p (fun k => by have := HO.out.len k; omega) (by rw [HO.out.lenB]; omega) (by rw [HO.out.lenM]; omega)).mono ?_
        rintro ev w3 ⟨tb, rfl, ⟨Ft, hFt⟩, hb3⟩
        have HFT := Lib.hid hFt
        have HDT := Lib.hid (show ∀ k, F1 k → ¬ Ft k from fun k hk hk2 => by have := (HO.out.p.lt k hk).2; have := (hFt.lt k hk2).1; omega)
        have HO3 := Lib.hid (HO.out.below hb3)
        have hX3 := (HO3.out.bel.block hE (Array.getElem?_eq_some_iff.1 HX.out).1).trans HX.out
        have HTW := Lib.hid (Nat.le_trans HO.out.bel.size (Nat.le_refl wr.heap.size))
        have q0 := cell_of hX3 0
        have q1 := cell_of hX3 1
        have q2 := cell_of hX3 2
        have q3 := cell_of hX3 3
        have q4 := cell_of hX3 4
        have q5 := cell_of hX3 5
        simp only [List.getElem?_toArray, List.getElem?_cons_zero, List.getElem?_cons_succ] at q0 q1 q2 q3 q4 q5
        clear hFt hb3 hX3 HO
        go_wp2_with fail
        refine (tstep_c A W0.heap.size b1 F1 B M ⟨kd, co, ad, va, ne, dn⟩ w3 (HS.out.below HO3.out.bel) HO3.out.p (by rw [HO3.out.lenM]; omega) (fun k => by have := HO3.out.len k; omega)).mono ?_
        rintro ev w4 ⟨rfl, F1', hp, hM1, hF1⟩
        have HB4 := Lib.hid (HO3.out.bel.trans (hM1.below HO3.out.bel.size fun k hk => (HO3.out.p.lt k hk).1))
        by_cases hc : stC B M ⟨kd, co, ad, va, ne, dn⟩ = 0
        · rw [(st_ok hc).1, show ErrT.nil.val A = .nilIface from rfl]
          clear hc hp hM1 hF1 q0 q1 q2 q3 q4 q5
          go_wp2_with fail
          refine (tsoRuns A _ (HS.out.below HB4.out)).mono ?_
          rintro ev w5 ⟨rfl, hb5⟩
          go_wp2_with fail
          go_ret
          exact ⟨rfl, HB0.out.trans ((HB4.out.trans (hb5.mono HB4.out.size)).mono HB0.out.size)⟩
        · obtain ⟨c, hcc⟩ : ∃ c, stC B M ⟨kd, co, ad, va, ne, dn⟩ = c + 1 := ⟨stC B M ⟨kd, co, ad, va, ne, dn⟩ - 1, by omega⟩
          obtain ⟨s1, s2, s3⟩ := st_no hcc
          rw [s2, s3] at hp
          rw [s1, wrap_val]
          have HP := Lib.hid hp
          have HT := Lib.hid (HFT.out.keep hM1 fun k hk hk1 => HDT.out k hk1 hk)
          have HLB := Lib.hid HO3.out.lenB
          have HLM := Lib.hid HO3.out.lenM
          clear hc hp hM1 hF1 hcc s1 s2 s3 q0 q1 q2 q3 q4 q5 HFT HDT HO3
          have gx : ∀ x : Int, (x != x) = false := fun x => by simp
          go_wp2_with fail
          go_loopw [12] (fun s12 wq => ∃ c : Nat, c ≤ 2 ∧ s12 = .int .i64 c ∧ w4 = wq) (fun s12 _ => 2 - (intOf s12).toNat)
          case atStart => exact ⟨0, by omega, rfl, rfl⟩
          case round =>
            obtain ⟨c, hc2, rfl, rfl⟩ := hrel
            by_cases hcl : c < 2
            · have g5 : decide ((c : Int) < 2) = true := by simp; omega
              go_wp2_with fail
              go_loopw [13] (fun s13 wq => ∃ a : Nat, a ≤ 4 ∧ s13 = .int .i64 a ∧ w4 = wq) (fun s13 _ => 4 - (intOf s13).toNat)
              case atStart => exact ⟨0, by omega, rfl, rfl⟩
              case round =>
                obtain ⟨a, ha4, rfl, rfl⟩ := hrel
                by_cases hal : a < 4
                · have g6 : decide ((a : Int) < 4) = true := by simp; omega
                  have HOK := Lib.hid (show okC B (c : Int) ∧ okA M (a : Int) from ⟨⟨by omega, by rw [HLB.out]; omega⟩, ⟨by omega, by rw [HLM.out]; omega⟩⟩)
                  obtain ⟨rv, hrv⟩ : ∃ rv, rdS B M c a = rv := ⟨_, rfl⟩
                  have HRV := Lib.hid hrv
                  have g7 := gx rv
                  clear hrv
                  go_wp2_with fail
                  refine (trd_c W0.heap.size b1 F1' B M c a w4 HP.out).mono ?_
                  rintro ev w' ⟨rfl, hww⟩
                  obtain rfl := hww
                  rw [if_pos HOK.out, decide_eq_true HOK.out, HRV.out]
                  go_wp2_with fail
                  refine (trd_c wr.heap.size tb Ft B M c a w4 HT.out).mono ?_
                  rintro ev w' ⟨rfl, hww⟩
                  obtain rfl := hww
                  rw [if_pos HOK.out, decide_eq_true HOK.out, HRV.out]
                  go_wp2_with fail
                  go_roundw
                  case rel => exact ⟨a + 1, by omega, by go_num, trivial⟩
                  case measure => simp [intOf] <;> omega
                · have g6 : decide ((a : Int) < 4) = false := by simp; omega
                  obtain ⟨wt, hwt⟩ : ∃ wt : Nat, (if okC B (c : Int) then (B.getD (Int.toNat (c : Int)) []).length else 0 : Nat) = wt := ⟨_, rfl⟩
                  have HWT := Lib.hid hwt
                  have g7 := gx (wt : Int)
                  clear hwt
                  go_wp2_with fail
                  refine (twt_c W0.heap.size b1 F1' B M c w4 HP.out (by rw [HLM.out]; omega)).mono ?_
                  rintro ev w' ⟨rfl, hww⟩
                  obtain rfl := hww
                  rw [HWT.out]
                  go_wp2_with fail
                  refine (twt_c wr.heap.size tb Ft B M c w4 HT.out (by rw [HLM.out]; omega)).mono ?_
                  rintro ev w' ⟨rfl, hww⟩
                  obtain rfl := hww
                  rw [HWT.out]
                  go_wp2_with fail
                  go_roundw
                  case rel => exact ⟨c + 1, by omega, by go_num, trivial⟩
                  case measure => simp [intOf] <;> omega
            · have g5 : decide ((c : Int) < 2) = false := by simp; omega
              go_wp2_with fail
              refine (tmem_c W0.heap.size b1 F1' B M w4 HP.out (by rw [HLM.out]; omega)).mono ?_
              rintro ev w5 ⟨u1, rfl, hu1, hb5⟩
              have HT5 := Lib.hid (HT.out.below hb5)
              have HB5 := Lib.hid (HB4.out.trans (hb5.mono HB4.out.size))
              obtain ⟨ad1, cp1, rfl⟩ := hu1.len
              have HU1 := Lib.hid hu1.slc
              clear hu1 hb5
              go_wp2_with fail
              refine (tmem_c wr.heap.size tb Ft B M w5 HT5.out (by rw [HLM.out]; omega)).mono ?_
              rintro ev w6 ⟨u2, rfl, hu2, hb6⟩
              have HU1b := Lib.hid (HU1.out.below hb6)
              have HB6 := Lib.hid (HB5.out.trans (hb6.mono HB5.out.size))
              obtain ⟨ad2, cp2, rfl⟩ := hu2.len
              have HU2 := Lib.hid hu2.slc
              clear hu2 hb6 HU1
              go_wp2_with fail
              refine (sameU_c M M _ _ w6 HU1b.out HU2.out (by rw [HLM.out]; omega) (by rw [HLM.out]; omega)).mono ?_
              rintro ev w7 ⟨rfl, hb7⟩
              rw [decide_eq_true rfl]
              have HB7 := Lib.hid (HB6.out.trans (hb7.mono HB6.out.size))
              clear hb7
              go_wp2_with fail
              refine (tsoRuns A _ (HS.out.below HB7.out)).mono ?_
              rintro ev w8 ⟨rfl, hb8⟩
              go_wp2_with fail
              go_ret
              exact ⟨rfl, HB0.out.trans ((HB7.out.trans (hb8.mono HB7.out.size)).mono HB0.out.size)⟩
      · have g1 : decide (i < n) = false := by simp; omega
        go_wp2_with fail
        refine (twin_c W0.heap.size b1 F1 B M wr HO.out.p (fun k => by have := HO.out.len k; omega) (by rw [HO.out.lenB]; omega) (by rw [HO.out.lenM]; omega)).mono ?_
        rintro ev w3 ⟨tb, rfl, ⟨Ft, hFt⟩, hb3⟩
        have HFT := Lib.hid hFt
        have HDT := Lib.hid (show ∀ k, F1 k → ¬ Ft k from fun k hk hk2 => by have := (HO.out.p.lt k hk).2; have := (hFt.lt k hk2).1; omega)
        have HO3 := Lib.hid (HO.out.below hb3)
        have hX3 := (HO3.out.bel.block hE (Array.getElem?_eq_some_iff.1 HX.out).1).trans HX.out
        have HTW := Lib.hid (Nat.le_trans HO.out.bel.size (Nat.le_refl wr.heap.size))
        have q0 := cell_of hX3 0
        have q1 := cell_of hX3 1
        have q2 := cell_of hX3 2
        have q3 := cell_of hX3 3
        have q4 := cell_of hX3 4
        have q5 := cell_of hX3 5
        simp only [List.getElem?_toArray, List.getElem?_cons_zero, List.getElem?_cons_succ] at q0 q1 q2 q3 q4 q5
        clear hFt hb3 hX3 HO
        go_wp2_with fail
        refine (tstep_c A W0.heap.size b1 F1 B M ⟨kd, co, ad, va, ne, dn⟩ w3 (HS.out.below HO3.out.bel) HO3.out.p (by rw [HO3.out.lenM]; omega) (fun k => by have := HO3.out.len k; omega)).mono ?_
        rintro ev w4 ⟨rfl, F1', hp, hM1, hF1⟩
        have HB4 := Lib.hid (HO3.out.bel.trans (hM1.below HO3.out.bel.size fun k hk => (HO3.out.p.lt k hk).1))
        by_cases hc : stC B M ⟨kd, co, ad, va, ne, dn⟩ = 0
        · rw [(st_ok hc).1, show ErrT.nil.val A = .nilIface from rfl]
          clear hc hp hM1 hF1 q0 q1 q2 q3 q4 q5
          go_wp2_with fail
          refine (tsoRuns A _ (HS.out.below HB4.out)).mono ?_
          rintro ev w5 ⟨rfl, hb5⟩
          go_wp2_with fail
          go_ret
          exact ⟨rfl, HB0.out.trans ((HB4.out.trans (hb5.mono HB4.out.size)).mono HB0.out.size)⟩
        · obtain ⟨c, hcc⟩ : ∃ c, stC B M ⟨kd, co, ad, va, ne, dn⟩ = c + 1 := ⟨stC B M ⟨kd, co, ad, va, ne, dn⟩ - 1, by omega⟩
          obtain ⟨s1, s2, s3⟩ := st_no hcc
          rw [s2, s3] at hp
          rw [s1, wrap_val]
          have HP := Lib.hid hp
          have HT := Lib.hid (HFT.out.keep hM1 fun k hk hk1 => HDT.out k hk1 hk)
          have HLB := Lib.hid HO3.out.lenB
          have HLM := Lib.hid HO3.out.lenM
          clear hc hp hM1 hF1 hcc s1 s2 s3 q0 q1 q2 q3 q4 q5 HFT HDT HO3
          have gx : ∀ x : Int, (x != x) = false := fun x => by simp
          go_wp2_with fail
          go_loopw [12] (fun s12 wq => ∃ c : Nat, c ≤ 2 ∧ s12 = .int .i64 c ∧ w4 = wq) (fun s12 _ => 2 - (intOf s12).toNat)
          case atStart => exact ⟨0, by omega, rfl, rfl⟩
          case round =>
            obtain ⟨c, hc2, rfl, rfl⟩ := hrel
            by_cases hcl : c < 2
            · have g5 : decide ((c : Int) < 2) = true := by simp; omega
              go_wp2_with fail
              go_loopw [13] (fun s13 wq => ∃ a : Nat, a ≤ 4 ∧ s13 = .int .i64 a ∧ w4 = wq) (fun s13 _ => 4 - (intOf s13).toNat)
              case atStart => exact ⟨0, by omega, rfl, rfl⟩
              case round =>
                obtain ⟨a, ha4, rfl, rfl⟩ := hrel
                by_cases hal : a < 4
                · have g6 : decide ((a : Int) < 4) = true := by simp; omega
                  have HOK := Lib.hid (show okC B (c : Int) ∧ okA M (a : Int) from ⟨⟨by omega, by rw [HLB.out]; omega⟩, ⟨by omega, by rw [HLM.out]; omega⟩⟩)
                  obtain ⟨rv, hrv⟩ : ∃ rv, rdS B M c a = rv := ⟨_, rfl⟩
                  have HRV := Lib.hid hrv
                  have g7 := gx rv
                  clear hrv
                  go_wp2_with fail
                  refine (trd_c W0.heap.size b1 F1' B M c a w4 HP.out).mono ?_
                  rintro ev w' ⟨rfl, hww⟩
                  obtain rfl := hww
                  rw [if_pos HOK.out, decide_eq_true HOK.out, HRV.out]
                  go_wp2_with fail
                  refine (trd_c wr.heap.size tb Ft B M c a w4 HT.out).mono ?_
                  rintro ev w' ⟨rfl, hww⟩
                  obtain rfl := hww
                  rw [if_pos HOK.out, decide_eq_true HOK.out, HRV.out]
                  go_wp2_with fail
                  go_roundw
                  case rel => exact ⟨a + 1, by omega, by go_num, trivial⟩
                  case measure => simp [intOf] <;> omega
                · have g6 : decide ((a : Int) < 4) = false := by simp; omega
                  obtain ⟨wt, hwt⟩ : ∃ wt : Nat, (if okC B (c : Int) then (B.getD (Int.toNat (c : Int)) []).length else 0 : Nat) = wt := ⟨_, rfl⟩
                  have HWT := Lib.hid hwt
                  have g7 := gx (wt : Int)
                  clear hwt
                  go_wp2_with fail
                  refine (twt_c W0.heap.size b1 F1' B M c w4 HP.out (by rw [HLM.out]; omega)).mono ?_
                  rintro ev w' ⟨rfl, hww⟩
                  obtain rfl := hww
                  rw [HWT.out]
                  go_wp2_with fail
                  refine (twt_c wr.heap.size tb Ft B M c w4 HT.out (by rw [HLM.out]; omega)).mono ?_
                  rintro ev w' ⟨rfl, hww⟩
                  obtain rfl := hww
                  rw [HWT.out]
                  go_wp2_with fail
                  go_roundw
                  case rel => exact ⟨c + 1, by omega, by go_num, trivial⟩
                  case measure => simp [intOf] <;> omega
            · have g5 : decide ((c : Int) < 2) = false := by simp; omega
              go_wp2_with fail
              refine (tmem_c W0.heap.size b1 F1' B M w4 HP.out (by rw [HLM.out]; omega)).mono ?_
              rintro ev w5 ⟨u1, rfl, hu1, hb5⟩
              have HT5 := Lib.hid (HT.out.below hb5)
              have HB5 := Lib.hid (HB4.out.trans (hb5.mono HB4.out.size))
              obtain ⟨ad1, cp1, rfl⟩ := hu1.len
              have HU1 := Lib.hid hu1.slc
              clear hu1 hb5
              go_wp2_with fail
              refine (tmem_c wr.heap.size tb Ft B M w5 HT5.out (by rw [HLM.out]; omega)).mono ?_
              rintro ev w6 ⟨u2, rfl, hu2, hb6⟩
              have HU1b := Lib.hid (HU1.out.below hb6)
              have HB6 := Lib.hid (HB5.out.trans (hb6.mono HB5.out.size))
              obtain ⟨ad2, cp2, rfl⟩ := hu2.len
              have HU2 := Lib.hid hu2.slc
              clear hu2 hb6 HU1
              go_wp2_with fail
              refine (sameU_c M M _ _ w6 HU1b.out HU2.out (by rw [HLM.out]; omega) (by rw [HLM.out]; omega)).mono ?_
              rintro ev w7 ⟨rfl, hb7⟩
              rw [decide_eq_true rfl]
              have HB7 := Lib.hid (HB6.out.trans (hb7.mono HB6.out.size))
              clear hb7
              go_wp2_with fail
              refine (tsoRuns A _ (HS.out.below HB7.out)).mono ?_
              rintro ev w8 ⟨rfl, hb8⟩
              go_wp2_with fail
              go_ret
              exact ⟨rfl, HB0.out.trans ((HB7.out.trans (hb8.mono HB7.out.size)).mono HB0.out.size)⟩

end Go.Proofs.YtamklohnmbgklaaDoor
