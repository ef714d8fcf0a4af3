/- TsoHides: true; no condition but what a start gives. -/
import Derived.Test.YtamklohnmbgklaaDoorLTs2
import Derived.Test.YtamklohnmbgklaaDoorTs10
namespace Go.Proofs.YtamklohnmbgklaaDoor
open Go.RowKit Go.Extern.Stop Go.Stop Go.Extern

/-- So many cores, of which one has these stores. -/
def hB (n c : Nat) (L : List (Int × Int)) : Bufs := (List.replicate n []).set c L
theorem hB_length (n c : Nat) (L : List (Int × Int)) : (hB n c L).length = n := by simp [hB]
theorem hB_getD {n c : Nat} (L : List (Int × Int)) (hc : c < n) (j : Nat) : (hB n c L).getD j [] = if j = c then L else [] := by
  unfold hB
  rw [getD_set', rep_getD, List.length_replicate]
  by_cases h : j = c
  · subst h
    rw [if_pos ⟨rfl, hc⟩, if_pos rfl]
  · rw [if_neg (fun hh => h hh.1.symm), if_neg h]
theorem hB_le {n c m : Nat} {L : List (Int × Int)} (hc : c < n) (h : L.length ≤ m) : ∀ k, ((hB n c L).getD k []).length ≤ m := by
  intro k
  rw [hB_getD L hc]
  split
  · exact h
  · simp
theorem hB_nil (n c : Nat) : hB n c [] = List.replicate n [] := by
  unfold hB
  apply List.ext_getElem?
  intro j
  rw [List.getElem?_set]
  by_cases h : c = j
  · subst h
    by_cases hl : c < n
    · simp [hl]
    · simp [hl]
  · rw [if_neg h]
theorem hB_set (n c : Nat) (L L' : List (Int × Int)) : (hB n c L).set c L' = hB n c L' := by simp [hB]
theorem okC_hB {n c : Nat} {L : List (Int × Int)} {k : Int} (h0 : 0 ≤ k) (h1 : k < n) : okC (hB n c L) k := ⟨h0, by rw [hB_length]; exact h1⟩
theorem okA_of {M : List Int} {a : Nat} (h : a < M.length) : okA M (a : Int) := ⟨by omega, by omega⟩

theorem hid_cas {n c a : Nat} {M : List Int} (hc : c < n) (ha : a < M.length) (hm : M.getD a 0 = 0) (x : Int) : stC (hB n c []) M ⟨4, c, a, 0, x, true⟩ = 0 ∧ stB (hB n c []) ⟨4, c, a, 0, x, true⟩ = hB n c [] ∧ stM M ⟨4, c, a, 0, x, true⟩ = M.set a x := by
  have h1 : okC (hB n c []) (c : Int) := okC_hB (by omega) (by omega)
  have h2 := okA_of ha
  refine ⟨?_, rfl, rfl⟩
  simp only [stC, h1, h2, Int.toNat_natCast, hm, hB_getD [] hc]
  simp
theorem hid_store {n c a : Nat} {M : List Int} (hc : c < n) (ha : a < M.length) (x : Int) : stC (hB n c []) M ⟨2, c, a, x, 0, false⟩ = 0 ∧ stB (hB n c []) ⟨2, c, a, x, 0, false⟩ = hB n c [((a : Int), x)] ∧ stM M ⟨2, c, a, x, 0, false⟩ = M := by
  have h1 : okC (hB n c []) (c : Int) := okC_hB (by omega) (by omega)
  have h2 := okA_of ha
  refine ⟨by simp [stC, h1, h2], ?_, rfl⟩
  simp only [stB, Int.toNat_natCast, hB_getD [] hc]
  simp [hB_set]
theorem hid_rd {n c a k : Nat} {M : List Int} (hc : c < n) (x : Int) : rdS (hB n c [((a : Int), x)]) M k a = if k = c then x else M.getD a 0 := by
  unfold rdS
  rw [Int.toNat_natCast, hB_getD _ hc, Int.toNat_natCast]
  by_cases h : k = c
  · rw [if_pos h, if_pos h]
    simp [fwdF]
  · rw [if_neg h, if_neg h]
    simp [fwdF]
theorem hid_rd0 {n a k : Nat} {M : List Int} : rdS (List.replicate n []) M k a = M.getD a 0 := by
  unfold rdS
  rw [rep_getD]
  simp [fwdF]
theorem load_ok {B : Bufs} {M : List Int} {k a : Nat} (hk : k < B.length) (ha : a < M.length) {x : Int} (h : rdS B M k a = x) : stC B M ⟨1, k, a, x, 0, false⟩ = 0 := by
  have h1 : okC B (k : Int) := ⟨by omega, by omega⟩
  simp [stC, h1, okA_of ha, h]
theorem load_no {B : Bufs} {M : List Int} {k a : Nat} (hk : k < B.length) (ha : a < M.length) {x : Int} (h : rdS B M k a ≠ x) : stC B M ⟨1, k, a, x, 0, false⟩ = 9 + 1 := by
  have h1 : okC B (k : Int) := ⟨by omega, by omega⟩
  simp [stC, h1, okA_of ha, h]
theorem hid_c9 {n c d a : Nat} {M : List Int} {L : List (Int × Int)} (hc : c < n) (hd : d < n) (hne : d ≠ c) (ha : a < M.length) (x : Int) : stC (hB n c L) M ⟨3, d, a, x, 0, false⟩ = 8 + 1 := by
  have h1 : okC (hB n c L) (d : Int) := okC_hB (by omega) (by omega)
  simp only [stC, h1, okA_of ha, Int.toNat_natCast, hB_getD L hc, if_neg hne]
  simp
theorem hid_c10 {n c a : Nat} {M : List Int} (hc : c < n) (ha : a < M.length) {x y : Int} (h : x ≠ y) : stC (hB n c [((a : Int), x)]) M ⟨3, c, a, y, 0, false⟩ = 9 + 1 := by
  have h1 : okC (hB n c [((a : Int), x)]) (c : Int) := okC_hB (by omega) (by omega)
  simp only [stC, h1, okA_of ha, Int.toNat_natCast, hB_getD _ hc]
  simp [h]
theorem hid_c0 {n c a : Nat} {M : List Int} (hc : c < n) (ha : a < M.length) (x : Int) : stC (hB n c [((a : Int), x)]) M ⟨3, c, a, x, 0, false⟩ = 0 ∧ stB (hB n c [((a : Int), x)]) ⟨3, c, a, x, 0, false⟩ = List.replicate n [] ∧ stM M ⟨3, c, a, x, 0, false⟩ = M.set a x := by
  have h1 : okC (hB n c [((a : Int), x)]) (c : Int) := okC_hB (by omega) (by omega)
  refine ⟨?_, ?_, rfl⟩
  · simp only [stC, h1, okA_of ha, Int.toNat_natCast, hB_getD _ hc]
    simp
  · simp only [stB, Int.toNat_natCast, hB_getD _ hc]
    simp [hB_set, hB_nil]

set_option maxRecDepth 100000 in
set_option maxHeartbeats 16000000 in
theorem tsoHides (A : Nat → Addr) (cores who addr v old : Int) (w : World) (hs : SentAt w A) (h1 : -9223372036854775808 ≤ cores ∧ cores ≤ 9223372036854775807) (h2 : -9223372036854775808 ≤ who ∧ who ≤ 9223372036854775807) (h3 : -9223372036854775808 ≤ addr ∧ addr ≤ 9223372036854775807) (_h4 : 0 ≤ v ∧ v ≤ 4294967295) (_h5 : 0 ≤ old ∧ old ≤ 4294967295) :
    Calls Tryd.prog 9 #[.int .i64 cores, .int .i64 who, .int .i64 addr, .int .u32 v, .int .u32 old] w (TruePost w) := by
  have HS := Lib.hid hs
  have H1 := Lib.hid h1
  have H2 := Lib.hid h2
  have H3 := Lib.hid h3
  obtain ⟨n, hn⟩ : ∃ n : Nat, wiF cores 2 6 = (n : Int) := ⟨(wiF cores 2 6).toNat, by have := wiF_b (n := cores) (lo := 2) (hi := 6) (by omega); omega⟩
  have HN := Lib.hid hn
  have HNB := Lib.hid (show 2 ≤ n ∧ n ≤ 6 by have := wiF_b (n := cores) (lo := 2) (hi := 6) (by omega); omega)
  obtain ⟨c, hc⟩ : ∃ c : Nat, wiF who 0 ((n : Int) - 1) = (c : Int) := ⟨(wiF who 0 ((n : Int) - 1)).toNat, by have := HNB.out; have := wiF_b (n := who) (lo := 0) (hi := (n : Int) - 1) (by omega); omega⟩
  have HCC := Lib.hid hc
  have HC := Lib.hid (show c < n by have := HNB.out; have := wiF_b (n := who) (lo := 0) (hi := (n : Int) - 1) (by omega); omega)
  obtain ⟨a, ha⟩ : ∃ a : Nat, wiF addr 0 3 = (a : Int) := ⟨(wiF addr 0 3).toNat, by have := wiF_b (n := addr) (lo := 0) (hi := 3) (by omega); omega⟩
  have HAA := Lib.hid ha
  have HA := Lib.hid (show a < 4 by have := wiF_b (n := addr) (lo := 0) (hi := 3) (by omega); omega)
  have hnb := HNB.out
  clear hs h1 h2 h3 hn hc ha
  by_cases hv : v = old
  · subst hv
    have gv : (v == v) = true := by simp
    go_enter Tryd.func9, Tryd.ntmps9
    go_wp2_with fail
    refine (Within_b cores 2 6 w (by omega) (by omega) (by omega) H1.out.1 H1.out.2).mono ?_
    rintro ev w' ⟨rfl, hww⟩
    obtain rfl := hww
    rw [HN.out]
    go_wp2_with fail
    refine (tnew_ok n 4 w (by omega) (by omega) (by omega) (by omega)).mono ?_
    rintro ev w1 ⟨b, rfl, _, hb1⟩
    have HB1 := Lib.hid hb1
    clear hb1
    go_wp2_with fail
    refine (tsoRuns A _ (HS.out.below HB1.out)).mono ?_
    rintro ev w4 ⟨rfl, hb4⟩
    go_wp2_with fail
    go_ret
    exact ⟨rfl, HB1.out.trans (hb4.mono HB1.out.size)⟩
  · have gv : (v == old) = false := by simpa using hv
    have HVO := Lib.hid hv
    clear hv
    go_enter Tryd.func9, Tryd.ntmps9
    go_wp2_with fail
    refine (Within_b cores 2 6 w (by omega) (by omega) (by omega) H1.out.1 H1.out.2).mono ?_
    rintro ev w' ⟨rfl, hww⟩
    obtain rfl := hww
    rw [HN.out]
    go_wp2_with fail
    refine (tnew_ok n 4 w (by omega) (by omega) (by omega) (by omega)).mono ?_
    rintro ev w1 ⟨b, rfl, ⟨F, hF⟩, hb1⟩
    rw [← hB_nil n c] at hF
    have HF := Lib.hid hF
    have HB1 := Lib.hid hb1
    clear hb1 hF
    go_wp2_with fail
    refine (Within_b who 0 ((n : Int) - 1) w1 (by omega) (by omega) (by omega) H2.out.1 H2.out.2).mono ?_
    rintro ev w' ⟨rfl, hww⟩
    obtain rfl := hww
    rw [HCC.out]
    go_wp2_with fail
    refine (Within_b addr 0 3 w1 (by omega) (by omega) (by omega) H3.out.1 H3.out.2).mono ?_
    rintro ev w' ⟨rfl, hww⟩
    obtain rfl := hww
    rw [HAA.out]
    have HML0 := Lib.hid (show (List.replicate 4 (0 : Int)).length = 4 from rfl)
    go_wp2_with fail
    refine (tm_ok A w b F (hB n c []) (List.replicate 4 0) ⟨4, c, a, 0, old, true⟩ w1 HS.out HB1.out HF.out (by rw [HML0.out]; omega) (hB_le HC.out (by simp)) (hid_cas HC.out (by rw [HML0.out]; exact HA.out) (by have := HA.out; rw [List.getD_eq_getElem?_getD, List.getElem?_replicate]; split <;> rfl) old).1 rfl rfl).mono ?_
    rintro ev w2 ⟨rfl, F2, hF', hB', _, _⟩
    have HB2 := Lib.hid hB'
    have HF2 := Lib.hid hF'
    clear hF' hB'
    obtain ⟨M1, hM1⟩ : ∃ M1, (List.replicate 4 (0 : Int)).set a old = M1 := ⟨_, rfl⟩
    have HM1 := Lib.hid (show Md tyP w2 w.heap.size b F2 (hB n c []) M1 by rw [← hM1]; exact HF2.out)
    have HML := Lib.hid (show M1.length = 4 by rw [← hM1]; simp)
    have HMA := Lib.hid (show M1.getD a 0 = old by
      rw [← hM1, getD_set', if_pos ⟨rfl, by rw [HML0.out]; exact HA.out⟩])
    clear hM1
    go_wp2_with fail
    refine (ev_c 2 c a v w2).mono ?_
    rintro ev w3 ⟨rfl, hb⟩
    have HB3 := Lib.hid (HB2.out.trans (hb.mono HB2.out.size))
    have HF3 := Lib.hid (HM1.out.below hb)
    simp only [Ev.v]
    clear hb
    go_wp2_with fail
    refine (tm_ok A w b F2 (hB n c []) M1 ⟨2, c, a, v, 0, false⟩ w3 HS.out HB3.out HF3.out (by rw [HML.out]; omega) (hB_le HC.out (by simp)) (hid_store HC.out (by rw [HML.out]; exact HA.out) v).1 (hid_store HC.out (M := M1) (by rw [HML.out]; exact HA.out) v).2.1 (hid_store HC.out (M := M1) (by rw [HML.out]; exact HA.out) v).2.2).mono ?_
    rintro ev w4 ⟨rfl, F4, hF', hB', _, _⟩
    have HB4 := Lib.hid hB'
    have HF4 := Lib.hid hF'
    clear hF' hB'
    go_wp2_with fail
    go_loopw [16] (fun s16 wr => ∃ (k : Nat) (F : Nat → Prop), k ≤ n ∧ s16 = .int .i64 k ∧ Md tyP wr w.heap.size b F (hB n c [((a : Int), v)]) M1 ∧ Below w.heap.size w wr) (fun s16 _ => n - (intOf s16).toNat)
    case atStart => exact ⟨0, F4, by omega, rfl, HF4.out, HB4.out⟩
    case round =>
      clear HF HB1 HF2 HB2 HM1 HF3 HB3 HF4 HB4
      obtain ⟨k, F, hk, rfl, hF, hB'⟩ := hrel
      have HF := Lib.hid hF
      have HB := Lib.hid hB'
      clear hF hB'
      by_cases hkn : k < n
      · have g3 : decide (k < n) = true := by simp; omega
        have HKN := Lib.hid hkn
        by_cases hkc : k = c
        · have gk : ((k : Int) == (c : Int)) = true := by simp; omega
          have HKC := Lib.hid (show rdS (hB n c [((a : Int), v)]) M1 k a = v by rw [hid_rd HC.out v, if_pos hkc])
          clear hkc
          go_wp2_with fail
          refine (ev_c 1 k a old wr).mono ?_
          rintro ev w2 ⟨rfl, hb⟩
          have HB2 := Lib.hid (HB.out.trans (hb.mono HB.out.size))
          have HF2 := Lib.hid (HF.out.below hb)
          simp only [Ev.v]
          clear hb
          go_wp2_with fail
          refine (tm_no A w b F (hB n c [((a : Int), v)]) M1 ⟨1, k, a, old, 0, false⟩ w2 HS.out HB2.out HF2.out (by rw [HML.out]; omega) (hB_le HC.out (by simp)) (load_no (by rw [hB_length]; exact HKN.out) (by rw [HML.out]; exact HA.out) (by rw [HKC.out]; exact HVO.out))).mono ?_
          rintro ev w3 ⟨rfl, F3, hF', hB', _, _⟩
          have HB3 := Lib.hid hB'
          have HF3 := Lib.hid hF'
          clear hF' hB'
          go_wp2_with fail
          refine (ev_c 1 k a v w3).mono ?_
          rintro ev w4 ⟨rfl, hb⟩
          have HB4 := Lib.hid (HB3.out.trans (hb.mono HB3.out.size))
          have HF4 := Lib.hid (HF3.out.below hb)
          simp only [Ev.v]
          clear hb
          go_wp2_with fail
          refine (tm_ok A w b F3 (hB n c [((a : Int), v)]) M1 ⟨1, k, a, v, 0, false⟩ w4 HS.out HB4.out HF4.out (by rw [HML.out]; omega) (hB_le HC.out (by simp)) (load_ok (by rw [hB_length]; exact HKN.out) (by rw [HML.out]; exact HA.out) HKC.out) rfl rfl).mono ?_
          rintro ev w5 ⟨rfl, F5, hF', hB', _, _⟩
          have HB5 := Lib.hid hB'
          have HF5 := Lib.hid hF'
          clear hF' hB'
          go_wp2_with fail
          go_roundw
          case rel => exact ⟨k + 1, F5, by omega, by go_num, HF5.out, HB5.out⟩
          case measure => simp [intOf]; omega
        · have gk : ((k : Int) == (c : Int)) = false := by simp; omega
          have HKC := Lib.hid (show rdS (hB n c [((a : Int), v)]) M1 k a = old by rw [hid_rd HC.out v, if_neg hkc, HMA.out])
          clear hkc
          go_wp2_with fail
          refine (ev_c 1 k a v wr).mono ?_
          rintro ev w2 ⟨rfl, hb⟩
          have HB2 := Lib.hid (HB.out.trans (hb.mono HB.out.size))
          have HF2 := Lib.hid (HF.out.below hb)
          simp only [Ev.v]
          clear hb
          go_wp2_with fail
          refine (tm_no A w b F (hB n c [((a : Int), v)]) M1 ⟨1, k, a, v, 0, false⟩ w2 HS.out HB2.out HF2.out (by rw [HML.out]; omega) (hB_le HC.out (by simp)) (load_no (by rw [hB_length]; exact HKN.out) (by rw [HML.out]; exact HA.out) (by rw [HKC.out]; exact fun h => HVO.out h.symm))).mono ?_
          rintro ev w3 ⟨rfl, F3, hF', hB', _, _⟩
          have HB3 := Lib.hid hB'
          have HF3 := Lib.hid hF'
          clear hF' hB'
          go_wp2_with fail
          refine (ev_c 1 k a old w3).mono ?_
          rintro ev w4 ⟨rfl, hb⟩
          have HB4 := Lib.hid (HB3.out.trans (hb.mono HB3.out.size))
          have HF4 := Lib.hid (HF3.out.below hb)
          simp only [Ev.v]
          clear hb
          go_wp2_with fail
          refine (tm_ok A w b F3 (hB n c [((a : Int), v)]) M1 ⟨1, k, a, old, 0, false⟩ w4 HS.out HB4.out HF4.out (by rw [HML.out]; omega) (hB_le HC.out (by simp)) (load_ok (by rw [hB_length]; exact HKN.out) (by rw [HML.out]; exact HA.out) HKC.out) rfl rfl).mono ?_
          rintro ev w5 ⟨rfl, F5, hF', hB', _, _⟩
          have HB5 := Lib.hid hB'
          have HF5 := Lib.hid hF'
          clear hF' hB'
          go_wp2_with fail
          go_roundw
          case rel => exact ⟨k + 1, F5, by omega, by go_num, HF5.out, HB5.out⟩
          case measure => simp [intOf]; omega
      · have g3 : decide (k < n) = false := by simp; omega
        have hn0 : (n : Int) ≠ 0 := by omega
        obtain ⟨d, hd⟩ : ∃ d : Nat, ((c : Int) + 1) % (n : Int) = (d : Int) := ⟨(((c : Int) + 1) % (n : Int)).toNat, by have := Int.emod_nonneg ((c : Int) + 1) hn0; omega⟩
        have HD := Lib.hid (show d < n ∧ d ≠ c by
          have hc := HC.out
          rcases Nat.lt_or_ge (c + 1) n with h | h
          · rw [Int.emod_eq_of_lt (by omega) (by omega)] at hd
            omega
          · have hcn : (c : Int) + 1 = n := by omega
            rw [hcn, Int.emod_self] at hd
            omega)
        have hcb := HC.out
        go_wp2_with fail
        rw [hd]
        clear hd
        refine (ev_c 3 d a v wr).mono ?_
        rintro ev w2 ⟨rfl, hb⟩
        have HB2 := Lib.hid (HB.out.trans (hb.mono HB.out.size))
        have HF2 := Lib.hid (HF.out.below hb)
        simp only [Ev.v]
        clear hb
        go_wp2_with fail
        refine (tm_no A w b F (hB n c [((a : Int), v)]) M1 ⟨3, d, a, v, 0, false⟩ w2 HS.out HB2.out HF2.out (by rw [HML.out]; omega) (hB_le HC.out (by simp)) (hid_c9 HC.out HD.out.1 HD.out.2 (by rw [HML.out]; exact HA.out) v)).mono ?_
        rintro ev w3 ⟨rfl, F3, hF', hB', _, _⟩
        have HB3 := Lib.hid hB'
        have HF3 := Lib.hid hF'
        clear hF' hB'
        go_wp2_with fail
        refine (ev_c 3 c a old w3).mono ?_
        rintro ev w4 ⟨rfl, hb⟩
        have HB4 := Lib.hid (HB3.out.trans (hb.mono HB3.out.size))
        have HF4 := Lib.hid (HF3.out.below hb)
        simp only [Ev.v]
        clear hb
        go_wp2_with fail
        refine (tm_no A w b F3 (hB n c [((a : Int), v)]) M1 ⟨3, c, a, old, 0, false⟩ w4 HS.out HB4.out HF4.out (by rw [HML.out]; omega) (hB_le HC.out (by simp)) (hid_c10 HC.out (by rw [HML.out]; exact HA.out) HVO.out)).mono ?_
        rintro ev w5 ⟨rfl, F5, hF', hB', _, _⟩
        have HB5 := Lib.hid hB'
        have HF5 := Lib.hid hF'
        clear hF' hB'
        go_wp2_with fail
        refine (ev_c 3 c a v w5).mono ?_
        rintro ev w6 ⟨rfl, hb⟩
        have HB6 := Lib.hid (HB5.out.trans (hb.mono HB5.out.size))
        have HF6 := Lib.hid (HF5.out.below hb)
        simp only [Ev.v]
        clear hb
        go_wp2_with fail
        refine (tm_ok A w b F5 (hB n c [((a : Int), v)]) M1 ⟨3, c, a, v, 0, false⟩ w6 HS.out HB6.out HF6.out (by rw [HML.out]; omega) (hB_le HC.out (by simp)) (hid_c0 HC.out (by rw [HML.out]; exact HA.out) v).1 (hid_c0 HC.out (M := M1) (by rw [HML.out]; exact HA.out) v).2.1 rfl).mono ?_
        rintro ev w7 ⟨rfl, F7, hF', hB', _, _⟩
        have HB7 := Lib.hid hB'
        have HF7 := Lib.hid hF'
        clear hF' hB'
        obtain ⟨M2, hM2⟩ : ∃ M2, M1.set a v = M2 := ⟨_, rfl⟩
        have HM2 := Lib.hid (show Md tyP w7 w.heap.size b F7 (List.replicate n []) M2 by rw [← hM2]; exact HF7.out)
        have HML2 := Lib.hid (show M2.length = 4 by rw [← hM2, List.length_set]; exact HML.out)
        have HMA2 := Lib.hid (show M2.getD a 0 = v by rw [← hM2, getD_set', if_pos ⟨rfl, by rw [HML.out]; exact HA.out⟩])
        clear hM2 g3 hcb hn0
        go_wp2_with fail
        go_loopw [19] (fun s19 wr => ∃ (k : Nat) (F : Nat → Prop), k ≤ n ∧ s19 = .int .i64 k ∧ Md tyP wr w.heap.size b F (List.replicate n []) M2 ∧ Below w.heap.size w wr) (fun s19 _ => n - (intOf s19).toNat)
        case atStart => exact ⟨0, F7, by omega, rfl, HM2.out, HB7.out⟩
        case round =>
          clear HF HB HF2 HB2 HF3 HB3 HF4 HB4 HF5 HB5 HF6 HB6 HF7 HB7 HM2 hkn hk
          obtain ⟨k, F, hk, rfl, hF, hB'⟩ := hrel
          have HF := Lib.hid hF
          have HB := Lib.hid hB'
          clear hF hB'
          by_cases hkn : k < n
          · have g3 : decide (k < n) = true := by simp; omega
            have HKN := Lib.hid hkn
            have HKC := Lib.hid (show rdS (List.replicate n []) M2 k a = v by rw [hid_rd0, HMA2.out])
            go_wp2_with fail
            refine (ev_c 1 k a v wr).mono ?_
            rintro ev w2 ⟨rfl, hb⟩
            have HB2 := Lib.hid (HB.out.trans (hb.mono HB.out.size))
            have HF2 := Lib.hid (HF.out.below hb)
            simp only [Ev.v]
            clear hb
            go_wp2_with fail
            refine (tm_ok A w b F (List.replicate n []) M2 ⟨1, k, a, v, 0, false⟩ w2 HS.out HB2.out HF2.out (by rw [HML2.out]; omega) (fun j => by rw [rep_getD]; simp) (load_ok (by simpa using HKN.out) (by rw [HML2.out]; exact HA.out) HKC.out) rfl rfl).mono ?_
            rintro ev w3 ⟨rfl, F3, hF', hB', _, _⟩
            have HB3 := Lib.hid hB'
            have HF3 := Lib.hid hF'
            clear hF' hB'
            go_wp2_with fail
            refine (twt_c w.heap.size b F3 (List.replicate n []) M2 k w3 HF3.out (by rw [HML2.out]; omega)).mono ?_
            rintro ev w' ⟨rfl, hww⟩
            obtain rfl := hww
            rw [show (if okC (List.replicate n []) (k : Int) then ((List.replicate n ([] : List (Int × Int))).getD (Int.toNat (k : Int)) []).length else 0 : Nat) = 0 by rw [rep_getD]; simp]
            go_wp2_with fail
            go_roundw
            case rel => exact ⟨k + 1, F3, by omega, by go_num, HF3.out, HB3.out⟩
            case measure => simp [intOf]; omega
          · have g3 : decide (k < n) = false := by simp; omega
            go_wp2_with fail
            refine (tsoRuns A _ (HS.out.below HB.out)).mono ?_
            rintro ev w4 ⟨rfl, hb4⟩
            go_wp2_with fail
            go_ret
            exact ⟨rfl, HB.out.trans (hb4.mono HB.out.size)⟩

end Go.Proofs.YtamklohnmbgklaaDoor
