/- The memory model: known, Read and Waiting (the program's); Read (the document's). -/
import Derived.Test.YtamklohnmbgklaaDoorTs1
namespace Go.Proofs.YtamklohnmbgklaaDoor
open Go.RowKit Go.Extern.Stop Go.Stop Go.Extern

section
variable {T : MdT} {w : World} {lo b : Nat} {vB vM : Value} {vs : List Value} {B : Bufs} {M : List Int}
/-- What stands at a core's place in the row of the buffers. -/
theorem MdAt.buf (h : MdAt T w lo b vB vM vs B M) {k : Nat} (hk : k < B.length) :
    ∃ g off cap ad cp, vB = .slice (some ⟨g, off, none⟩) B.length cap ∧ vs[k]? = some (.slice ad (B.getD k []).length cp) ∧ w.cell? ⟨g, off + k, none⟩ = some (.slice ad (B.getD k []).length cp) ∧ w.frozen? ⟨g, off + k, none⟩ = false ∧ winRow w lo T.tW 2 (.slice ad (B.getD k []).length cp) (B.getD k []).length (flatW (B.getD k [])) := by
  obtain ⟨g, off, cap, hv, _, _, hg, hc⟩ := h.rowB.form (by omega)
  have hl := h.lenV
  have hkv : vs[k]? = some (vs[k]'(by omega)) := List.getElem?_eq_getElem _
  have hB : B[k]? = some (B.getD k []) := by rw [List.getD_eq_getElem?_getD, List.getElem?_eq_getElem hk]; rfl
  have hr := h.rows k _ _ hkv hB
  obtain ⟨ad, cp, he⟩ := hr.len
  rw [he] at hr hkv
  exact ⟨g, off, cap, ad, cp, hv, hkv, hc k _ hkv, h.rowB.frozen hv k, hr⟩
theorem MdAt.mem (h : MdAt T w lo b vB vM vs B M) {j : Nat} (hj : j < M.length) :
    ∃ g off cap, vM = .slice (some ⟨g, off, none⟩) M.length cap ∧ w.cell? ⟨g, off + j, none⟩ = some (.int .u32 (M.getD j 0)) ∧ w.frozen? ⟨g, off + j, none⟩ = false := by
  obtain ⟨g, off, cap, hv, _, _, hg, hc⟩ := h.rowM.form (by omega)
  exact ⟨g, off, cap, hv, hc j _ (u32V_at hj), h.rowM.frozen hv j⟩
end

theorem known_c (lo b : Nat) (vB vM : Value) (vs : List Value) (B : Bufs) (M : List Int) (c a : Int) (w : World) (h : MdAt tyP w lo b vB vM vs B M) :
    Calls Tryd.prog 40 #[.pointer (some ⟨b, 0, none⟩), .int .i64 c, .int .i64 a] w fun ev w' => ev = .returned (.bool (decide (okC B c ∧ okA M a))) ∧ w = w' := by
  have c0 := cell_of h.blk 0
  have c1 := cell_of h.blk 1
  simp only [List.getElem?_toArray, List.getElem?_cons_zero, List.getElem?_cons_succ] at c0 c1
  obtain ⟨aB, kB, hvB⟩ := h.rowB.len
  obtain ⟨aM, kM, hvM⟩ := h.rowM.len
  rw [hvB] at c0
  rw [hvM] at c1
  clear h hvB hvM
  unfold okC okA
  by_cases h1 : 0 ≤ c
  · by_cases h2 : c < B.length
    · by_cases h3 : 0 ≤ a
      · by_cases h4 : a < M.length
        · rw [decide_eq_true (by omega)]
          go_enter Tryd.func40, Tryd.ntmps40
          go_wp2_with fail
          go_ret
          exact ⟨rfl, rfl⟩
        · rw [decide_eq_false (by omega)]
          go_enter Tryd.func40, Tryd.ntmps40
          go_wp2_with fail
          go_ret
          exact ⟨rfl, rfl⟩
      · rw [decide_eq_false (by omega)]
        go_enter Tryd.func40, Tryd.ntmps40
        go_wp2_with fail
        go_ret
        exact ⟨rfl, rfl⟩
    · rw [decide_eq_false (by omega)]
      go_enter Tryd.func40, Tryd.ntmps40
      go_wp2_with fail
      go_ret
      exact ⟨rfl, rfl⟩
  · rw [decide_eq_false (by omega)]
    go_enter Tryd.func40, Tryd.ntmps40
    go_wp2_with fail
    go_ret
    exact ⟨rfl, rfl⟩

set_option maxRecDepth 100000 in
set_option maxHeartbeats 2000000 in
theorem tread_ok (lo b : Nat) (vB vM : Value) (vs : List Value) (B : Bufs) (M : List Int) (k j : Nat) (w : World) (h : MdAt tyP w lo b vB vM vs B M) (hk : k < B.length) (hj : j < M.length) :
    Calls Tryd.prog 28 #[.pointer (some ⟨b, 0, none⟩), .int .i64 (k : Int), .int .i64 (j : Int)] w fun ev w' => ev = .returned (.tuple #[.int .u32 (rdS B M k j), .bool true]) ∧ w = w' := by
  have c0 := cell_of h.blk 0
  have c1 := cell_of h.blk 1
  simp only [List.getElem?_toArray, List.getElem?_cons_zero, List.getElem?_cons_succ] at c0 c1
  obtain ⟨gB, oB, kB, ad, cp, hvB, _, e0, _, hrow⟩ := h.buf hk
  obtain ⟨gM, oM, kM, hvM, e3, _⟩ := h.mem hj
  rw [hvB] at c0
  rw [hvM] at c1
  have HROW := Lib.hid hrow
  have hll : (B.getD k []).length ≤ maxLen := by
    rcases hrow.2 with ⟨_, h0⟩ | ⟨g, off, cap, cur, _, _, _, h1, h2, _⟩
    · omega
    · omega
  unfold maxLen at hll
  have HRD := Lib.hid (show rdS B M k j = (fwdF (B.getD k []) j).getD (M.getD j 0) from rfl)
  have HH := Lib.hid h
  clear h hrow hvB hvM
  generalize B.getD k [] = L at *
  generalize M.getD j 0 = m at *
  go_enter Tryd.func28, Tryd.ntmps28
  go_wp2_with fail
  refine (known_c lo b vB vM vs B M k j w HH.out).mono ?_
  rintro ev w' ⟨rfl, hww⟩
  obtain rfl := hww
  rw [decide_eq_true (show okC B k ∧ okA M j from ⟨⟨by omega, by omega⟩, ⟨by omega, by omega⟩⟩)]
  go_wp2_with fail
  go_loopw [9] (fun i wr => ∃ n : Nat, n ≤ L.length ∧ i = .int .i64 ((n : Int) - 1) ∧ fwdF L j = fwdF (L.take n) j ∧ w = wr) (fun i _ => (intOf i + 1).toNat)
  case atStart => exact ⟨L.length, Nat.le_refl _, rfl, by rw [List.take_length], rfl⟩
  case round =>
    obtain ⟨n, hn, rfl, hall, rfl⟩ := hrel
    have HALL := Lib.hid hall
    clear hall
    cases n with
    | zero =>
      go_wp2_with fail
      go_ret2
      exact ⟨by rw [HRD.out, HALL.out]; rfl, rfl⟩
    | succ n =>
      have hkl : L[n]? = some L[n] := List.getElem?_eq_getElem (by omega)
      obtain ⟨gw, ow, cw, he, _, _, _, hc⟩ := HROW.out.form (by omega)
      simp only [Value.slice.injEq] at he
      obtain ⟨rfl, _, rfl⟩ := he
      have e1 := hc _ _ (flatW_at hkl).1
      have e2 := hc _ _ (flatW_at hkl).2
      rw [← Nat.add_assoc] at e2
      have HK := Lib.hid hkl
      clear hkl hc
      generalize L[n] = y at *
      obtain ⟨y1, y2⟩ := y
      simp only at e1 e2
      rw [show ((n + 1 : Nat) : Int) - 1 = (n : Int) by omega]
      have hft := fwd_take (j : Int) HK.out
      by_cases hy : y1 = (j : Int)
      · have hyb : (y1 == (j : Int)) = true := by simpa using hy
        have HFT := Lib.hid (hft.trans (if_pos hy))
        clear hy hft
        go_wp2_with fail
        go_ret2
        rw [HRD.out, HALL.out, HFT.out]
        exact ⟨rfl, rfl⟩
      · have hyb : (y1 == (j : Int)) = false := by simpa using hy
        have HFT := Lib.hid (hft.trans (if_neg hy))
        clear hy hft
        go_wp2_with fail
        go_roundw
        case rel =>
          refine ⟨n, by omega, by go_num, ?_⟩
          rw [HALL.out, HFT.out]
          exact ⟨rfl, trivial⟩
        case measure => simp [intOf]

theorem tread_c (lo b : Nat) (vB vM : Value) (vs : List Value) (B : Bufs) (M : List Int) (c a : Int) (w : World) (h : MdAt tyP w lo b vB vM vs B M) :
    Calls Tryd.prog 28 #[.pointer (some ⟨b, 0, none⟩), .int .i64 c, .int .i64 a] w fun ev w' => ev = .returned (.tuple #[.int .u32 (if okC B c ∧ okA M a then rdS B M c a else 0), .bool (decide (okC B c ∧ okA M a))]) ∧ w = w' := by
  by_cases hok : okC B c ∧ okA M a
  · rw [if_pos hok, decide_eq_true hok]
    obtain ⟨⟨h1, h2⟩, h3, h4⟩ := hok
    obtain ⟨k, rfl⟩ := Int.eq_ofNat_of_zero_le h1
    obtain ⟨j, rfl⟩ := Int.eq_ofNat_of_zero_le h3
    exact tread_ok lo b vB vM vs B M k j w h (by omega) (by omega)
  · rw [if_neg hok, decide_eq_false hok]
    have HOK := Lib.hid hok
    clear hok
    go_enter Tryd.func28, Tryd.ntmps28
    go_wp2_with fail
    refine (known_c lo b vB vM vs B M c a w h).mono ?_
    rintro ev w' ⟨rfl, hww⟩
    obtain rfl := hww
    rw [decide_eq_false HOK.out]
    go_wp2_with fail
    go_ret2
    exact ⟨rfl, rfl⟩

theorem twait_c (lo b : Nat) (vB vM : Value) (vs : List Value) (B : Bufs) (M : List Int) (c : Int) (w : World) (h : MdAt tyP w lo b vB vM vs B M) (hM : 0 < M.length) :
    Calls Tryd.prog 29 #[.pointer (some ⟨b, 0, none⟩), .int .i64 c] w fun ev w' => ev = .returned (.int .i64 (if okC B c then (B.getD c.toNat []).length else 0 : Nat)) ∧ w = w' := by
  have hA : okA M 0 := ⟨by omega, by omega⟩
  by_cases hok : okC B c
  · rw [if_pos hok]
    have HK := Lib.hid (show okC B c ∧ okA M 0 from ⟨hok, hA⟩)
    obtain ⟨h1, h2⟩ := hok
    obtain ⟨k, rfl⟩ := Int.eq_ofNat_of_zero_le h1
    have hk : k < B.length := by omega
    have c0 := cell_of h.blk 0
    simp only [List.getElem?_toArray, List.getElem?_cons_zero] at c0
    obtain ⟨gB, oB, kB, ad, cp, hvB, _, e0, _, hrow⟩ := h.buf hk
    rw [hvB] at c0
    have HH := Lib.hid h
    clear h hrow hvB hA h1 h2 hM
    rw [Int.toNat_natCast]
    generalize B.getD k [] = L at *
    go_enter Tryd.func29, Tryd.ntmps29
    go_wp2_with fail
    refine (known_c lo b vB vM vs B M k 0 w HH.out).mono ?_
    rintro ev w' ⟨rfl, hww⟩
    obtain rfl := hww
    rw [decide_eq_true HK.out]
    go_wp2_with fail
    go_ret
    exact ⟨rfl, rfl⟩
  · rw [if_neg hok]
    have HK := Lib.hid (show ¬ (okC B c ∧ okA M 0) from fun h => hok h.1)
    clear hok hA
    go_enter Tryd.func29, Tryd.ntmps29
    go_wp2_with fail
    refine (known_c lo b vB vM vs B M c 0 w h).mono ?_
    rintro ev w' ⟨rfl, hww⟩
    obtain rfl := hww
    rw [decide_eq_false HK.out]
    go_wp2_with fail
    go_ret
    exact ⟨rfl, rfl⟩

set_option maxRecDepth 100000 in
set_option maxHeartbeats 2000000 in
theorem rread_ok (lo b : Nat) (vB vM : Value) (vs : List Value) (B : Bufs) (M : List Int) (k j : Nat) (w : World) (h : MdAt tyR w lo b vB vM vs B M) (hk : k < B.length) (hj : j < M.length) :
    Calls Tryd.prog 31 #[.pointer (some ⟨b, 0, none⟩), .int .i64 (k : Int), .int .i64 (j : Int)] w fun ev w' => ev = .returned (.int .u32 (rdS B M k j)) ∧ w = w' := by
  have c0 := cell_of h.blk 0
  have c1 := cell_of h.blk 1
  simp only [List.getElem?_toArray, List.getElem?_cons_zero, List.getElem?_cons_succ] at c0 c1
  obtain ⟨gB, oB, kB, ad, cp, hvB, _, e0, _, hrow⟩ := h.buf hk
  obtain ⟨gM, oM, kM, hvM, e3, _⟩ := h.mem hj
  rw [hvB] at c0
  rw [hvM] at c1
  have HROW := Lib.hid hrow
  have hll : (B.getD k []).length ≤ maxLen := by
    rcases hrow.2 with ⟨_, h0⟩ | ⟨g, off, cap, cur, _, _, _, h1, h2, _⟩
    · omega
    · omega
  unfold maxLen at hll
  have HRD := Lib.hid (show rdS B M k j = (fwdF (B.getD k []) j).getD (M.getD j 0) from rfl)
  clear h hrow hvB hvM
  generalize B.getD k [] = L at *
  generalize M.getD j 0 = m at *
  go_enter Tryd.func31, Tryd.ntmps31
  go_wp2_with fail
  go_loopw [8] (fun i wr => ∃ n : Nat, n ≤ L.length ∧ i = .int .i64 ((n : Int) - 1) ∧ fwdF L j = fwdF (L.take n) j ∧ w = wr) (fun i _ => (intOf i + 1).toNat)
  case atStart => exact ⟨L.length, Nat.le_refl _, rfl, by rw [List.take_length], rfl⟩
  case round =>
    obtain ⟨n, hn, rfl, hall, rfl⟩ := hrel
    have HALL := Lib.hid hall
    clear hall
    cases n with
    | zero =>
      go_wp2_with fail
      go_ret
      exact ⟨by rw [HRD.out, HALL.out]; rfl, rfl⟩
    | succ n =>
      have hkl : L[n]? = some L[n] := List.getElem?_eq_getElem (by omega)
      obtain ⟨gw, ow, cw, he, _, _, _, hc⟩ := HROW.out.form (by omega)
      simp only [Value.slice.injEq] at he
      obtain ⟨rfl, _, rfl⟩ := he
      have e1 := hc _ _ (flatW_at hkl).1
      have e2 := hc _ _ (flatW_at hkl).2
      rw [← Nat.add_assoc] at e2
      have HK := Lib.hid hkl
      clear hkl hc
      generalize L[n] = y at *
      obtain ⟨y1, y2⟩ := y
      simp only at e1 e2
      rw [show ((n + 1 : Nat) : Int) - 1 = (n : Int) by omega]
      have hft := fwd_take (j : Int) HK.out
      by_cases hy : y1 = (j : Int)
      · have hyb : (y1 == (j : Int)) = true := by simpa using hy
        have HFT := Lib.hid (hft.trans (if_pos hy))
        clear hy hft
        go_wp2_with fail
        go_ret
        rw [HRD.out, HALL.out, HFT.out]
        exact ⟨rfl, rfl⟩
      · have hyb : (y1 == (j : Int)) = false := by simpa using hy
        have HFT := Lib.hid (hft.trans (if_neg hy))
        clear hy hft
        go_wp2_with fail
        go_roundw
        case rel =>
          refine ⟨n, by omega, by go_num, ?_⟩
          rw [HALL.out, HFT.out]
          exact ⟨rfl, trivial⟩
        case measure => simp [intOf]

theorem rread_c (lo b : Nat) (vB vM : Value) (vs : List Value) (B : Bufs) (M : List Int) (c a : Int) (w : World) (h : MdAt tyR w lo b vB vM vs B M) (hc : okC B c) (ha : okA M a) :
    Calls Tryd.prog 31 #[.pointer (some ⟨b, 0, none⟩), .int .i64 c, .int .i64 a] w fun ev w' => ev = .returned (.int .u32 (rdS B M c a)) ∧ w = w' := by
  obtain ⟨h1, h2⟩ := hc
  obtain ⟨h3, h4⟩ := ha
  obtain ⟨k, rfl⟩ := Int.eq_ofNat_of_zero_le h1
  obtain ⟨j, rfl⟩ := Int.eq_ofNat_of_zero_le h3
  exact rread_ok lo b vB vM vs B M k j w h (by omega) (by omega)

end Go.Proofs.YtamklohnmbgklaaDoor
