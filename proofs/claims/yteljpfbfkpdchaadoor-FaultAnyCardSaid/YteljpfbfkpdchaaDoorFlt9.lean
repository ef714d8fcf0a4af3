/- FaultAny: true; no condition but what a start gives. -/
import Derived.Test.YteljpfbfkpdchaaDoorFlt6
import Derived.Test.YteljpfbfkpdchaaDoorBk
import Derived.Test.YteljpfbfkpdchaaDoorInts
namespace Go.Proofs.YteljpfbfkpdchaaDoor
open Go.RowKit Go.Extern.Stop Go.Stop Go.Extern

/-- The place of the first of the first n codes that is c; -1: none is. -/
def wantF (c : Int) (g : Nat → Int) : Nat → Int
  | 0 => -1
  | n + 1 => if wantF c g n < 0 ∧ wiF (g n) 1 10 = c then n else wantF c g n
/-- The sentinels of the codes. -/
def rowF (g : Nat → Int) (n : Nat) : List Nat := (List.range n).map fun i => (wiF (g i) 1 10).toNat - 1
theorem rowF_succ (g : Nat → Int) (n : Nat) : rowF g (n + 1) = rowF g n ++ [(wiF (g n) 1 10).toNat - 1] := by
  simp [rowF, List.range_succ]
theorem rowF_length (g : Nat → Int) (n : Nat) : (rowF g n).length = n := by simp [rowF]
theorem rowF_lt (g : Nat → Int) (n : Nat) : ∀ c ∈ rowF g n, c < 10 := by
  intro c hc
  simp only [rowF, List.mem_map] at hc
  obtain ⟨i, _, rfl⟩ := hc
  have := wiF_b (n := g i) (lo := 1) (hi := 10) (by omega)
  omega
theorem wantF_lt (c : Int) (g : Nat → Int) (n : Nat) : -1 ≤ wantF c g n ∧ wantF c g n < n := by
  induction n with
  | zero => exact ⟨Int.le_refl _, by simp [wantF]⟩
  | succ n ih =>
    unfold wantF
    split <;> omega
theorem anyF_append (e : ErrT) (l : List Nat) (c : Nat) : anyF e (l ++ [c]) = if anyF e l < 0 ∧ isB e c = true then (l.length : Int) else anyF e l := by
  unfold anyF
  rw [List.findIdx?_append]
  cases h : l.findIdx? (fun c => isB e c) with
  | some i => simp; omega
  | none => cases hb : isB e c <;> simp [hb]
/-- What FaultAny waits for is what fault.Any answers. -/
theorem want_any {c : Int} (hc : 1 ≤ c ∧ c ≤ 10) (g : Nat → Int) (e : ErrT) (he : e.code = c.toNat) (n : Nat) : wantF c g n = anyF e (rowF g n) := by
  induction n with
  | zero => rfl
  | succ n ih =>
    rw [rowF_succ, anyF_append, rowF_length, ← ih]
    have hk := wiF_b (n := g n) (lo := 1) (hi := 10) (by omega)
    have : isB e ((wiF (g n) 1 10).toNat - 1) = true ↔ wiF (g n) 1 10 = c := by
      simp only [isB, decide_eq_true_eq, he]
      omega
    rw [show wantF c g (n + 1) = if wantF c g n < 0 ∧ wiF (g n) 1 10 = c then (n : Int) else wantF c g n from rfl]
    simp only [this]

theorem row_any {W : World} {base : Nat} {v : Value} {n : Nat} {A : Nat → Addr} {g : Nat → Int} (h : W.ownsRow base 24 1 v n ((rowF g n).map fun k => (ErrT.sent k).val A)) :
    (rowF g n = [] ∧ v = .slice none 0 0) ∨ ∃ b cap, v = .slice (some ⟨b, 0, none⟩) (rowF g n).length cap ∧ b < W.heap.size ∧ ∀ k c, (rowF g n)[k]? = some c → W.cell? ⟨b, k, none⟩ = some ((ErrT.sent c).val A) := by
  have h2 := h.2
  rcases h2 with ⟨rfl, rfl⟩ | ⟨b, cap, cur, rfl, _, hb, _⟩
  · exact .inl ⟨rfl, rfl⟩
  · refine .inr ⟨b, cap, by rw [rowF_length], (Array.getElem?_eq_some_iff.1 hb).1, fun k c hk => ?_⟩
    have := h.cells (g := b) rfl k ((ErrT.sent c).val A) (by rw [List.getElem?_map, hk]; rfl)
    rw [Addr.add_lit, Nat.zero_add] at this
    exact this

set_option maxRecDepth 100000 in
set_option maxHeartbeats 8000000 in
theorem faultAny (A : Nat → Addr) (z0 : Int) (v1 : Value) (n1 : Nat) (g : Nat → Int) (op : ByteArray) (w : World) (hs : SentAt w A) (b0 : -9223372036854775808 ≤ z0 ∧ z0 ≤ 9223372036854775807) (h1 : IntsAt .i64 w v1 n1 g) (_hop : op.size ≤ maxLen) :
    Calls Tryd.prog 11 #[.int .i64 z0, v1, .string op] w (TruePost w) := by
  obtain ⟨i0, hi0, hi1⟩ := Option.map_eq_some_iff.1 nInfoErr
  simp only [Prod.mk.injEq] at hi1
  obtain ⟨hz0, hz1, hz2⟩ := hi1
  have HI := Lib.hid hi0
  have HZ0 := Lib.hid hz0
  have HZ1 := Lib.hid hz1
  have HZ2 := Lib.hid hz2
  clear hi0 hz0 hz1 hz2
  obtain ⟨p1, cap0, rfl, hel⟩ := h1.form
  have HEL := Lib.hid hel
  have HNUM := Lib.hid h1.num
  have hn1 := h1.len
  unfold maxLen at hn1
  clear hel h1
  go_enter Tryd.func11, Tryd.ntmps11
  go_wp2_with fail
  refine (Within_b z0 1 10 _ (by omega) (by omega) (by omega) b0.1 b0.2).mono ?_
  rintro ev w' ⟨rfl, rfl⟩
  have hc := wiF_b (n := z0) (lo := 1) (hi := 10) (by omega)
  generalize wiF z0 1 10 = c at hc ⊢
  go_wp2_with fail
  refine (error_c A _ hs c hc.1 hc.2).mono ?_
  rintro ev w' ⟨rfl, hww⟩
  obtain rfl := hww.symm
  obtain ⟨j, hj⟩ : ∃ j, j = c.toNat - 1 := ⟨_, rfl⟩
  have hj10 : j < 10 := by omega
  rw [← hj]
  have HJ := Lib.hid hj
  clear hj
  rw [show (ErrT.sent j).val A = .iface 120 (.pointer (some (A j))) from rfl]
  go_wp2_with fail
  change Calls Tryd.prog _ #[_, _, (ErrT.sent j).val A] _ _
  refine (wrap_c A op 2 (.sent j) w).mono ?_
  rintro ev w' ⟨rfl, hww⟩
  obtain rfl := hww.symm
  have HV1 := Lib.hid (show (wrapE op 2 (.sent j)).val A = .iface 63 (.agg #[.string op, .int .i64 2, .iface 120 (.pointer (some (A j)))]) from rfl)
  have HV2 := Lib.hid (show (wrapE op 1 (.wrap op 2 (.sent j))).val A = .iface 63 (.agg #[.string op, .int .i64 1, .iface 63 (.agg #[.string op, .int .i64 2, .iface 120 (.pointer (some (A j)))])]) from rfl)
  rw [HV1.out]
  go_wp2_with fail
  change Calls Tryd.prog _ #[_, _, (ErrT.wrap op 2 (.sent j)).val A] _ _
  refine (wrap_c A op 1 (.wrap op 2 (.sent j)) w).mono ?_
  rintro ev w' ⟨rfl, hww⟩
  obtain rfl := hww.symm
  rw [HV2.out]
  have HS := Lib.hid hs
  clear hs
  go_wp2_with fail
  go_loopw [9, 10, 11] (fun s9 s10 s11 wr => ∃ n : Nat, n ≤ 20 ∧ n ≤ n1 ∧ s11 = .int .i64 n ∧ s10 = .int .i64 (wantF c g n) ∧ wr.ownsRow w.heap.size 24 1 s9 n ((rowF g n).map fun k => (ErrT.sent k).val A) ∧ Below w.heap.size w wr) (fun _ _ s11 _ => 20 - (intOf s11).toNat)
  case atStart => exact ⟨0, by omega, by omega, rfl, rfl, World.ownsRow_nil .., Below.refl _ _⟩
  case round =>
    obtain ⟨n, hn20, hnn1, rfl, rfl, hown, hB⟩ := hrel
    have HOWN := Lib.hid hown
    have HB := Lib.hid hB
    clear hown hB
    by_cases hin : n < 20 ∧ n < n1
    · obtain ⟨hlt20, hltn⟩ := hin
      obtain ⟨ba, oa, rfl, hba, hca⟩ := HEL.out n hltn
      have hbd := Go.bounds_i64 (HNUM.out n hltn)
      have hca2 := (HB.out.cell (p := ⟨ba, _, none⟩) hba).trans hca
      have hkk := wiF_b (n := g n) (lo := 1) (hi := 10) (by omega)
      have HBD := Lib.hid hbd
      have HKK0 := Lib.hid hkk
      obtain ⟨kk, hke⟩ : ∃ kk, kk = wiF (g n) 1 10 := ⟨_, rfl⟩
      have HKE := Lib.hid hke
      have HKK := Lib.hid (show 1 ≤ kk ∧ kk ≤ 10 by omega)
      obtain ⟨jn, hjn⟩ : ∃ jn, jn = kk.toNat - 1 := ⟨_, rfl⟩
      have HKN := Lib.hid (show kk.toNat - 1 = jn from hjn.symm)
      have HJN := Lib.hid (show (wiF (g n) 1 10).toNat - 1 = jn by rw [← hke]; exact hjn.symm)
      clear hca hbd hkk hke hjn
      go_wp2_with fail
      refine (Within_b (g n) 1 10 _ (by omega) (by omega) (by omega) HBD.out.1 HBD.out.2).mono ?_
      rintro ev w' ⟨rfl, rfl⟩
      rw [← HKE.out]
      clear hca2
      by_cases hkc : kk = c
      · by_cases hwn : wantF c g n < 0
        · have g1 : (kk == c) = true := by simpa using hkc
          have g2 : decide (wantF c g n < 0) = true := by simpa using hwn
          have HWN := Lib.hid (show wantF c g (n + 1) = (n : Int) from if_pos ⟨hwn, HKE.out ▸ hkc⟩)
          clear hkc hwn
          go_wp2_with fail
          refine (error_c A wr (HS.out.below HB.out) kk HKK.out.1 HKK.out.2).mono ?_
          rintro ev w' ⟨rfl, hww⟩
          obtain rfl := hww.symm
          rw [HKN.out, show (ErrT.sent jn).val A = .iface 120 (.pointer (some (A jn))) from rfl]
          go_wp2_with (at_builtin; refine wpList_append_lies _ rfl _ _ 80 rfl w.heap.size 24 i0 .nilIface 1 16 Tryd.underlying80 HI.out HZ0.out HZ1.out HZ2.out rfl (by decide) _ _ _ rfl (HOWN.out.alloc _) ⟨wr.heap.size, 0, none⟩ 1 1 [.iface 120 (.pointer (some (A jn)))] rfl rfl (cell_one_new _ _ _) (fun x hx => by simp at hx; subst hx; rfl) (by omega) (by unfold maxLen; omega) (by omega) (by have := HB.out.size; simp; omega) _ rfl ?_; intro g2 cap2 w3 hown3 hgrow3 hat3 hlt3)
          have hB3 : Below w.heap.size w w3 := (HB.out.alloc HB.out.size _).grown hgrow3 (by have := HB.out.size; simp; omega) (fun q hq => (HOWN.out.lt q hq).1)
          go_roundw
          case measure => simp [intOf]; omega
          case rel =>
            refine ⟨n + 1, by omega, by omega, by go_num, ?_, ?_, hB3⟩
            · rw [HWN.out]
            · rw [rowF_succ, List.map_append]
              rw [show (wiF (g n) 1 10).toNat - 1 = jn from HJN.out]
              exact hown3
        · have g1 : (kk == c) = true := by simpa using hkc
          have g2 : decide (wantF c g n < 0) = false := by simpa using hwn
          have HWN := Lib.hid (show wantF c g (n + 1) = wantF c g n from if_neg fun h => hwn h.1)
          clear hkc hwn
          go_wp2_with fail
          refine (error_c A wr (HS.out.below HB.out) kk HKK.out.1 HKK.out.2).mono ?_
          rintro ev w' ⟨rfl, hww⟩
          obtain rfl := hww.symm
          rw [HKN.out, show (ErrT.sent jn).val A = .iface 120 (.pointer (some (A jn))) from rfl]
          go_wp2_with (at_builtin; refine wpList_append_lies _ rfl _ _ 80 rfl w.heap.size 24 i0 .nilIface 1 16 Tryd.underlying80 HI.out HZ0.out HZ1.out HZ2.out rfl (by decide) _ _ _ rfl (HOWN.out.alloc _) ⟨wr.heap.size, 0, none⟩ 1 1 [.iface 120 (.pointer (some (A jn)))] rfl rfl (cell_one_new _ _ _) (fun x hx => by simp at hx; subst hx; rfl) (by omega) (by unfold maxLen; omega) (by omega) (by have := HB.out.size; simp; omega) _ rfl ?_; intro g2 cap2 w3 hown3 hgrow3 hat3 hlt3)
          have hB3 : Below w.heap.size w w3 := (HB.out.alloc HB.out.size _).grown hgrow3 (by have := HB.out.size; simp; omega) (fun q hq => (HOWN.out.lt q hq).1)
          go_roundw
          case measure => simp [intOf]; omega
          case rel =>
            refine ⟨n + 1, by omega, by omega, by go_num, ?_, ?_, hB3⟩
            · rw [HWN.out]
            · rw [rowF_succ, List.map_append]
              rw [show (wiF (g n) 1 10).toNat - 1 = jn from HJN.out]
              exact hown3
      · have g1 : (kk == c) = false := by simpa using hkc
        have HWN := Lib.hid (show wantF c g (n + 1) = wantF c g n from if_neg fun h => hkc (HKE.out ▸ h.2))
        clear hkc
        go_wp2_with fail
        refine (error_c A wr (HS.out.below HB.out) kk HKK.out.1 HKK.out.2).mono ?_
        rintro ev w' ⟨rfl, hww⟩
        obtain rfl := hww.symm
        rw [HKN.out, show (ErrT.sent jn).val A = .iface 120 (.pointer (some (A jn))) from rfl]
        go_wp2_with (at_builtin; refine wpList_append_lies _ rfl _ _ 80 rfl w.heap.size 24 i0 .nilIface 1 16 Tryd.underlying80 HI.out HZ0.out HZ1.out HZ2.out rfl (by decide) _ _ _ rfl (HOWN.out.alloc _) ⟨wr.heap.size, 0, none⟩ 1 1 [.iface 120 (.pointer (some (A jn)))] rfl rfl (cell_one_new _ _ _) (fun x hx => by simp at hx; subst hx; rfl) (by omega) (by unfold maxLen; omega) (by omega) (by have := HB.out.size; simp; omega) _ rfl ?_; intro g2 cap2 w3 hown3 hgrow3 hat3 hlt3)
        have hB3 : Below w.heap.size w w3 := (HB.out.alloc HB.out.size _).grown hgrow3 (by have := HB.out.size; simp; omega) (fun q hq => (HOWN.out.lt q hq).1)
        go_roundw
        case measure => simp [intOf]; omega
        case rel =>
          refine ⟨n + 1, by omega, by omega, by go_num, ?_, ?_, hB3⟩
          · rw [HWN.out]
          · rw [rowF_succ, List.map_append]
            rw [show (wiF (g n) 1 10).toNat - 1 = jn from HJN.out]
            exact hown3
    · have HWF := Lib.hid (show (ErrT.wrap op 1 (.wrap op 2 (.sent j))).wf from ⟨rfl, rfl, hj10⟩)
      by_cases hltn : n < n1
      · have hn20' : ¬ n < 20 := fun h => hin ⟨h, hltn⟩
        clear hin
        go_wp2_with fail
        change Calls Tryd.prog _ #[(ErrT.wrap op 1 (.wrap op 2 (.sent j))).val A, _] _ _
        refine (any_c A _ (.wrap op 1 (.wrap op 2 (.sent j))) (rowF g n) _ wr (HS.out.below HB.out).core HWF.out (ErrT.rootIn_wf HWF.out) (rowF_lt g n) (by rw [rowF_length]; omega) (row_any HOWN.out)).mono ?_
        rintro ev w2 ⟨rfl, hb2⟩
        rw [← want_any hc g (.wrap op 1 (.wrap op 2 (.sent j))) (by have := HJ.out; simp only [ErrT.code]; omega) n]
        have hB2 := HB.out.trans (hb2.mono HB.out.size)
        clear hb2
        go_wp2_with fail
        refine (faultRuns A _ (HS.out.below hB2).runs).mono ?_
        rintro ev w3 ⟨rfl, hb3⟩
        go_wp2_with fail
        go_ret
        exact ⟨rfl, hB2.trans (hb3.mono hB2.size)⟩
      · clear hin
        go_wp2_with fail
        change Calls Tryd.prog _ #[(ErrT.wrap op 1 (.wrap op 2 (.sent j))).val A, _] _ _
        refine (any_c A _ (.wrap op 1 (.wrap op 2 (.sent j))) (rowF g n) _ wr (HS.out.below HB.out).core HWF.out (ErrT.rootIn_wf HWF.out) (rowF_lt g n) (by rw [rowF_length]; omega) (row_any HOWN.out)).mono ?_
        rintro ev w2 ⟨rfl, hb2⟩
        rw [← want_any hc g (.wrap op 1 (.wrap op 2 (.sent j))) (by have := HJ.out; simp only [ErrT.code]; omega) n]
        have hB2 := HB.out.trans (hb2.mono HB.out.size)
        clear hb2
        go_wp2_with fail
        refine (faultRuns A _ (HS.out.below hB2).runs).mono ?_
        rintro ev w3 ⟨rfl, hb3⟩
        go_wp2_with fail
        go_ret
        exact ⟨rfl, hB2.trans (hb3.mono hB2.size)⟩

end Go.Proofs.YteljpfbfkpdchaaDoor
