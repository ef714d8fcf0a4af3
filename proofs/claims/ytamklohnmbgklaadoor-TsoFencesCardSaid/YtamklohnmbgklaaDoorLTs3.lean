/- TsoFences: true; no condition but what a start gives. -/
import Derived.Test.YtamklohnmbgklaaDoorLTs2
import Derived.Test.YtamklohnmbgklaaDoorIntsU2
namespace Go.Proofs.YtamklohnmbgklaaDoor
open Go.RowKit Go.Extern.Stop Go.Stop Go.Extern

/-- The first k stores; memory behind the first k. -/
def sto (g : Nat → Int) (k : Nat) : List (Int × Int) := (List.range k).map fun j => (((j % 4 : Nat) : Int), g j)
def memF (g : Nat → Int) : Nat → List Int
  | 0 => [0, 0, 0, 0]
  | k + 1 => (memF g k).set (k % 4) (g k)
theorem sto_length (g : Nat → Int) (k : Nat) : (sto g k).length = k := by simp [sto]
theorem sto_succ (g : Nat → Int) (k : Nat) : sto g (k + 1) = sto g k ++ [(((k % 4 : Nat) : Int), g k)] := by simp [sto, List.range_succ]
theorem sto_drop (g : Nat → Int) {k n : Nat} (h : k < n) : (sto g n).drop k = (((k % 4 : Nat) : Int), g k) :: (sto g n).drop (k + 1) := by
  have hl : k < (sto g n).length := by rw [sto_length]; exact h
  rw [List.drop_eq_getElem_cons hl]
  congr 1
  simp [sto]
theorem memF_length (g : Nat → Int) (k : Nat) : (memF g k).length = 4 := by
  induction k with
  | zero => rfl
  | succ k ih => rw [memF, List.length_set, ih]

/-- Three cores, of which the first has these. -/
def b3 (L : List (Int × Int)) : Bufs := [L, [], []]
theorem rd_b3 (M : List Int) (k : Int) (a : Nat) : rdS (b3 []) M k a = M.getD a 0 := by
  have h : ∀ j, (b3 []).getD j [] = [] := fun j => by
    match j with
    | 0 => rfl
    | 1 => rfl
    | 2 => rfl
    | j + 3 => simp [b3]
  unfold rdS
  rw [h]
  rfl
theorem b3_le {L : List (Int × Int)} {n : Nat} (h : L.length ≤ n) : ∀ k, ((b3 L).getD k []).length ≤ n := by
  intro k
  match k with
  | 0 => exact h
  | 1 => simp [b3]
  | 2 => simp [b3]
  | k + 3 => simp [b3]
theorem st_store {L : List (Int × Int)} {M : List Int} {a : Nat} (ha : a < M.length) (v : Int) : stC (b3 L) M ⟨2, 0, a, v, 0, false⟩ = 0 := by
  have h1 : okC (b3 L) 0 := ⟨by omega, by simp [b3]⟩
  have h2 : okA M (a : Int) := ⟨by omega, by omega⟩
  simp [stC, h1, h2]
theorem nx_store {L : List (Int × Int)} {M : List Int} {a : Nat} (ha : a < M.length) (v : Int) : nxB (b3 L) M ⟨2, 0, a, v, 0, false⟩ = b3 (L ++ [((a : Int), v)]) ∧ nxM (b3 L) M ⟨2, 0, a, v, 0, false⟩ = M := by
  simp only [nxB, nxM, st_store ha v, if_true]
  exact ⟨rfl, by simp [stM]⟩
theorem st_commit {L : List (Int × Int)} {M : List Int} {a : Nat} (ha : a < M.length) (v : Int) : stC (b3 (((a : Int), v) :: L)) M ⟨3, 0, a, v, 0, false⟩ = 0 := by
  have h1 : okC (b3 (((a : Int), v) :: L)) 0 := ⟨by omega, by simp [b3]⟩
  have h2 : okA M (a : Int) := ⟨by omega, by omega⟩
  simp only [stC, h1, h2]
  simp [b3]
theorem nx_commit {L : List (Int × Int)} {M : List Int} {a : Nat} (ha : a < M.length) (v : Int) : nxB (b3 (((a : Int), v) :: L)) M ⟨3, 0, a, v, 0, false⟩ = b3 L ∧ nxM (b3 (((a : Int), v) :: L)) M ⟨3, 0, a, v, 0, false⟩ = M.set a v := by
  simp only [nxB, nxM, st_commit ha v, if_true]
  exact ⟨rfl, by simp [stM]⟩
theorem st_fence_no {x : Int × Int} {L : List (Int × Int)} {M : List Int} : stC (b3 (x :: L)) M ⟨5, 0, 0, 0, 0, false⟩ = 9 := by
  have h1 : okC (b3 (x :: L)) 0 := ⟨by omega, by simp [b3]⟩
  simp only [stC, h1]
  simp [b3]
theorem st_fence_ok {M : List Int} : stC (b3 []) M ⟨5, 0, 0, 0, 0, false⟩ = 0 := by
  have h1 : okC (b3 []) 0 := ⟨by omega, by simp [b3]⟩
  simp only [stC, h1]
  simp [b3]

set_option maxRecDepth 100000 in
set_option maxHeartbeats 16000000 in
/-- The law behind its cut: N values are left. -/
theorem fences (A : Nat → Addr) (p : Option Addr) (N c : Nat) (g : Nat → Int) (other : Int) (w : World) (hs : SentAt w A) (ho : -9223372036854775808 ≤ other ∧ other ≤ 9223372036854775807) (hN : N ≤ 20) (n : Nat) (hnN : N = if 20 < n then 20 else n) (hnc : n ≤ c)
    (hel : ∀ i, i < N → ∃ b off, p = some ⟨b, off, none⟩ ∧ b < w.heap.size ∧ w.cell? ⟨b, off + i, none⟩ = some (.int .u32 (g i))) :
    Calls Tryd.prog 8 #[.slice p n c, .int .i64 other] w (TruePost w) := by
  have HS := Lib.hid hs
  have HO := Lib.hid ho
  have HEL := Lib.hid hel
  have HNN := Lib.hid hN
  clear hs ho hel
  by_cases hn : 20 < n
  · rw [if_pos hn] at hnN
    subst hnN
    have g0 : decide ((n : Int) > 20) = true := by simp; omega
    have g1 : 20 ≤ c := by omega
    clear hN hn hnc
    go_enter Tryd.func8, Tryd.ntmps8
    go_wp2_with fail
    refine (tnew_ok 3 4 w (by omega) (by omega) (by omega) (by omega)).mono ?_
    rintro ev w1 ⟨b, rfl, ⟨F, hF⟩, hb1⟩
    have HF := Lib.hid hF
    have HB1 := Lib.hid hb1
    clear hF hb1
    go_wp2_with fail
    go_loopw [7] (fun s7 wr => ∃ (i : Nat) (F : Nat → Prop), i ≤ 20 ∧ s7 = .int .i64 i ∧ Md tyP wr w.heap.size b F (b3 (sto g i)) [0, 0, 0, 0] ∧ Below w.heap.size w wr) (fun s7 _ => 20 - (intOf s7).toNat)
    case atStart => exact ⟨0, F, by omega, rfl, HF.out, HB1.out⟩
    case round =>
      clear HF HB1
      obtain ⟨i, F, hi, rfl, hF, hB⟩ := hrel
      have HF := Lib.hid hF
      have HB := Lib.hid hB
      clear hF hB
      by_cases hil : i < 20
      · have g3 : decide ((i : Int) < 20) = true := by simp; omega
        obtain ⟨bq, oq, rfl, hbq, hcq⟩ := HEL.out i hil
        have e1 := (HB.out.cell (p := ⟨bq, oq + i, none⟩) hbq).trans hcq
        obtain ⟨r, hr⟩ : ∃ r : Nat, (i : Int) % 4 = (r : Int) := ⟨i % 4, by omega⟩
        have HR := Lib.hid (show i % 4 = r by omega)
        have HR4 := Lib.hid (show r < 4 by omega)
        clear hbq hcq
        go_wp2_with fail
        rw [hr]
        clear hr
        refine (ev_c 2 0 r (g i) wr).mono ?_
        rintro ev w2 ⟨rfl, hb2⟩
        have HB2 := Lib.hid (HB.out.trans (hb2.mono HB.out.size))
        have HF2 := Lib.hid (HF.out.below hb2)
        simp only [Ev.v]
        clear hb2
        go_wp2_with fail
        refine (tstep_c A w.heap.size b F (b3 (sto g i)) [0, 0, 0, 0] ⟨2, 0, r, g i, 0, false⟩ w2 (HS.out.below HB2.out) HF2.out (by simp) (b3_le (by rw [sto_length]; have := HNN.out; omega))).mono ?_
        rintro ev w3 ⟨rfl, F', hF', hM3, _⟩
        have hw3 := Lib.hid (HB2.out.trans (hM3.below HB2.out.size fun q hq => (HF2.out.lt q hq).1))
        rw [(nx_store (L := sto g i) (M := [0, 0, 0, 0]) (a := r) (by have := HR4.out; simpa using this) (g i)).1, (nx_store (L := sto g i) (M := [0, 0, 0, 0]) (a := r) (by have := HR4.out; simpa using this) (g i)).2] at hF'
        rw [show stepE (b3 (sto g i)) [0, 0, 0, 0] ⟨2, 0, r, g i, 0, false⟩ = .nil by unfold stepE; rw [if_pos (st_store (by have := HR4.out; simpa using this) (g i))], show ErrT.nil.val A = .nilIface from rfl]
        have HF3 := Lib.hid (show Md tyP w3 w.heap.size b F' (b3 (sto g (i + 1))) [0, 0, 0, 0] by rw [sto_succ, HR.out]; exact hF')
        clear hF' hM3
        go_wp2_with fail
        go_roundw
        case rel => exact ⟨i + 1, F', by omega, by go_num, HF3.out, hw3.out⟩
        case measure => simp [intOf]; omega
      · have g3 : decide ((i : Int) < 20) = false := by simp; omega
        have hiN : i = 20 := by omega
        have hff := HF.out
        rw [hiN] at hff
        have HF := Lib.hid hff
        clear hff hiN
        go_wp2_with fail
        go_loopw [8] (fun s8 wr => ∃ (i : Nat) (F : Nat → Prop), i ≤ 20 ∧ s8 = .int .i64 i ∧ Md tyP wr w.heap.size b F (b3 ((sto g 20).drop i)) (memF g i) ∧ Below w.heap.size w wr) (fun s8 _ => 20 - (intOf s8).toNat)
        case atStart => exact ⟨0, F, by omega, rfl, HF.out, HB.out⟩
        case round =>
          clear HF HB g3 hil hi
          obtain ⟨i, F, hi, rfl, hF, hB⟩ := hrel
          have HF := Lib.hid hF
          have HB := Lib.hid hB
          clear hF hB
          by_cases hil : i < 20
          · have g3 : decide ((i : Int) < 20) = true := by simp; omega
            have hdr := Lib.hid (sto_drop g hil)
            have hff := HF.out
            rw [hdr.out] at hff
            have HFF := Lib.hid hff
            clear hff
            go_wp2_with fail
            refine (ev_c 5 0 0 0 wr).mono ?_
            rintro ev w2 ⟨rfl, hb2⟩
            have HB2 := Lib.hid (HB.out.trans (hb2.mono HB.out.size))
            have HF2 := Lib.hid (HFF.out.below hb2)
            simp only [Ev.v]
            clear hb2
            go_wp2_with fail
            refine (tstep_c A w.heap.size b F _ (memF g i) ⟨5, 0, 0, 0, 0, false⟩ w2 (HS.out.below HB2.out) HF2.out (by rw [memF_length]; omega) (b3_le (by rw [← hdr.out, List.length_drop, sto_length]; have := HNN.out; omega))).mono ?_
            rintro ev w3 ⟨rfl, F', hF', hM3, _⟩
            have hw3 := Lib.hid (HB2.out.trans (hM3.below HB2.out.size fun q hq => (HF2.out.lt q hq).1))
            rw [show stepE (b3 ((((i % 4 : Nat) : Int), g i) :: (sto g 20).drop (i + 1))) (memF g i) ⟨5, 0, 0, 0, 0, false⟩ = .wrap tsT 0 (.sent 8) by unfold stepE; rw [if_neg (by rw [st_fence_no]; decide), st_fence_no], show (ErrT.wrap tsT 0 (.sent 8)).val A = .iface 78 (.agg #[.string tsT, .int .i64 0, .iface 129 (.pointer (some (A 8)))]) from rfl]
            rw [show nxB (b3 ((((i % 4 : Nat) : Int), g i) :: (sto g 20).drop (i + 1))) (memF g i) ⟨5, 0, 0, 0, 0, false⟩ = b3 ((((i % 4 : Nat) : Int), g i) :: (sto g 20).drop (i + 1)) by unfold nxB; rw [if_neg (by rw [st_fence_no]; decide)], show nxM (b3 ((((i % 4 : Nat) : Int), g i) :: (sto g 20).drop (i + 1))) (memF g i) ⟨5, 0, 0, 0, 0, false⟩ = memF g i by unfold nxM; rw [if_neg (by rw [st_fence_no]; decide)]] at hF'
            have HF3 := Lib.hid hF'
            clear hF' hM3
            go_wp2_with fail
            refine (twt_c w.heap.size b F' _ (memF g i) 0 w3 HF3.out (by rw [memF_length]; omega)).mono ?_
            rintro ev w' ⟨rfl, hww⟩
            obtain rfl := hww
            rw [if_pos (show okC (b3 ((((i % 4 : Nat) : Int), g i) :: (sto g 20).drop (i + 1))) 0 from ⟨by omega, by simp [b3]⟩), show ((b3 ((((i % 4 : Nat) : Int), g i) :: (sto g 20).drop (i + 1))).getD (Int.toNat 0) []).length = 20 - i by rw [← hdr.out]; show ((sto g 20).drop i).length = 20 - i; rw [List.length_drop, sto_length]]
            obtain ⟨d, hd⟩ : ∃ d : Nat, 20 - i = d := ⟨_, rfl⟩
            have hdi : (20 : Int) - (i : Int) = (d : Int) := by omega
            have gdd : ((d : Int) != (d : Int)) = false := by simp
            rw [hd]
            obtain ⟨bq, oq, rfl, hbq, hcq⟩ := HEL.out i hil
            have e1 := (HB.out.cell (p := ⟨bq, oq + i, none⟩) hbq).trans hcq
            obtain ⟨r, hr⟩ : ∃ r : Nat, (i : Int) % 4 = (r : Int) := ⟨i % 4, by omega⟩
            have HR := Lib.hid (show i % 4 = r by omega)
            have HR4 := Lib.hid (show r < 4 by omega)
            have hb2 := HEL.out
            have e1 := (hw3.out.cell (p := ⟨bq, oq + i, none⟩) hbq).trans hcq
            clear hbq hcq hb2 hd
            go_wp2_with fail
            rw [hr]
            clear hr hdi gdd
            refine (ev_c 3 0 r (g i) w3).mono ?_
            rintro ev w4 ⟨rfl, hb4⟩
            have HB4 := Lib.hid (hw3.out.trans (hb4.mono hw3.out.size))
            have hf4 := HF3.out.below hb4
            rw [HR.out] at hf4
            have HF4 := Lib.hid hf4
            simp only [Ev.v]
            clear hb4 hf4
            go_wp2_with fail
            refine (tstep_c A w.heap.size b F' _ (memF g i) ⟨3, 0, r, g i, 0, false⟩ w4 (HS.out.below HB4.out) HF4.out (by rw [memF_length]; omega) (b3_le (by rw [List.length_cons, List.length_drop, sto_length]; have := HNN.out; omega))).mono ?_
            rintro ev w5 ⟨rfl, F5, hF5, hM5, _⟩
            have hw5 := Lib.hid (HB4.out.trans (hM5.below HB4.out.size fun q hq => (HF4.out.lt q hq).1))
            have ha4 : r < (memF g i).length := by rw [memF_length]; exact HR4.out
            rw [(nx_commit (L := (sto g 20).drop (i + 1)) ha4 (g i)).1, (nx_commit (L := (sto g 20).drop (i + 1)) ha4 (g i)).2] at hF5
            rw [show stepE (b3 (((r : Int), g i) :: (sto g 20).drop (i + 1))) (memF g i) ⟨3, 0, r, g i, 0, false⟩ = .nil by unfold stepE; rw [if_pos (st_commit ha4 (g i))], show ErrT.nil.val A = .nilIface from rfl]
            have HF5 := Lib.hid (show Md tyP w5 w.heap.size b F5 (b3 ((sto g 20).drop (i + 1))) (memF g (i + 1)) by rw [memF, HR.out]; exact hF5)
            clear hF5 hM5 ha4
            go_wp2_with fail
            go_roundw
            case rel => exact ⟨i + 1, F5, by omega, by go_num, HF5.out, hw5.out⟩
            case measure => simp [intOf]; omega
          · have g3 : decide ((i : Int) < 20) = false := by simp; omega
            have hiN : i = 20 := by omega
            have hff := HF.out
            rw [hiN, List.drop_eq_nil_of_le (by rw [sto_length]; exact Nat.le_refl _)] at hff
            have HFF := Lib.hid hff
            clear hff hiN
            go_wp2_with fail
            have hX := heap_alloc_new wr (.cells #[.int .u32 0, .int .u32 0, .int .u32 0, .int .u32 0] 57)
            have hba : Below wr.heap.size wr (wr.alloc (.cells #[.int .u32 0, .int .u32 0, .int .u32 0, .int .u32 0] 57)) := (Below.refl _ _).alloc (Nat.le_refl _) _
            obtain ⟨s, hs⟩ : ∃ s, s = wr.heap.size := ⟨_, rfl⟩
            have HFA := Lib.hid (HFF.out.below hba)
            have HBA := Lib.hid (HB.out.trans (hba.mono HB.out.size))
            have HSF := Lib.hid (show ∀ q, F q → q ≠ s from fun q hq e => by
              have := (HFF.out.lt q hq).2
              omega)
            have HSW := Lib.hid (show w.heap.size ≤ s by rw [hs]; exact HB.out.size)
            rw [← hs] at hX ⊢
            generalize wr.alloc (.cells #[.int .u32 0, .int .u32 0, .int .u32 0, .int .u32 0] 57) = wa at *
            have HX := Lib.hid (show wa.heap[s]? = some (.cells (u32V (memF g 0)).toArray 57 (0, 0)) from hX)
            clear hX hba hs HB HFF HF
            go_loopw [10] (fun s10 wq => ∃ i : Nat, i ≤ 20 ∧ s10 = .int .i64 i ∧ wq.heap[s]? = some (.cells (u32V (memF g i)).toArray 57 (0, 0)) ∧ Md tyP wq w.heap.size b F (b3 []) (memF g 20) ∧ Below w.heap.size w wq) (fun s10 _ => 20 - (intOf s10).toNat)
            case atStart => exact ⟨0, by omega, rfl, HX.out, HFA.out, HBA.out⟩
            case round =>
              clear HX HFA HBA hil g3 hi
              obtain ⟨i, hi, rfl, hX, hF, hB⟩ := hrel
              obtain ⟨wq, hwq⟩ : ∃ wq, wq = wr := ⟨wr, rfl⟩
              subst hwq
              have HX := Lib.hid hX
              have HF := Lib.hid hF
              have HB := Lib.hid hB
              clear hX hF hB
              by_cases hil : i < 20
              · have g3 : decide ((i : Int) < 20) = true := by simp; omega
                obtain ⟨bq, oq, rfl, hbq, hcq⟩ := HEL.out i hil
                have e1 := (HB.out.cell (p := ⟨bq, oq + i, none⟩) hbq).trans hcq
                obtain ⟨r, hr⟩ : ∃ r : Nat, (i : Int) % 4 = (r : Int) := ⟨i % 4, by omega⟩
                have HR := Lib.hid (show i % 4 = r by omega)
                have HR4 := Lib.hid (show r < 4 by omega)
                have hxr : s < wq.heap.size := (Array.getElem?_eq_some_iff.1 HX.out).1
                have e2 := cell_of HX.out r
                have z2 := frozen_of HX.out r
                have hlr : r < (u32V (memF g i)).length := by rw [u32V_length, memF_length]; exact HR4.out
                rw [List.getElem?_toArray, List.getElem?_eq_getElem hlr] at e2
                obtain ⟨x0, hx0⟩ : ∃ x0, (u32V (memF g i))[r] = x0 := ⟨_, rfl⟩
                rw [hx0] at e2
                have hr4 : (r : Int) < 4 := by have := HR4.out; omega
                have hM := (Mods.refl (fun q => q = s) wq).setCell (p := ⟨s, r, none⟩) (show s = s from rfl) (.int .u32 (g i))
                have HM := Lib.hid hM
                clear hbq hcq hlr hx0 hM
                go_wp2_with fail
                go_roundw
                case rel =>
                  refine ⟨i + 1, by omega, by go_num, ?_, HF.out.keep HM.out fun q hq e => HSF.out q hq e, HB.out.trans (HM.out.below HB.out.size fun q hq => by rw [hq]; exact HSW.out)⟩
                  have h := heap_setCell_at (k := r) HX.out (.int .u32 (g i))
                  rw [h, memF, HR.out]
                  simp [u32V, List.map_set]
                case measure => simp [intOf]; omega
              · have g3 : decide ((i : Int) < 20) = false := by simp; omega
                have hiN : i = 20 := by omega
                have hxx := HX.out
                rw [hiN] at hxx
                have HX := Lib.hid hxx
                have hwi := wiF_b (n := other) (lo := 0) (hi := 2) (by omega)
                have HWI := Lib.hid hwi
                clear hxx hiN hwi
                go_wp2_with fail
                refine (Within_b other 0 2 wq (by omega) (by omega) (by omega) HO.out.1 HO.out.2).mono ?_
                rintro ev w' ⟨rfl, hww⟩
                obtain rfl := hww
                generalize wiF other 0 2 = kk at *
                go_wp2_with fail
                go_loopw [12] (fun s12 wq2 => ∃ a : Nat, a ≤ 4 ∧ s12 = .int .i64 a ∧ wq = wq2) (fun s12 _ => 4 - (intOf s12).toNat)
                case atStart => exact ⟨0, by omega, rfl, rfl⟩
                case round =>
                  clear hil g3 hi
                  obtain ⟨a, ha, rfl, rfl⟩ := hrel
                  by_cases hal : a < 4
                  · have g3 : decide ((a : Int) < 4) = true := by simp; omega
                    have e2 := cell_of HX.out a
                    rw [List.getElem?_toArray, u32V_at (by rw [memF_length]; exact hal)] at e2
                    have hok : okC (b3 []) kk ∧ okA (memF g 20) (a : Int) := ⟨⟨by have := HWI.out; omega, by have := HWI.out; simp [b3]; omega⟩, ⟨by omega, by rw [memF_length]; omega⟩⟩
                    have HOK := Lib.hid hok
                    have HRDV := Lib.hid (show rdS (b3 []) (memF g 20) kk a = (memF g 20).getD a 0 from rd_b3 _ _ _)
                    have gxx : ∀ x : Int, (x != x) = false := fun x => by simp
                    obtain ⟨mv, hmv⟩ : ∃ mv, (memF g 20).getD a 0 = mv := ⟨_, rfl⟩
                    have HMV := Lib.hid hmv
                    rw [hmv] at e2
                    have gx := gxx mv
                    clear hok gxx hmv
                    go_wp2_with fail
                    refine (trd_c w.heap.size b F (b3 []) (memF g 20) kk a wq HF.out).mono ?_
                    rintro ev w' ⟨rfl, hww⟩
                    obtain rfl := hww
                    rw [if_pos HOK.out, decide_eq_true HOK.out, HRDV.out, HMV.out]
                    go_wp2_with fail
                    go_roundw
                    case rel => exact ⟨a + 1, by omega, by go_num, trivial⟩
                    case measure => simp [intOf]; omega
                  · have g3 : decide ((a : Int) < 4) = false := by simp; omega
                    go_wp2_with fail
                    refine (ev_c 5 0 0 0 wq).mono ?_
                    rintro ev w2 ⟨rfl, hb2⟩
                    have HB2 := Lib.hid (HB.out.trans (hb2.mono HB.out.size))
                    have HF2 := Lib.hid (HF.out.below hb2)
                    simp only [Ev.v]
                    clear hb2
                    go_wp2_with fail
                    refine (tstep_c A w.heap.size b F (b3 []) (memF g 20) ⟨5, 0, 0, 0, 0, false⟩ w2 (HS.out.below HB2.out) HF2.out (by rw [memF_length]; omega) (b3_le (by simp))).mono ?_
                    rintro ev w3 ⟨rfl, F', hF', hM3, _⟩
                    have hw3 := Lib.hid (HB2.out.trans (hM3.below HB2.out.size fun q hq => (HF2.out.lt q hq).1))
                    rw [show stepE (b3 []) (memF g 20) ⟨5, 0, 0, 0, 0, false⟩ = .nil by unfold stepE; rw [if_pos st_fence_ok], show ErrT.nil.val A = .nilIface from rfl]
                    clear hF' hM3
                    go_wp2_with fail
                    refine (tsoRuns A _ (HS.out.below hw3.out)).mono ?_
                    rintro ev w4 ⟨rfl, hb4⟩
                    go_wp2_with fail
                    go_ret
                    exact ⟨rfl, hw3.out.trans (hb4.mono hw3.out.size)⟩
  · rw [if_neg hn] at hnN
    subst hnN
    have g0 : decide ((N : Int) > 20) = false := by simp; omega
    clear hn hnc
    go_enter Tryd.func8, Tryd.ntmps8
    go_wp2_with fail
    refine (tnew_ok 3 4 w (by omega) (by omega) (by omega) (by omega)).mono ?_
    rintro ev w1 ⟨b, rfl, ⟨F, hF⟩, hb1⟩
    have HF := Lib.hid hF
    have HB1 := Lib.hid hb1
    clear hF hb1
    go_wp2_with fail
    go_loopw [7] (fun s7 wr => ∃ (i : Nat) (F : Nat → Prop), i ≤ N ∧ s7 = .int .i64 i ∧ Md tyP wr w.heap.size b F (b3 (sto g i)) [0, 0, 0, 0] ∧ Below w.heap.size w wr) (fun s7 _ => N - (intOf s7).toNat)
    case atStart => exact ⟨0, F, by omega, rfl, HF.out, HB1.out⟩
    case round =>
      clear HF HB1
      obtain ⟨i, F, hi, rfl, hF, hB⟩ := hrel
      have HF := Lib.hid hF
      have HB := Lib.hid hB
      clear hF hB
      by_cases hil : i < N
      · have g3 : decide (i < N) = true := by simp; omega
        obtain ⟨bq, oq, rfl, hbq, hcq⟩ := HEL.out i hil
        have e1 := (HB.out.cell (p := ⟨bq, oq + i, none⟩) hbq).trans hcq
        obtain ⟨r, hr⟩ : ∃ r : Nat, (i : Int) % 4 = (r : Int) := ⟨i % 4, by omega⟩
        have HR := Lib.hid (show i % 4 = r by omega)
        have HR4 := Lib.hid (show r < 4 by omega)
        clear hbq hcq
        go_wp2_with fail
        rw [hr]
        clear hr
        refine (ev_c 2 0 r (g i) wr).mono ?_
        rintro ev w2 ⟨rfl, hb2⟩
        have HB2 := Lib.hid (HB.out.trans (hb2.mono HB.out.size))
        have HF2 := Lib.hid (HF.out.below hb2)
        simp only [Ev.v]
        clear hb2
        go_wp2_with fail
        refine (tstep_c A w.heap.size b F (b3 (sto g i)) [0, 0, 0, 0] ⟨2, 0, r, g i, 0, false⟩ w2 (HS.out.below HB2.out) HF2.out (by simp) (b3_le (by rw [sto_length]; have := HNN.out; omega))).mono ?_
        rintro ev w3 ⟨rfl, F', hF', hM3, _⟩
        have hw3 := Lib.hid (HB2.out.trans (hM3.below HB2.out.size fun q hq => (HF2.out.lt q hq).1))
        rw [(nx_store (L := sto g i) (M := [0, 0, 0, 0]) (a := r) (by have := HR4.out; simpa using this) (g i)).1, (nx_store (L := sto g i) (M := [0, 0, 0, 0]) (a := r) (by have := HR4.out; simpa using this) (g i)).2] at hF'
        rw [show stepE (b3 (sto g i)) [0, 0, 0, 0] ⟨2, 0, r, g i, 0, false⟩ = .nil by unfold stepE; rw [if_pos (st_store (by have := HR4.out; simpa using this) (g i))], show ErrT.nil.val A = .nilIface from rfl]
        have HF3 := Lib.hid (show Md tyP w3 w.heap.size b F' (b3 (sto g (i + 1))) [0, 0, 0, 0] by rw [sto_succ, HR.out]; exact hF')
        clear hF' hM3
        go_wp2_with fail
        go_roundw
        case rel => exact ⟨i + 1, F', by omega, by go_num, HF3.out, hw3.out⟩
        case measure => simp [intOf]; omega
      · have g3 : decide (i < N) = false := by simp; omega
        have hiN : i = N := by omega
        have hff := HF.out
        rw [hiN] at hff
        have HF := Lib.hid hff
        clear hff hiN
        go_wp2_with fail
        go_loopw [8] (fun s8 wr => ∃ (i : Nat) (F : Nat → Prop), i ≤ N ∧ s8 = .int .i64 i ∧ Md tyP wr w.heap.size b F (b3 ((sto g N).drop i)) (memF g i) ∧ Below w.heap.size w wr) (fun s8 _ => N - (intOf s8).toNat)
        case atStart => exact ⟨0, F, by omega, rfl, HF.out, HB.out⟩
        case round =>
          clear HF HB g3 hil hi
          obtain ⟨i, F, hi, rfl, hF, hB⟩ := hrel
          have HF := Lib.hid hF
          have HB := Lib.hid hB
          clear hF hB
          by_cases hil : i < N
          · have g3 : decide (i < N) = true := by simp; omega
            have hdr := Lib.hid (sto_drop g hil)
            have hff := HF.out
            rw [hdr.out] at hff
            have HFF := Lib.hid hff
            clear hff
            go_wp2_with fail
            refine (ev_c 5 0 0 0 wr).mono ?_
            rintro ev w2 ⟨rfl, hb2⟩
            have HB2 := Lib.hid (HB.out.trans (hb2.mono HB.out.size))
            have HF2 := Lib.hid (HFF.out.below hb2)
            simp only [Ev.v]
            clear hb2
            go_wp2_with fail
            refine (tstep_c A w.heap.size b F _ (memF g i) ⟨5, 0, 0, 0, 0, false⟩ w2 (HS.out.below HB2.out) HF2.out (by rw [memF_length]; omega) (b3_le (by rw [← hdr.out, List.length_drop, sto_length]; have := HNN.out; omega))).mono ?_
            rintro ev w3 ⟨rfl, F', hF', hM3, _⟩
            have hw3 := Lib.hid (HB2.out.trans (hM3.below HB2.out.size fun q hq => (HF2.out.lt q hq).1))
            rw [show stepE (b3 ((((i % 4 : Nat) : Int), g i) :: (sto g N).drop (i + 1))) (memF g i) ⟨5, 0, 0, 0, 0, false⟩ = .wrap tsT 0 (.sent 8) by unfold stepE; rw [if_neg (by rw [st_fence_no]; decide), st_fence_no], show (ErrT.wrap tsT 0 (.sent 8)).val A = .iface 78 (.agg #[.string tsT, .int .i64 0, .iface 129 (.pointer (some (A 8)))]) from rfl]
            rw [show nxB (b3 ((((i % 4 : Nat) : Int), g i) :: (sto g N).drop (i + 1))) (memF g i) ⟨5, 0, 0, 0, 0, false⟩ = b3 ((((i % 4 : Nat) : Int), g i) :: (sto g N).drop (i + 1)) by unfold nxB; rw [if_neg (by rw [st_fence_no]; decide)], show nxM (b3 ((((i % 4 : Nat) : Int), g i) :: (sto g N).drop (i + 1))) (memF g i) ⟨5, 0, 0, 0, 0, false⟩ = memF g i by unfold nxM; rw [if_neg (by rw [st_fence_no]; decide)]] at hF'
            have HF3 := Lib.hid hF'
            clear hF' hM3
            go_wp2_with fail
            refine (twt_c w.heap.size b F' _ (memF g i) 0 w3 HF3.out (by rw [memF_length]; omega)).mono ?_
            rintro ev w' ⟨rfl, hww⟩
            obtain rfl := hww
            rw [if_pos (show okC (b3 ((((i % 4 : Nat) : Int), g i) :: (sto g N).drop (i + 1))) 0 from ⟨by omega, by simp [b3]⟩), show ((b3 ((((i % 4 : Nat) : Int), g i) :: (sto g N).drop (i + 1))).getD (Int.toNat 0) []).length = N - i by rw [← hdr.out]; show ((sto g N).drop i).length = N - i; rw [List.length_drop, sto_length]]
            obtain ⟨d, hd⟩ : ∃ d : Nat, N - i = d := ⟨_, rfl⟩
            have hdi : (N : Int) - (i : Int) = (d : Int) := by omega
            have gdd : ((d : Int) != (d : Int)) = false := by simp
            rw [hd]
            obtain ⟨bq, oq, rfl, hbq, hcq⟩ := HEL.out i hil
            have e1 := (HB.out.cell (p := ⟨bq, oq + i, none⟩) hbq).trans hcq
            obtain ⟨r, hr⟩ : ∃ r : Nat, (i : Int) % 4 = (r : Int) := ⟨i % 4, by omega⟩
            have HR := Lib.hid (show i % 4 = r by omega)
            have HR4 := Lib.hid (show r < 4 by omega)
            have hb2 := HEL.out
            have e1 := (hw3.out.cell (p := ⟨bq, oq + i, none⟩) hbq).trans hcq
            clear hbq hcq hb2 hd
            go_wp2_with fail
            rw [hr]
            clear hr hdi gdd
            refine (ev_c 3 0 r (g i) w3).mono ?_
            rintro ev w4 ⟨rfl, hb4⟩
            have HB4 := Lib.hid (hw3.out.trans (hb4.mono hw3.out.size))
            have hf4 := HF3.out.below hb4
            rw [HR.out] at hf4
            have HF4 := Lib.hid hf4
            simp only [Ev.v]
            clear hb4 hf4
            go_wp2_with fail
            refine (tstep_c A w.heap.size b F' _ (memF g i) ⟨3, 0, r, g i, 0, false⟩ w4 (HS.out.below HB4.out) HF4.out (by rw [memF_length]; omega) (b3_le (by rw [List.length_cons, List.length_drop, sto_length]; have := HNN.out; omega))).mono ?_
            rintro ev w5 ⟨rfl, F5, hF5, hM5, _⟩
            have hw5 := Lib.hid (HB4.out.trans (hM5.below HB4.out.size fun q hq => (HF4.out.lt q hq).1))
            have ha4 : r < (memF g i).length := by rw [memF_length]; exact HR4.out
            rw [(nx_commit (L := (sto g N).drop (i + 1)) ha4 (g i)).1, (nx_commit (L := (sto g N).drop (i + 1)) ha4 (g i)).2] at hF5
            rw [show stepE (b3 (((r : Int), g i) :: (sto g N).drop (i + 1))) (memF g i) ⟨3, 0, r, g i, 0, false⟩ = .nil by unfold stepE; rw [if_pos (st_commit ha4 (g i))], show ErrT.nil.val A = .nilIface from rfl]
            have HF5 := Lib.hid (show Md tyP w5 w.heap.size b F5 (b3 ((sto g N).drop (i + 1))) (memF g (i + 1)) by rw [memF, HR.out]; exact hF5)
            clear hF5 hM5 ha4
            go_wp2_with fail
            go_roundw
            case rel => exact ⟨i + 1, F5, by omega, by go_num, HF5.out, hw5.out⟩
            case measure => simp [intOf]; omega
          · have g3 : decide (i < N) = false := by simp; omega
            have hiN : i = N := by omega
            have hff := HF.out
            rw [hiN, List.drop_eq_nil_of_le (by rw [sto_length]; exact Nat.le_refl _)] at hff
            have HFF := Lib.hid hff
            clear hff hiN
            go_wp2_with fail
            have hX := heap_alloc_new wr (.cells #[.int .u32 0, .int .u32 0, .int .u32 0, .int .u32 0] 57)
            have hba : Below wr.heap.size wr (wr.alloc (.cells #[.int .u32 0, .int .u32 0, .int .u32 0, .int .u32 0] 57)) := (Below.refl _ _).alloc (Nat.le_refl _) _
            obtain ⟨s, hs⟩ : ∃ s, s = wr.heap.size := ⟨_, rfl⟩
            have HFA := Lib.hid (HFF.out.below hba)
            have HBA := Lib.hid (HB.out.trans (hba.mono HB.out.size))
            have HSF := Lib.hid (show ∀ q, F q → q ≠ s from fun q hq e => by
              have := (HFF.out.lt q hq).2
              omega)
            have HSW := Lib.hid (show w.heap.size ≤ s by rw [hs]; exact HB.out.size)
            rw [← hs] at hX ⊢
            generalize wr.alloc (.cells #[.int .u32 0, .int .u32 0, .int .u32 0, .int .u32 0] 57) = wa at *
            have HX := Lib.hid (show wa.heap[s]? = some (.cells (u32V (memF g 0)).toArray 57 (0, 0)) from hX)
            clear hX hba hs HB HFF HF
            go_loopw [10] (fun s10 wq => ∃ i : Nat, i ≤ N ∧ s10 = .int .i64 i ∧ wq.heap[s]? = some (.cells (u32V (memF g i)).toArray 57 (0, 0)) ∧ Md tyP wq w.heap.size b F (b3 []) (memF g N) ∧ Below w.heap.size w wq) (fun s10 _ => N - (intOf s10).toNat)
            case atStart => exact ⟨0, by omega, rfl, HX.out, HFA.out, HBA.out⟩
            case round =>
              clear HX HFA HBA hil g3 hi
              obtain ⟨i, hi, rfl, hX, hF, hB⟩ := hrel
              obtain ⟨wq, hwq⟩ : ∃ wq, wq = wr := ⟨wr, rfl⟩
              subst hwq
              have HX := Lib.hid hX
              have HF := Lib.hid hF
              have HB := Lib.hid hB
              clear hX hF hB
              by_cases hil : i < N
              · have g3 : decide (i < N) = true := by simp; omega
                obtain ⟨bq, oq, rfl, hbq, hcq⟩ := HEL.out i hil
                have e1 := (HB.out.cell (p := ⟨bq, oq + i, none⟩) hbq).trans hcq
                obtain ⟨r, hr⟩ : ∃ r : Nat, (i : Int) % 4 = (r : Int) := ⟨i % 4, by omega⟩
                have HR := Lib.hid (show i % 4 = r by omega)
                have HR4 := Lib.hid (show r < 4 by omega)
                have hxr : s < wq.heap.size := (Array.getElem?_eq_some_iff.1 HX.out).1
                have e2 := cell_of HX.out r
                have z2 := frozen_of HX.out r
                have hlr : r < (u32V (memF g i)).length := by rw [u32V_length, memF_length]; exact HR4.out
                rw [List.getElem?_toArray, List.getElem?_eq_getElem hlr] at e2
                obtain ⟨x0, hx0⟩ : ∃ x0, (u32V (memF g i))[r] = x0 := ⟨_, rfl⟩
                rw [hx0] at e2
                have hr4 : (r : Int) < 4 := by have := HR4.out; omega
                have hM := (Mods.refl (fun q => q = s) wq).setCell (p := ⟨s, r, none⟩) (show s = s from rfl) (.int .u32 (g i))
                have HM := Lib.hid hM
                clear hbq hcq hlr hx0 hM
                go_wp2_with fail
                go_roundw
                case rel =>
                  refine ⟨i + 1, by omega, by go_num, ?_, HF.out.keep HM.out fun q hq e => HSF.out q hq e, HB.out.trans (HM.out.below HB.out.size fun q hq => by rw [hq]; exact HSW.out)⟩
                  have h := heap_setCell_at (k := r) HX.out (.int .u32 (g i))
                  rw [h, memF, HR.out]
                  simp [u32V, List.map_set]
                case measure => simp [intOf]; omega
              · have g3 : decide (i < N) = false := by simp; omega
                have hiN : i = N := by omega
                have hxx := HX.out
                rw [hiN] at hxx
                have HX := Lib.hid hxx
                have hwi := wiF_b (n := other) (lo := 0) (hi := 2) (by omega)
                have HWI := Lib.hid hwi
                clear hxx hiN hwi
                go_wp2_with fail
                refine (Within_b other 0 2 wq (by omega) (by omega) (by omega) HO.out.1 HO.out.2).mono ?_
                rintro ev w' ⟨rfl, hww⟩
                obtain rfl := hww
                generalize wiF other 0 2 = kk at *
                go_wp2_with fail
                go_loopw [12] (fun s12 wq2 => ∃ a : Nat, a ≤ 4 ∧ s12 = .int .i64 a ∧ wq = wq2) (fun s12 _ => 4 - (intOf s12).toNat)
                case atStart => exact ⟨0, by omega, rfl, rfl⟩
                case round =>
                  clear hil g3 hi
                  obtain ⟨a, ha, rfl, rfl⟩ := hrel
                  by_cases hal : a < 4
                  · have g3 : decide ((a : Int) < 4) = true := by simp; omega
                    have e2 := cell_of HX.out a
                    rw [List.getElem?_toArray, u32V_at (by rw [memF_length]; exact hal)] at e2
                    have hok : okC (b3 []) kk ∧ okA (memF g N) (a : Int) := ⟨⟨by have := HWI.out; omega, by have := HWI.out; simp [b3]; omega⟩, ⟨by omega, by rw [memF_length]; omega⟩⟩
                    have HOK := Lib.hid hok
                    have HRDV := Lib.hid (show rdS (b3 []) (memF g N) kk a = (memF g N).getD a 0 from rd_b3 _ _ _)
                    have gxx : ∀ x : Int, (x != x) = false := fun x => by simp
                    obtain ⟨mv, hmv⟩ : ∃ mv, (memF g N).getD a 0 = mv := ⟨_, rfl⟩
                    have HMV := Lib.hid hmv
                    rw [hmv] at e2
                    have gx := gxx mv
                    clear hok gxx hmv
                    go_wp2_with fail
                    refine (trd_c w.heap.size b F (b3 []) (memF g N) kk a wq HF.out).mono ?_
                    rintro ev w' ⟨rfl, hww⟩
                    obtain rfl := hww
                    rw [if_pos HOK.out, decide_eq_true HOK.out, HRDV.out, HMV.out]
                    go_wp2_with fail
                    go_roundw
                    case rel => exact ⟨a + 1, by omega, by go_num, trivial⟩
                    case measure => simp [intOf]; omega
                  · have g3 : decide ((a : Int) < 4) = false := by simp; omega
                    go_wp2_with fail
                    refine (ev_c 5 0 0 0 wq).mono ?_
                    rintro ev w2 ⟨rfl, hb2⟩
                    have HB2 := Lib.hid (HB.out.trans (hb2.mono HB.out.size))
                    have HF2 := Lib.hid (HF.out.below hb2)
                    simp only [Ev.v]
                    clear hb2
                    go_wp2_with fail
                    refine (tstep_c A w.heap.size b F (b3 []) (memF g N) ⟨5, 0, 0, 0, 0, false⟩ w2 (HS.out.below HB2.out) HF2.out (by rw [memF_length]; omega) (b3_le (by simp))).mono ?_
                    rintro ev w3 ⟨rfl, F', hF', hM3, _⟩
                    have hw3 := Lib.hid (HB2.out.trans (hM3.below HB2.out.size fun q hq => (HF2.out.lt q hq).1))
                    rw [show stepE (b3 []) (memF g N) ⟨5, 0, 0, 0, 0, false⟩ = .nil by unfold stepE; rw [if_pos st_fence_ok], show ErrT.nil.val A = .nilIface from rfl]
                    clear hF' hM3
                    go_wp2_with fail
                    refine (tsoRuns A _ (HS.out.below hw3.out)).mono ?_
                    rintro ev w4 ⟨rfl, hb4⟩
                    go_wp2_with fail
                    go_ret
                    exact ⟨rfl, hw3.out.trans (hb4.mono hw3.out.size)⟩

theorem tsoFences (A : Nat → Addr) (v : Value) (n : Nat) (g : Nat → Int) (other : Int) (w : World) (hs : SentAt w A) (h : U32C w v n g) (ho : -9223372036854775808 ≤ other ∧ other ≤ 9223372036854775807) :
    Calls Tryd.prog 8 #[v, .int .i64 other] w (TruePost w) := by
  obtain ⟨p, c, rfl, hel⟩ := h.row.form
  have hcap := h.cap _ _ _ rfl
  refine fences A p (if 20 < n then 20 else n) c g other w hs ho (by split <;> omega) n rfl hcap fun i hi => hel i ?_
  split at hi <;> omega

end Go.Proofs.YtamklohnmbgklaaDoor
