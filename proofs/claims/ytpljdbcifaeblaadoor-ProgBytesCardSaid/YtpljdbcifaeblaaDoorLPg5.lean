/- ProgBytes: true; no condition but what a start gives. -/
import Derived.Test.YtpljdbcifaeblaaDoorLPg1
import Derived.Test.YtpljdbcifaeblaaDoorPg6
import Derived.Test.YtpljdbcifaeblaaDoorOpArg
import Derived.Test.YtpljdbcifaeblaaDoorRPk1
import Derived.Test.YtpljdbcifaeblaaDoorBk
import Derived.Deep.Cut
import Derived.Deep.CutRange
import Derived.Deep.CutBlock
namespace Go.Proofs.YtpljdbcifaeblaaDoor
open Go.RowKit Go.Extern.Stop Go.Stop Go.Extern

def Halt (p : Prop) : Prop := p
theorem halt {p : Prop} (h : Halt p) : p := h
theorem encP_small {l : List OpV} (h : l.length ≤ 63) : encP l = (2 * l.length) :: encOps l := by
  unfold encP
  rw [show zig ((l.length : Nat) : Int) = 2 * l.length by unfold zig; rw [if_pos (by omega)]; omega, enc_small (by omega)]
  rfl
theorem encOps_append (l r : List OpV) : encOps (l ++ r) = encOps l ++ encOps r := by
  induction l with
  | nil => rfl
  | cons x l ih => simp [encOps, ih, List.append_assoc]
/-- An operation whose guard holds is as one without. -/
theorem wpList_unguard {P : Program} {ops : Array Oper} {Q : Exit → Act → World → Prop} {a : Act} {w : World} {rest : List Oper} {o : Oper} (hw : Region.wanted o (yielded ops a.tmps) = true) (h : wpList P ops Q ({ o with guard := none } :: rest) a w) : wpList P ops Q (o :: rest) a w := by
  unfold wpList at h ⊢
  rw [if_pos hw]
  have h0 : Region.wanted { o with guard := none } (yielded ops a.tmps) = true := rfl
  rw [if_pos h0] at h
  exact h
theorem slc_any {w : World} {a : Option Addr} {c n : Nat} {T : List Nat} (h : T.length = 0) (hn : n = T.length) : slc w 1 (.slice a n c) T.length (byteV T) := by
  subst hn
  exact ⟨by rw [byteV_length, Nat.mul_one], a, c, rfl, fun h2 => absurd h2 (by omega)⟩
theorem slc_tail {w : World} {g off n : Nat} {c : Nat} {b : Nat} {T : List Nat} (hg : g < w.heap.size) (hc : ∀ j u, (byteV (b :: T))[j]? = some u → w.cell? ⟨g, off + j, none⟩ = some u) (hn : n = T.length) : slc w 1 (.slice (some ⟨g, off + 1, none⟩) n c) T.length (byteV T) := by
  subst hn
  refine ⟨by rw [byteV_length, Nat.mul_one], _, c, rfl, fun _ => ⟨g, off + 1, rfl, hg, fun j u hj => ?_⟩⟩
  have := hc (j + 1) u (by simpa [byteV] using hj)
  rw [show off + 1 + j = off + (j + 1) by omega]
  exact this

set_option maxRecDepth 100000 in
set_option maxHeartbeats 16000000 in
theorem progBytes (A : Nat → Addr) (v : Value) (n : Nat) (l : List OpV) (vm : Value) (nm : Nat) (lm : List OpV) (words : Int) (w : World) (hs : SentAt w A) (h1 : OpsAt w v n l) (h2 : OpsAt w vm nm lm) (hw : -9223372036854775808 ≤ words ∧ words ≤ 9223372036854775807) :
    Calls Tryd.prog 7 #[v, vm, .int .i64 words] w (TruePost w) := by
  obtain ⟨i0, hi0, hi1⟩ := Option.map_eq_some_iff.1 nInfoP
  simp only [Prod.mk.injEq] at hi1
  obtain ⟨hz0, hz1, hz2⟩ := hi1
  have HI := Lib.hid hi0
  have HZ0 := Lib.hid hz0
  have HZ1 := Lib.hid hz1
  have HZ2 := Lib.hid hz2
  obtain ⟨ib, hib0, hib1⟩ := Option.map_eq_some_iff.1 nInfoB
  simp only [Prod.mk.injEq] at hib1
  obtain ⟨hb0, hb1, hb2⟩ := hib1
  have HIB := Lib.hid hib0
  have HY0 := Lib.hid hb0
  have HY1 := Lib.hid hb1
  have HY2 := Lib.hid hb2
  have HS := Lib.hid hs
  have hn := h1.big
  have hm := h2.big
  unfold maxLen at hn hm
  obtain ⟨_, ap, cp, rfl, hel⟩ := h1.sl
  have HELL := Lib.hid hel
  have HFT := Lib.hid h1.fit
  have HLL := Lib.hid h1.len
  have HSM := Lib.hid h2.sl
  have HFM := Lib.hid h2.fit
  have HLM := Lib.hid h2.len
  obtain ⟨_, am, cm, rfl, _⟩ := h2.sl
  have hwk := wiF_b (n := words) (lo := 1) (hi := 128) (by omega)
  have HW0 := Lib.hid hw
  have HWB0 := Lib.hid hwk
  obtain ⟨W, hW⟩ : ∃ W, wiF words 1 128 = W := ⟨_, rfl⟩
  rw [hW] at HWB0
  have HWB := HWB0
  have HWW := Lib.hid hW
  clear hs hel h1 h2 hwk hw hi0 hz0 hz1 hz2 hib0 hb0 hb1 hb2 HWB0 hW
  go_enter Tryd.func7, Tryd.ntmps7
  go_wp2_with fail
  refine (Within_b words 1 128 w (by omega) (by omega) (by omega) HW0.out.1 HW0.out.2).mono ?_
  rintro ev w' ⟨rfl, hww⟩
  obtain rfl := hww
  rw [HWW.out]
  go_upto_block 0 with fail
  go_cut [8, 10] from 20 to 42 (fun sO _ wx => ∃ own : List OpV, own.length ≤ 20 ∧ (∀ o ∈ own, rightB o W = true ∧ o.fit) ∧ winRow wx w.heap.size 29 4 sO own.length (flatP own) ∧ Below w.heap.size w wx)
  case first =>
    go_wp2_with fail
    go_loopw [8, 10] (fun sO sI wr => ∃ (i : Nat) (own : List OpV), i ≤ n ∧ i ≤ 20 ∧ sI = .int .i64 i ∧ own.length ≤ i ∧ (∀ o ∈ own, rightB o W = true ∧ o.fit) ∧ winRow wr w.heap.size 29 4 sO own.length (flatP own) ∧ Below w.heap.size w wr) (fun _ sI _ => 20 - (intOf sI).toNat)
    case atStart => exact ⟨0, [], by omega, by omega, rfl, by simp, fun o ho => (by cases ho), winRow_nil .., Below.refl _ _⟩
    case round =>
      obtain ⟨i, own, hin, hi40, rfl, hol, hall, hrow, hB⟩ := hrel
      have HROW := Lib.hid hrow
      have HB := Lib.hid hB
      have HALL := Lib.hid hall
      have HOL := Lib.hid (show own.length ≤ i ∧ i ≤ 20 from ⟨hol, hi40⟩)
      obtain ⟨ar, cr, rfl⟩ := hrow.len
      clear hrow hB hall hol
      by_cases hi : i < n ∧ i < 20
      · obtain ⟨hi1, hi2⟩ := hi
        have g1 : decide (i < n) = true := by simp; omega
        have g2 : decide ((i : Int) < 20) = true := by simp; omega
        obtain ⟨g, off, hpp, hg, hc⟩ := HELL.out (by omega)
        subst hpp
        obtain ⟨o, ho⟩ : ∃ o, l[i]? = some o := ⟨_, List.getElem?_eq_getElem (by rw [HLL.out]; exact hi1)⟩
        have hof := Lib.hid (HFT.out o (List.mem_of_getElem? ho))
        have e0 := (HB.out.cell (p := ⟨g, off + (i * 4 + 0), none⟩) hg).trans (hc _ _ (flatP_at ho (c := 0) rfl))
        have e1 := (HB.out.cell (p := ⟨g, off + (i * 4 + 1), none⟩) hg).trans (hc _ _ (flatP_at ho (c := 1) rfl))
        have e2 := (HB.out.cell (p := ⟨g, off + (i * 4 + 2), none⟩) hg).trans (hc _ _ (flatP_at ho (c := 2) rfl))
        have e3 := (HB.out.cell (p := ⟨g, off + (i * 4 + 3), none⟩) hg).trans (hc _ _ (flatP_at ho (c := 3) rfl))
        simp only [Nat.add_zero, ← Nat.add_assoc] at e0 e1 e2 e3
        have hgl := Nat.lt_of_lt_of_le hg HB.out.size
        obtain ⟨kd, ad, va, ol⟩ := o
        simp only at e0 e1 e2 e3
        have HE := Lib.hid (And.intro hgl (And.intro (And.intro e0 e1) (And.intro e2 e3)))
        clear hc ho hg hgl
        go_wp2_with fail
        refine (right_c ⟨kd, ad, va, ol⟩ W wr).mono ?_
        rintro ev w3 ⟨rfl, hb3⟩
        have HB3 := Lib.hid (HB.out.trans (hb3.mono HB.out.size))
        have HROW3 := Lib.hid (HROW.out.below hb3)
        have c0 := (hb3.cell (p := ⟨g, off + i * 4, none⟩) HE.out.1).trans e0
        have c1 := (hb3.cell (p := ⟨g, off + i * 4 + 1, none⟩) HE.out.1).trans e1
        have c2 := (hb3.cell (p := ⟨g, off + i * 4 + 2, none⟩) HE.out.1).trans e2
        have c3 := (hb3.cell (p := ⟨g, off + i * 4 + 3, none⟩) HE.out.1).trans e3
        clear e0 e1 e2 e3 hb3 HE HROW HB
        cases hr : rightB ⟨kd, ad, va, ol⟩ W with
        | false =>
          clear c0 c1 c2 c3
          go_wp2_with fail
          go_roundw
          case rel => exact ⟨i + 1, own, by omega, by omega, by go_num, by have := HOL.out; omega, HALL.out, HROW3.out, HB3.out⟩
          case measure => simp [intOf] <;> omega
        | true =>
          have HR := Lib.hid hr
          have g77 : own.length ≤ 20 := by have := HOL.out; omega
          clear hr
          go_wp2_with (at_builtin; refine wpList_append_win _ rfl _ _ 30 rfl w.heap.size 29 i0 _ 4 24 Tryd.underlying30 HI.out HZ0.out HZ1.out HZ2.out rfl (by decide) _ _ _ rfl (HROW3.out.below ((Below.refl _ _).alloc (Nat.le_refl _) _)) ⟨w3.heap.size, 0, none⟩ 1 1 (flatP [⟨kd, ad, va, ol⟩]) rfl rfl (by exact cells_new w3 [_, _, _, _] _) (flatP_one _) (by omega) (by unfold maxLen; omega) (by omega) (by have := HB3.out.size; simp; omega) ?_; intro g8 off8 cap8 w8 hrow8 hgrow8 hat8 hlt8)
          have hb8 : Below w.heap.size w w8 := (HB3.out.alloc HB3.out.size _).grown hgrow8 (by have := HB3.out.size; simp; omega) fun q hq => (HROW3.out.lt q hq).1
          have HB8 := Lib.hid hb8
          have HROW8 := Lib.hid hrow8
          clear hb8 hrow8 hgrow8 hat8 hlt8 c0 c1 c2 c3
          go_roundw
          case rel =>
            refine ⟨i + 1, own ++ [⟨kd, ad, va, ol⟩], by omega, by omega, by go_num, by have := HOL.out; simp; omega, ?_, by rw [List.length_append, flatP_append]; exact HROW8.out, HB8.out⟩
            intro o ho
            rcases List.mem_append.1 ho with h | h
            · exact HALL.out o h
            · simp only [List.mem_singleton] at h
              subst h
              exact ⟨HR.out, hof.out⟩
          case measure => simp [intOf] <;> omega
      · by_cases hi1 : i < n
        · have g1 : decide (i < n) = true := by simp; omega
          have g2 : decide ((i : Int) < 20) = false := by simp; omega
          have HOL40 := Lib.hid (show own.length ≤ 20 by have := HOL.out; omega)
          go_wp2_with fail
          go_meet
          case rel => exact ⟨own, HOL40.out, HALL.out, HROW.out, HB.out⟩
        · have g1 : decide (i < n) = false := by simp; omega
          have HOL40 := Lib.hid (show own.length ≤ 20 by have := HOL.out; omega)
          go_wp2_with fail
          go_meet
          case rel => exact ⟨own, HOL40.out, HALL.out, HROW.out, HB.out⟩
  case rest =>
    obtain ⟨own, hol40, hall, hrow, hB⟩ := hcut
    have HOL40 := Lib.hid hol40
    have HALL := Lib.hid hall
    have HROW := Lib.hid hrow
    have HB := Lib.hid hB
    obtain ⟨ar, cr, rfl⟩ := hrow.len
    clear hol40 hall hrow hB
    generalize wc = wr at *
    have HOLA := HOL40
    have HRA := HROW
    have HAA := HALL
    have HBA := HB
    clear HROW HALL HOL40 HB
    generalize own = la at *
    generalize wr = wa at *
    generalize ar = ara at *
    generalize cr = cra at *
    have HLA := HOLA
    clear HOLA
    obtain ⟨_, am', cm', hem, helm⟩ := HSM.out.below HBA.out
    simp only [Value.slice.injEq] at hem
    obtain ⟨hem1, _, hem2⟩ := hem
    subst hem1 hem2
    have HELM := Lib.hid helm
    clear helm
    go_upto_block 2 with fail
    go_cut [9, 11] from 43 to 65 (fun sO _ wx => ∃ own : List OpV, own.length ≤ 20 ∧ (∀ o ∈ own, rightB o W = true ∧ o.fit) ∧ winRow wx wa.heap.size 29 4 sO own.length (flatP own) ∧ Below wa.heap.size wa wx)
    case first =>
      go_wp2_with fail
      go_loopw [9, 11] (fun sO sI wr => ∃ (i : Nat) (own : List OpV), i ≤ nm ∧ i ≤ 20 ∧ sI = .int .i64 i ∧ own.length ≤ i ∧ (∀ o ∈ own, rightB o W = true ∧ o.fit) ∧ winRow wr wa.heap.size 29 4 sO own.length (flatP own) ∧ Below wa.heap.size wa wr) (fun _ sI _ => 20 - (intOf sI).toNat)
      case atStart => exact ⟨0, [], by omega, by omega, rfl, by simp, fun o ho => (by cases ho), winRow_nil .., Below.refl _ _⟩
      case round =>
        obtain ⟨i, own, hin, hi40, rfl, hol, hall, hrow, hB⟩ := hrel
        have HROW := Lib.hid hrow
        have HB := Lib.hid hB
        have HALL := Lib.hid hall
        have HOL := Lib.hid (show own.length ≤ i ∧ i ≤ 20 from ⟨hol, hi40⟩)
        obtain ⟨ar, cr, rfl⟩ := hrow.len
        clear hrow hB hall hol
        by_cases hi : i < nm ∧ i < 20
        · obtain ⟨hi1, hi2⟩ := hi
          have g1 : decide (i < nm) = true := by simp; omega
          have g2 : decide ((i : Int) < 20) = true := by simp; omega
          obtain ⟨g, off, hpp, hg, hc⟩ := HELM.out (by omega)
          subst hpp
          obtain ⟨o, ho⟩ : ∃ o, lm[i]? = some o := ⟨_, List.getElem?_eq_getElem (by rw [HLM.out]; exact hi1)⟩
          have hof := Lib.hid (HFM.out o (List.mem_of_getElem? ho))
          have e0 := (HB.out.cell (p := ⟨g, off + (i * 4 + 0), none⟩) hg).trans (hc _ _ (flatP_at ho (c := 0) rfl))
          have e1 := (HB.out.cell (p := ⟨g, off + (i * 4 + 1), none⟩) hg).trans (hc _ _ (flatP_at ho (c := 1) rfl))
          have e2 := (HB.out.cell (p := ⟨g, off + (i * 4 + 2), none⟩) hg).trans (hc _ _ (flatP_at ho (c := 2) rfl))
          have e3 := (HB.out.cell (p := ⟨g, off + (i * 4 + 3), none⟩) hg).trans (hc _ _ (flatP_at ho (c := 3) rfl))
          simp only [Nat.add_zero, ← Nat.add_assoc] at e0 e1 e2 e3
          have hgl := Nat.lt_of_lt_of_le hg HB.out.size
          obtain ⟨kd, ad, va, ol⟩ := o
          simp only at e0 e1 e2 e3
          have HE := Lib.hid (And.intro hgl (And.intro (And.intro e0 e1) (And.intro e2 e3)))
          clear hc ho hg hgl
          go_wp2_with fail
          refine (right_c ⟨kd, ad, va, ol⟩ W wr).mono ?_
          rintro ev w3 ⟨rfl, hb3⟩
          have HB3 := Lib.hid (HB.out.trans (hb3.mono HB.out.size))
          have HROW3 := Lib.hid (HROW.out.below hb3)
          have c0 := (hb3.cell (p := ⟨g, off + i * 4, none⟩) HE.out.1).trans e0
          have c1 := (hb3.cell (p := ⟨g, off + i * 4 + 1, none⟩) HE.out.1).trans e1
          have c2 := (hb3.cell (p := ⟨g, off + i * 4 + 2, none⟩) HE.out.1).trans e2
          have c3 := (hb3.cell (p := ⟨g, off + i * 4 + 3, none⟩) HE.out.1).trans e3
          clear e0 e1 e2 e3 hb3 HE HROW HB
          cases hr : rightB ⟨kd, ad, va, ol⟩ W with
          | false =>
            clear c0 c1 c2 c3
            go_wp2_with fail
            go_roundw
            case rel => exact ⟨i + 1, own, by omega, by omega, by go_num, by have := HOL.out; omega, HALL.out, HROW3.out, HB3.out⟩
            case measure => simp [intOf] <;> omega
          | true =>
            have HR := Lib.hid hr
            have g77 : own.length ≤ 20 := by have := HOL.out; omega
            clear hr
            go_wp2_with (at_builtin; refine wpList_append_win _ rfl _ _ 30 rfl wa.heap.size 29 i0 _ 4 24 Tryd.underlying30 HI.out HZ0.out HZ1.out HZ2.out rfl (by decide) _ _ _ rfl (HROW3.out.below ((Below.refl _ _).alloc (Nat.le_refl _) _)) ⟨w3.heap.size, 0, none⟩ 1 1 (flatP [⟨kd, ad, va, ol⟩]) rfl rfl (by exact cells_new w3 [_, _, _, _] _) (flatP_one _) (by omega) (by unfold maxLen; omega) (by omega) (by have := HB3.out.size; simp; omega) ?_; intro g8 off8 cap8 w8 hrow8 hgrow8 hat8 hlt8)
            have hb8 : Below wa.heap.size wa w8 := (HB3.out.alloc HB3.out.size _).grown hgrow8 (by have := HB3.out.size; simp; omega) fun q hq => (HROW3.out.lt q hq).1
            have HB8 := Lib.hid hb8
            have HROW8 := Lib.hid hrow8
            clear hb8 hrow8 hgrow8 hat8 hlt8 c0 c1 c2 c3
            go_roundw
            case rel =>
              refine ⟨i + 1, own ++ [⟨kd, ad, va, ol⟩], by omega, by omega, by go_num, by have := HOL.out; simp; omega, ?_, by rw [List.length_append, flatP_append]; exact HROW8.out, HB8.out⟩
              intro o ho
              rcases List.mem_append.1 ho with h | h
              · exact HALL.out o h
              · simp only [List.mem_singleton] at h
                subst h
                exact ⟨HR.out, hof.out⟩
            case measure => simp [intOf] <;> omega
        · by_cases hi1 : i < nm
          · have g1 : decide (i < nm) = true := by simp; omega
            have g2 : decide ((i : Int) < 20) = false := by simp; omega
            have HOL40 := Lib.hid (show own.length ≤ 20 by have := HOL.out; omega)
            go_wp2_with fail
            go_meet
            case rel => exact ⟨own, HOL40.out, HALL.out, HROW.out, HB.out⟩
          · have g1 : decide (i < nm) = false := by simp; omega
            have HOL40 := Lib.hid (show own.length ≤ 20 by have := HOL.out; omega)
            go_wp2_with fail
            go_meet
            case rel => exact ⟨own, HOL40.out, HALL.out, HROW.out, HB.out⟩
    case rest =>
      obtain ⟨own, hol40, hall, hrow, hB⟩ := hcut
      have HOL40 := Lib.hid hol40
      have HALL := Lib.hid hall
      have HROW := Lib.hid hrow
      have HB := Lib.hid hB
      obtain ⟨ar, cr, rfl⟩ := hrow.len
      clear hol40 hall hrow hB
      generalize wc = wr at *
      have HLB := HOL40
      have HW := Lib.hid (HBA.out.trans (HB.out.mono HBA.out.size))
      have HSA := Lib.hid (HRA.out.below HB.out).slc
      have HSB := Lib.hid HROW.out.slc
      clear HRA HROW HBA HB HOL40
      have HPU := Lib.hid (putE_all (fun o ho => (HAA.out o ho).1) (by have := HLA.out; omega) : putE W la = .nil)
      go_wp2_with fail
      refine (put_c A _ la W wr (HS.out.below HW.out) HSA.out (fun o ho => (HAA.out o ho).2) (by have := HLA.out; omega)).mono ?_
      rintro ev w1 ⟨u1, rfl, hu1, hb1⟩
      rw [HPU.out] at hu1 ⊢
      replace hu1 : winRow w1 wr.heap.size 5 1 u1 (encP la).length (byteV (encP la)) := hu1
      rw [encP_small (by have := HLA.out; omega)] at hu1
      obtain ⟨gx, ox, cx, rfl, hcx, _, hg, hcc⟩ := hu1.form (by simp)
      have HTX := Lib.hid (slc_tail (c := cx - 1) hg hcc rfl)
      have HLTX := Lib.hid (encOps_len la fun o ho => (HAA.out o ho).2)
      have HW1 := Lib.hid (HW.out.trans (hb1.mono HW.out.size))
      rw [show ErrT.nil.val A = .nilIface from rfl]
      have HSA1 := Lib.hid (HSA.out.below hb1)
      have HSB1 := Lib.hid (HSB.out.below hb1)
      simp only [List.length_cons] at hcx ⊢
      obtain ⟨TX, hTX⟩ : ∃ T, encOps la = T := ⟨_, rfl⟩
      rw [hTX] at HTX HLTX hcx ⊢
      have HTXE := Lib.hid hTX
      clear hTX hu1 hb1 hg hcc HSA HSB HPU
      have HPU := Lib.hid (putE_all (fun o ho => (HALL.out o ho).1) (by have := HLB.out; omega) : putE W own = .nil)
      go_wp2_with fail
      refine (put_c A _ own W w1 (HS.out.below HW1.out) HSB1.out (fun o ho => (HALL.out o ho).2) (by have := HLB.out; omega)).mono ?_
      rintro ev w2 ⟨u1, rfl, hu1, hb1⟩
      rw [HPU.out] at hu1 ⊢
      replace hu1 : winRow w2 w1.heap.size 5 1 u1 (encP own).length (byteV (encP own)) := hu1
      rw [encP_small (by have := HLB.out; omega)] at hu1
      obtain ⟨gy, oy, cy, rfl, hcy, _, hg, hcc⟩ := hu1.form (by simp)
      have HTY := Lib.hid (slc_tail (c := cy - 1) hg hcc rfl)
      have HLTY := Lib.hid (encOps_len own fun o ho => (HALL.out o ho).2)
      have HW2 := Lib.hid (HW1.out.trans (hb1.mono HW1.out.size))
      rw [show ErrT.nil.val A = .nilIface from rfl]
      have HSA2 := Lib.hid (HSA1.out.below hb1)
      have HSB2 := Lib.hid (HSB1.out.below hb1)
      have HTX2 := Lib.hid (HTX.out.below hb1)
      simp only [List.length_cons] at hcy ⊢
      obtain ⟨TY, hTY⟩ : ∃ T, encOps own = T := ⟨_, rfl⟩
      rw [hTY] at HTY HLTY hcy ⊢
      have HTYE := Lib.hid hTY
      clear hTY hu1 hb1 hg hcc HSA1 HSB1 HPU HTX
      have hla := HLA.out
      have hlb := HLB.out
      go_wp2_with (at_builtin; refine wpList_append_slc _ rfl _ _ 30 rfl w2.heap.size 29 i0 _ 4 24 Tryd.underlying30 HI.out HZ0.out HZ1.out HZ2.out rfl (by decide) _ _ _ rfl (winRow_fresh w2 29 4) _ la.length (flatP la) rfl (HSA2.out.below ((Below.refl _ _).alloc (Nat.le_refl _) _)) (flatP_one _) (by unfold maxLen; omega) (by omega) (by simp) ?_; intro p6 x6 hown hgrow hat; refine halt ?_)
      have HO6 := Lib.hid (show winRow x6 w2.heap.size 29 4 p6 la.length (flatP la) by simpa using hown)
      have hx : Below w2.heap.size w2 x6 := ((Below.refl _ _).alloc (Nat.le_refl _) _).grown hgrow (by simp) (by intro k hk; have hk : some w2.heap.size = some k := hk; exact Nat.le_of_eq (Option.some.inj hk))
      have HX6 := Lib.hid hx
      obtain ⟨a6, c6, rfl⟩ := HO6.out.len
      clear hown hgrow hat hx
      unfold Halt
      go_wp2_with (at_builtin; refine wpList_append_slc _ rfl _ _ 30 rfl w2.heap.size 29 i0 _ 4 24 Tryd.underlying30 HI.out HZ0.out HZ1.out HZ2.out rfl (by decide) _ _ _ rfl HO6.out _ own.length (flatP own) rfl (HSB2.out.below HX6.out) (flatP_one _) (by unfold maxLen; omega) (by omega) HX6.out.size ?_; intro p7 x7 hown hgrow hat; refine halt ?_)
      have hx : Below w2.heap.size w2 x7 := HX6.out.grown hgrow HX6.out.size fun q hq => (HO6.out.lt q hq).1
      have HW7 := Lib.hid (HW2.out.trans (hx.mono HW2.out.size))
      have hs7 : slc x7 4 p7 (la ++ own).length (flatP (la ++ own)) := by
        rw [flatP_append, List.length_append]
        exact hown.slc
      have HS7 := Lib.hid hs7
      have HTX7 := Lib.hid (HTX2.out.below hx)
      have HTY7 := Lib.hid (HTY.out.below hx)
      have HAB := Lib.hid (show ∀ o ∈ la ++ own, rightB o W = true ∧ o.fit from fun o ho => (List.mem_append.1 ho).elim (HAA.out o) (HALL.out o))
      have HLAB := Lib.hid (show (la ++ own).length ≤ 40 by rw [List.length_append]; omega)
      obtain ⟨a7, c7, rfl⟩ := hown.len
      rw [← List.length_append]
      clear hown hgrow hat hx HO6 HX6 hs7 HSA2 HSB2 HTX2 HTY hla hlb
      unfold Halt
      have HPU := Lib.hid (putE_all (fun o ho => (HAB.out o ho).1) (by have := HLAB.out; omega) : putE W (la ++ own) = .nil)
      go_wp2_with fail
      refine (put_c A _ (la ++ own) W x7 (HS.out.below HW7.out) HS7.out (fun o ho => (HAB.out o ho).2) (by have := HLAB.out; omega)).mono ?_
      rintro ev w4 ⟨u1, rfl, hu1, hb1⟩
      rw [HPU.out] at hu1 ⊢
      replace hu1 : winRow w4 x7.heap.size 5 1 u1 (encP (la ++ own)).length (byteV (encP (la ++ own))) := hu1
      rw [encP_small (by have := HLAB.out; omega)] at hu1
      obtain ⟨gz, oz, cz, rfl, hcz, _, hg, hcc⟩ := hu1.form (by simp)
      have HTZ := Lib.hid (slc_tail (c := cz - 1) hg hcc rfl)
      have HLTZ := Lib.hid (encOps_len (la ++ own) fun o ho => (HAB.out o ho).2)
      have HW4 := Lib.hid (HW7.out.trans (hb1.mono HW7.out.size))
      rw [show ErrT.nil.val A = .nilIface from rfl]
      have HTX4 := Lib.hid (HTX7.out.below hb1)
      have HTY4 := Lib.hid (HTY7.out.below hb1)
      simp only [List.length_cons] at hcz ⊢
      rw [encOps_append, HTXE.out, HTYE.out] at HTZ HLTZ hcz ⊢
      obtain ⟨TZ, hTZ⟩ : ∃ T, TX ++ TY = T := ⟨_, rfl⟩
      rw [hTZ] at HTZ HLTZ hcz ⊢
      have HTZE := Lib.hid hTZ
      have HTL := Lib.hid (show TX.length ≤ 900 ∧ TY.length ≤ 900 ∧ TZ.length ≤ 1800 by have := HLTX.out; have := HLTY.out; have := HLTZ.out; have := HLA.out; have := HLB.out; have := HLAB.out; omega)
      have gx1 : decide ((TX.length : Int) + 1 > 0) = true := by simp <;> omega
      have gy1 : decide ((TY.length : Int) + 1 > 0) = true := by simp <;> omega
      have gz1 : decide ((TZ.length : Int) + 1 > 0) = true := by simp <;> omega
      clear hTZ hu1 hb1 hg hcc HS7 HTX7 HTY7 HPU
      go_upto_region 16 with fail
      have htl1 := HTL.out.1
      have htl2 := HTL.out.2.1
      have htl3 := HTL.out.2.2
      by_cases hz1 : cz = 1
      · subst hz1
        have HTZ := Lib.hid (slc_any (w := w4) (a := some ⟨gz, oz, none⟩) (c := 0) (n := 0) (T := TZ) (by omega) (by omega))
        refine wp_region_lexA ⟨[], []⟩ (fun x => Below w4.heap.size w4 x) (by kernel_rfl) (by kernel_rfl) (Below.refl _ _).drew ?_
        intro S hto hof hne
        have Hof := Lib.hid hof
        clear hto hof
        refine lexW_light 28 (by kernel_rfl) ?_
        simp only [List.take_succ_cons, List.take_zero, List.drop_succ_cons, List.drop_zero]
        repeat (first | go_big_quiet_skip | (go_big_quiet_want; go_big_quiet_op; go_big_quiet_on))
        refine wpQuiet_nil ?_
        refine lexW_heavy (by kernel_rfl) ?_
        go_wp2_with fail
        refine lexQ_more (Hof.out _ ((Below.refl _ _).drew.alloc (Nat.le_refl _) _)) ?_
        by_cases hx1 : cx = 1
        · subst hx1
          have HTX4 := Lib.hid (slc_any (w := w4) (a := some ⟨gx, ox, none⟩) (c := 0) (n := 0) (T := TX) (by omega) (by omega))
          refine lexW_light 2 (by kernel_rfl) ?_
          simp only [List.take_succ_cons, List.take_zero, List.drop_succ_cons, List.drop_zero]
          repeat (first | go_big_quiet_skip | (go_big_quiet_want; go_big_quiet_op; go_big_quiet_on))
          refine wpQuiet_nil ?_
          refine lexW_heavy (by kernel_rfl) ?_
          go_wp2_with (at_builtin; refine wpList_unguard (by first | rfl | simp [Region.wanted, yielded]) ?_; refine wpList_append_slc _ rfl _ _ 22 rfl w4.heap.size 5 ib (.int .u8 0) 1 1 Tryd.underlying22 HIB.out HY0.out HY1.out HY2.out rfl (by decide) _ _ _ rfl (winRow_made w4.drew 5 1) _ TX.length (byteV TX) rfl (HTX4.out.below ((Below.refl _ _).drew.alloc (Nat.le_refl _) _)) (byteV_one TX) (by unfold maxLen; omega) (by omega) (by simp) ?_; intro u2 w5 hown hgrow hat; refine halt ?_)
          have HR5 := Lib.hid (show winRow w5 w4.heap.size 5 1 u2 TX.length (byteV TX) by simpa using hown)
          have HB5 := Lib.hid (((Below.refl w4.heap.size w4).drew.alloc (Nat.le_refl _) _).grown hgrow (by simp) (by intro k hk; have hk : some w4.heap.size = some k := hk; exact Nat.le_of_eq (Option.some.inj hk)))
          obtain ⟨a5, c5, rfl⟩ := HR5.out.len
          clear hown hgrow hat
          unfold Halt
          refine lexQ_more (Hof.out _ HB5.out) ?_
          by_cases hy1 : cy = 1
          · subst hy1
            have HTY4 := Lib.hid (slc_any (w := w4) (a := some ⟨gy, oy, none⟩) (c := 0) (n := 0) (T := TY) (by omega) (by omega))
            refine lexW_light 2 (by kernel_rfl) ?_
            simp only [List.take_succ_cons, List.take_zero, List.drop_succ_cons, List.drop_zero]
            repeat (first | go_big_quiet_skip | (go_big_quiet_want; go_big_quiet_op; go_big_quiet_on))
            refine wpQuiet_nil ?_
            refine lexW_heavy (by kernel_rfl) ?_
            go_wp2_with (at_builtin; refine wpList_unguard (by first | rfl | simp [Region.wanted, yielded]) ?_; refine wpList_append_slc _ rfl _ _ 22 rfl w4.heap.size 5 ib (.int .u8 0) 1 1 Tryd.underlying22 HIB.out HY0.out HY1.out HY2.out rfl (by decide) _ _ _ rfl HR5.out _ TY.length (byteV TY) rfl (HTY4.out.below HB5.out) (byteV_one TY) (by unfold maxLen; omega) (by omega) HB5.out.size ?_; intro u2 w6 hown hgrow hat; refine halt ?_)
            have HB6 := Lib.hid (HB5.out.grown hgrow HB5.out.size fun q hq => (HR5.out.lt q hq).1)
            have HR6 := Lib.hid (show slc w6 1 u2 TZ.length (byteV TZ) by rw [← HTZE.out, byteV_append, List.length_append]; exact hown.slc)
            obtain ⟨a6, c6, rfl⟩ := hown.len
            rw [show TX.length + TY.length = TZ.length by rw [← HTZE.out, List.length_append]] at HR6 ⊢
            clear hown hgrow hat HR5 HB5
            unfold Halt
            refine lexQ_more (Hof.out _ HB6.out) ?_
            refine lexW_heavy (by kernel_rfl) ?_
            go_wp2_with fail
            refine (sameG_c TZ TZ _ _ w6 (HTZ.out.below HB6.out) HR6.out (by omega) (by omega)).mono ?_
            rintro ev w7 ⟨rfl, hb7⟩
            rw [decide_eq_true (rfl : TZ = TZ)]
            have HB7 := Lib.hid (HB6.out.trans (hb7.mono HB6.out.size))
            clear hb7
            go_wp2_with fail
            refine lexQ_more (Hof.out _ HB7.out) ?_
            refine lexW_light 2 (by kernel_rfl) ?_
            simp only [List.take_succ_cons, List.take_zero, List.drop_succ_cons, List.drop_zero]
            repeat (first | go_big_quiet_skip | (go_big_quiet_want; go_big_quiet_op; go_big_quiet_on))
            refine wpQuiet_nil ?_
            refine lexW_heavy (by kernel_rfl) ?_
            go_wp2_with fail
            refine (progRuns A _ (HS.out.below (HW4.out.trans (HB7.out.mono HW4.out.size)))).mono ?_
            rintro ev w8 ⟨rfl, hb8⟩
            have HB8 := Lib.hid (HB7.out.trans (hb8.mono HB7.out.size))
            clear hb8
            go_wp2_with fail
            refine lexQ_more (Hof.out _ HB8.out) ?_
            refine lexW_light 2 (by kernel_rfl) ?_
            simp only [List.take_succ_cons, List.take_zero, List.drop_succ_cons, List.drop_zero]
            repeat (first | go_big_quiet_skip | (go_big_quiet_want; go_big_quiet_op; go_big_quiet_on))
            refine wpQuiet_nil ?_
            refine lexW_done ?_
            go_wp2_with fail
            go_ret
            exact ⟨rfl, HW4.out.trans (HB8.out.mono HW4.out.size)⟩
          · refine lexW_light 2 (by kernel_rfl) ?_
            simp only [List.take_succ_cons, List.take_zero, List.drop_succ_cons, List.drop_zero]
            repeat (first | go_big_quiet_skip | (go_big_quiet_want; go_big_quiet_op; go_big_quiet_on))
            refine wpQuiet_nil ?_
            refine lexW_heavy (by kernel_rfl) ?_
            go_wp2_with (at_builtin; refine wpList_unguard (by first | rfl | simp [Region.wanted, yielded]) ?_; refine wpList_append_slc _ rfl _ _ 22 rfl w4.heap.size 5 ib (.int .u8 0) 1 1 Tryd.underlying22 HIB.out HY0.out HY1.out HY2.out rfl (by decide) _ _ _ rfl HR5.out _ TY.length (byteV TY) rfl (HTY4.out.below HB5.out) (byteV_one TY) (by unfold maxLen; omega) (by omega) HB5.out.size ?_; intro u2 w6 hown hgrow hat; refine halt ?_)
            have HB6 := Lib.hid (HB5.out.grown hgrow HB5.out.size fun q hq => (HR5.out.lt q hq).1)
            have HR6 := Lib.hid (show slc w6 1 u2 TZ.length (byteV TZ) by rw [← HTZE.out, byteV_append, List.length_append]; exact hown.slc)
            obtain ⟨a6, c6, rfl⟩ := hown.len
            rw [show TX.length + TY.length = TZ.length by rw [← HTZE.out, List.length_append]] at HR6 ⊢
            clear hown hgrow hat HR5 HB5
            unfold Halt
            refine lexQ_more (Hof.out _ HB6.out) ?_
            refine lexW_heavy (by kernel_rfl) ?_
            go_wp2_with fail
            refine (sameG_c TZ TZ _ _ w6 (HTZ.out.below HB6.out) HR6.out (by omega) (by omega)).mono ?_
            rintro ev w7 ⟨rfl, hb7⟩
            rw [decide_eq_true (rfl : TZ = TZ)]
            have HB7 := Lib.hid (HB6.out.trans (hb7.mono HB6.out.size))
            clear hb7
            go_wp2_with fail
            refine lexQ_more (Hof.out _ HB7.out) ?_
            refine lexW_light 2 (by kernel_rfl) ?_
            simp only [List.take_succ_cons, List.take_zero, List.drop_succ_cons, List.drop_zero]
            repeat (first | go_big_quiet_skip | (go_big_quiet_want; go_big_quiet_op; go_big_quiet_on))
            refine wpQuiet_nil ?_
            refine lexW_heavy (by kernel_rfl) ?_
            go_wp2_with fail
            refine (progRuns A _ (HS.out.below (HW4.out.trans (HB7.out.mono HW4.out.size)))).mono ?_
            rintro ev w8 ⟨rfl, hb8⟩
            have HB8 := Lib.hid (HB7.out.trans (hb8.mono HB7.out.size))
            clear hb8
            go_wp2_with fail
            refine lexQ_more (Hof.out _ HB8.out) ?_
            refine lexW_light 2 (by kernel_rfl) ?_
            simp only [List.take_succ_cons, List.take_zero, List.drop_succ_cons, List.drop_zero]
            repeat (first | go_big_quiet_skip | (go_big_quiet_want; go_big_quiet_op; go_big_quiet_on))
            refine wpQuiet_nil ?_
            refine lexW_done ?_
            go_wp2_with fail
            go_ret
            exact ⟨rfl, HW4.out.trans (HB8.out.mono HW4.out.size)⟩
        · refine lexW_light 2 (by kernel_rfl) ?_
          simp only [List.take_succ_cons, List.take_zero, List.drop_succ_cons, List.drop_zero]
          repeat (first | go_big_quiet_skip | (go_big_quiet_want; go_big_quiet_op; go_big_quiet_on))
          refine wpQuiet_nil ?_
          refine lexW_heavy (by kernel_rfl) ?_
          go_wp2_with (at_builtin; refine wpList_unguard (by first | rfl | simp [Region.wanted, yielded]) ?_; refine wpList_append_slc _ rfl _ _ 22 rfl w4.heap.size 5 ib (.int .u8 0) 1 1 Tryd.underlying22 HIB.out HY0.out HY1.out HY2.out rfl (by decide) _ _ _ rfl (winRow_made w4.drew 5 1) _ TX.length (byteV TX) rfl (HTX4.out.below ((Below.refl _ _).drew.alloc (Nat.le_refl _) _)) (byteV_one TX) (by unfold maxLen; omega) (by omega) (by simp) ?_; intro u2 w5 hown hgrow hat; refine halt ?_)
          have HR5 := Lib.hid (show winRow w5 w4.heap.size 5 1 u2 TX.length (byteV TX) by simpa using hown)
          have HB5 := Lib.hid (((Below.refl w4.heap.size w4).drew.alloc (Nat.le_refl _) _).grown hgrow (by simp) (by intro k hk; have hk : some w4.heap.size = some k := hk; exact Nat.le_of_eq (Option.some.inj hk)))
          obtain ⟨a5, c5, rfl⟩ := HR5.out.len
          clear hown hgrow hat
          unfold Halt
          refine lexQ_more (Hof.out _ HB5.out) ?_
          by_cases hy1 : cy = 1
          · subst hy1
            have HTY4 := Lib.hid (slc_any (w := w4) (a := some ⟨gy, oy, none⟩) (c := 0) (n := 0) (T := TY) (by omega) (by omega))
            refine lexW_light 2 (by kernel_rfl) ?_
            simp only [List.take_succ_cons, List.take_zero, List.drop_succ_cons, List.drop_zero]
            repeat (first | go_big_quiet_skip | (go_big_quiet_want; go_big_quiet_op; go_big_quiet_on))
            refine wpQuiet_nil ?_
            refine lexW_heavy (by kernel_rfl) ?_
            go_wp2_with (at_builtin; refine wpList_unguard (by first | rfl | simp [Region.wanted, yielded]) ?_; refine wpList_append_slc _ rfl _ _ 22 rfl w4.heap.size 5 ib (.int .u8 0) 1 1 Tryd.underlying22 HIB.out HY0.out HY1.out HY2.out rfl (by decide) _ _ _ rfl HR5.out _ TY.length (byteV TY) rfl (HTY4.out.below HB5.out) (byteV_one TY) (by unfold maxLen; omega) (by omega) HB5.out.size ?_; intro u2 w6 hown hgrow hat; refine halt ?_)
            have HB6 := Lib.hid (HB5.out.grown hgrow HB5.out.size fun q hq => (HR5.out.lt q hq).1)
            have HR6 := Lib.hid (show slc w6 1 u2 TZ.length (byteV TZ) by rw [← HTZE.out, byteV_append, List.length_append]; exact hown.slc)
            obtain ⟨a6, c6, rfl⟩ := hown.len
            rw [show TX.length + TY.length = TZ.length by rw [← HTZE.out, List.length_append]] at HR6 ⊢
            clear hown hgrow hat HR5 HB5
            unfold Halt
            refine lexQ_more (Hof.out _ HB6.out) ?_
            refine lexW_heavy (by kernel_rfl) ?_
            go_wp2_with fail
            refine (sameG_c TZ TZ _ _ w6 (HTZ.out.below HB6.out) HR6.out (by omega) (by omega)).mono ?_
            rintro ev w7 ⟨rfl, hb7⟩
            rw [decide_eq_true (rfl : TZ = TZ)]
            have HB7 := Lib.hid (HB6.out.trans (hb7.mono HB6.out.size))
            clear hb7
            go_wp2_with fail
            refine lexQ_more (Hof.out _ HB7.out) ?_
            refine lexW_light 2 (by kernel_rfl) ?_
            simp only [List.take_succ_cons, List.take_zero, List.drop_succ_cons, List.drop_zero]
            repeat (first | go_big_quiet_skip | (go_big_quiet_want; go_big_quiet_op; go_big_quiet_on))
            refine wpQuiet_nil ?_
            refine lexW_heavy (by kernel_rfl) ?_
            go_wp2_with fail
            refine (progRuns A _ (HS.out.below (HW4.out.trans (HB7.out.mono HW4.out.size)))).mono ?_
            rintro ev w8 ⟨rfl, hb8⟩
            have HB8 := Lib.hid (HB7.out.trans (hb8.mono HB7.out.size))
            clear hb8
            go_wp2_with fail
            refine lexQ_more (Hof.out _ HB8.out) ?_
            refine lexW_light 2 (by kernel_rfl) ?_
            simp only [List.take_succ_cons, List.take_zero, List.drop_succ_cons, List.drop_zero]
            repeat (first | go_big_quiet_skip | (go_big_quiet_want; go_big_quiet_op; go_big_quiet_on))
            refine wpQuiet_nil ?_
            refine lexW_done ?_
            go_wp2_with fail
            go_ret
            exact ⟨rfl, HW4.out.trans (HB8.out.mono HW4.out.size)⟩
          · refine lexW_light 2 (by kernel_rfl) ?_
            simp only [List.take_succ_cons, List.take_zero, List.drop_succ_cons, List.drop_zero]
            repeat (first | go_big_quiet_skip | (go_big_quiet_want; go_big_quiet_op; go_big_quiet_on))
            refine wpQuiet_nil ?_
            refine lexW_heavy (by kernel_rfl) ?_
            go_wp2_with (at_builtin; refine wpList_unguard (by first | rfl | simp [Region.wanted, yielded]) ?_; refine wpList_append_slc _ rfl _ _ 22 rfl w4.heap.size 5 ib (.int .u8 0) 1 1 Tryd.underlying22 HIB.out HY0.out HY1.out HY2.out rfl (by decide) _ _ _ rfl HR5.out _ TY.length (byteV TY) rfl (HTY4.out.below HB5.out) (byteV_one TY) (by unfold maxLen; omega) (by omega) HB5.out.size ?_; intro u2 w6 hown hgrow hat; refine halt ?_)
            have HB6 := Lib.hid (HB5.out.grown hgrow HB5.out.size fun q hq => (HR5.out.lt q hq).1)
            have HR6 := Lib.hid (show slc w6 1 u2 TZ.length (byteV TZ) by rw [← HTZE.out, byteV_append, List.length_append]; exact hown.slc)
            obtain ⟨a6, c6, rfl⟩ := hown.len
            rw [show TX.length + TY.length = TZ.length by rw [← HTZE.out, List.length_append]] at HR6 ⊢
            clear hown hgrow hat HR5 HB5
            unfold Halt
            refine lexQ_more (Hof.out _ HB6.out) ?_
            refine lexW_heavy (by kernel_rfl) ?_
            go_wp2_with fail
            refine (sameG_c TZ TZ _ _ w6 (HTZ.out.below HB6.out) HR6.out (by omega) (by omega)).mono ?_
            rintro ev w7 ⟨rfl, hb7⟩
            rw [decide_eq_true (rfl : TZ = TZ)]
            have HB7 := Lib.hid (HB6.out.trans (hb7.mono HB6.out.size))
            clear hb7
            go_wp2_with fail
            refine lexQ_more (Hof.out _ HB7.out) ?_
            refine lexW_light 2 (by kernel_rfl) ?_
            simp only [List.take_succ_cons, List.take_zero, List.drop_succ_cons, List.drop_zero]
            repeat (first | go_big_quiet_skip | (go_big_quiet_want; go_big_quiet_op; go_big_quiet_on))
            refine wpQuiet_nil ?_
            refine lexW_heavy (by kernel_rfl) ?_
            go_wp2_with fail
            refine (progRuns A _ (HS.out.below (HW4.out.trans (HB7.out.mono HW4.out.size)))).mono ?_
            rintro ev w8 ⟨rfl, hb8⟩
            have HB8 := Lib.hid (HB7.out.trans (hb8.mono HB7.out.size))
            clear hb8
            go_wp2_with fail
            refine lexQ_more (Hof.out _ HB8.out) ?_
            refine lexW_light 2 (by kernel_rfl) ?_
            simp only [List.take_succ_cons, List.take_zero, List.drop_succ_cons, List.drop_zero]
            repeat (first | go_big_quiet_skip | (go_big_quiet_want; go_big_quiet_op; go_big_quiet_on))
            refine wpQuiet_nil ?_
            refine lexW_done ?_
            go_wp2_with fail
            go_ret
            exact ⟨rfl, HW4.out.trans (HB8.out.mono HW4.out.size)⟩
      · refine wp_region_lexA ⟨[], []⟩ (fun x => Below w4.heap.size w4 x) (by kernel_rfl) (by kernel_rfl) (Below.refl _ _).drew ?_
        intro S hto hof hne
        have Hof := Lib.hid hof
        clear hto hof
        refine lexW_light 28 (by kernel_rfl) ?_
        simp only [List.take_succ_cons, List.take_zero, List.drop_succ_cons, List.drop_zero]
        repeat (first | go_big_quiet_skip | (go_big_quiet_want; go_big_quiet_op; go_big_quiet_on))
        refine wpQuiet_nil ?_
        refine lexW_heavy (by kernel_rfl) ?_
        go_wp2_with fail
        refine lexQ_more (Hof.out _ ((Below.refl _ _).drew.alloc (Nat.le_refl _) _)) ?_
        by_cases hx1 : cx = 1
        · subst hx1
          have HTX4 := Lib.hid (slc_any (w := w4) (a := some ⟨gx, ox, none⟩) (c := 0) (n := 0) (T := TX) (by omega) (by omega))
          refine lexW_light 2 (by kernel_rfl) ?_
          simp only [List.take_succ_cons, List.take_zero, List.drop_succ_cons, List.drop_zero]
          repeat (first | go_big_quiet_skip | (go_big_quiet_want; go_big_quiet_op; go_big_quiet_on))
          refine wpQuiet_nil ?_
          refine lexW_heavy (by kernel_rfl) ?_
          go_wp2_with (at_builtin; refine wpList_unguard (by first | rfl | simp [Region.wanted, yielded]) ?_; refine wpList_append_slc _ rfl _ _ 22 rfl w4.heap.size 5 ib (.int .u8 0) 1 1 Tryd.underlying22 HIB.out HY0.out HY1.out HY2.out rfl (by decide) _ _ _ rfl (winRow_made w4.drew 5 1) _ TX.length (byteV TX) rfl (HTX4.out.below ((Below.refl _ _).drew.alloc (Nat.le_refl _) _)) (byteV_one TX) (by unfold maxLen; omega) (by omega) (by simp) ?_; intro u2 w5 hown hgrow hat; refine halt ?_)
          have HR5 := Lib.hid (show winRow w5 w4.heap.size 5 1 u2 TX.length (byteV TX) by simpa using hown)
          have HB5 := Lib.hid (((Below.refl w4.heap.size w4).drew.alloc (Nat.le_refl _) _).grown hgrow (by simp) (by intro k hk; have hk : some w4.heap.size = some k := hk; exact Nat.le_of_eq (Option.some.inj hk)))
          obtain ⟨a5, c5, rfl⟩ := HR5.out.len
          clear hown hgrow hat
          unfold Halt
          refine lexQ_more (Hof.out _ HB5.out) ?_
          by_cases hy1 : cy = 1
          · subst hy1
            have HTY4 := Lib.hid (slc_any (w := w4) (a := some ⟨gy, oy, none⟩) (c := 0) (n := 0) (T := TY) (by omega) (by omega))
            refine lexW_light 2 (by kernel_rfl) ?_
            simp only [List.take_succ_cons, List.take_zero, List.drop_succ_cons, List.drop_zero]
            repeat (first | go_big_quiet_skip | (go_big_quiet_want; go_big_quiet_op; go_big_quiet_on))
            refine wpQuiet_nil ?_
            refine lexW_heavy (by kernel_rfl) ?_
            go_wp2_with (at_builtin; refine wpList_unguard (by first | rfl | simp [Region.wanted, yielded]) ?_; refine wpList_append_slc _ rfl _ _ 22 rfl w4.heap.size 5 ib (.int .u8 0) 1 1 Tryd.underlying22 HIB.out HY0.out HY1.out HY2.out rfl (by decide) _ _ _ rfl HR5.out _ TY.length (byteV TY) rfl (HTY4.out.below HB5.out) (byteV_one TY) (by unfold maxLen; omega) (by omega) HB5.out.size ?_; intro u2 w6 hown hgrow hat; refine halt ?_)
            have HB6 := Lib.hid (HB5.out.grown hgrow HB5.out.size fun q hq => (HR5.out.lt q hq).1)
            have HR6 := Lib.hid (show slc w6 1 u2 TZ.length (byteV TZ) by rw [← HTZE.out, byteV_append, List.length_append]; exact hown.slc)
            obtain ⟨a6, c6, rfl⟩ := hown.len
            rw [show TX.length + TY.length = TZ.length by rw [← HTZE.out, List.length_append]] at HR6 ⊢
            clear hown hgrow hat HR5 HB5
            unfold Halt
            refine lexQ_more (Hof.out _ HB6.out) ?_
            refine lexW_heavy (by kernel_rfl) ?_
            go_wp2_with fail
            refine (sameG_c TZ TZ _ _ w6 (HTZ.out.below HB6.out) HR6.out (by omega) (by omega)).mono ?_
            rintro ev w7 ⟨rfl, hb7⟩
            rw [decide_eq_true (rfl : TZ = TZ)]
            have HB7 := Lib.hid (HB6.out.trans (hb7.mono HB6.out.size))
            clear hb7
            go_wp2_with fail
            refine lexQ_more (Hof.out _ HB7.out) ?_
            refine lexW_light 2 (by kernel_rfl) ?_
            simp only [List.take_succ_cons, List.take_zero, List.drop_succ_cons, List.drop_zero]
            repeat (first | go_big_quiet_skip | (go_big_quiet_want; go_big_quiet_op; go_big_quiet_on))
            refine wpQuiet_nil ?_
            refine lexW_heavy (by kernel_rfl) ?_
            go_wp2_with fail
            refine (progRuns A _ (HS.out.below (HW4.out.trans (HB7.out.mono HW4.out.size)))).mono ?_
            rintro ev w8 ⟨rfl, hb8⟩
            have HB8 := Lib.hid (HB7.out.trans (hb8.mono HB7.out.size))
            clear hb8
            go_wp2_with fail
            refine lexQ_more (Hof.out _ HB8.out) ?_
            refine lexW_light 2 (by kernel_rfl) ?_
            simp only [List.take_succ_cons, List.take_zero, List.drop_succ_cons, List.drop_zero]
            repeat (first | go_big_quiet_skip | (go_big_quiet_want; go_big_quiet_op; go_big_quiet_on))
            refine wpQuiet_nil ?_
            refine lexW_done ?_
            go_wp2_with fail
            go_ret
            exact ⟨rfl, HW4.out.trans (HB8.out.mono HW4.out.size)⟩
          · refine lexW_light 2 (by kernel_rfl) ?_
            simp only [List.take_succ_cons, List.take_zero, List.drop_succ_cons, List.drop_zero]
            repeat (first | go_big_quiet_skip | (go_big_quiet_want; go_big_quiet_op; go_big_quiet_on))
            refine wpQuiet_nil ?_
            refine lexW_heavy (by kernel_rfl) ?_
            go_wp2_with (at_builtin; refine wpList_unguard (by first | rfl | simp [Region.wanted, yielded]) ?_; refine wpList_append_slc _ rfl _ _ 22 rfl w4.heap.size 5 ib (.int .u8 0) 1 1 Tryd.underlying22 HIB.out HY0.out HY1.out HY2.out rfl (by decide) _ _ _ rfl HR5.out _ TY.length (byteV TY) rfl (HTY4.out.below HB5.out) (byteV_one TY) (by unfold maxLen; omega) (by omega) HB5.out.size ?_; intro u2 w6 hown hgrow hat; refine halt ?_)
            have HB6 := Lib.hid (HB5.out.grown hgrow HB5.out.size fun q hq => (HR5.out.lt q hq).1)
            have HR6 := Lib.hid (show slc w6 1 u2 TZ.length (byteV TZ) by rw [← HTZE.out, byteV_append, List.length_append]; exact hown.slc)
            obtain ⟨a6, c6, rfl⟩ := hown.len
            rw [show TX.length + TY.length = TZ.length by rw [← HTZE.out, List.length_append]] at HR6 ⊢
            clear hown hgrow hat HR5 HB5
            unfold Halt
            refine lexQ_more (Hof.out _ HB6.out) ?_
            refine lexW_heavy (by kernel_rfl) ?_
            go_wp2_with fail
            refine (sameG_c TZ TZ _ _ w6 (HTZ.out.below HB6.out) HR6.out (by omega) (by omega)).mono ?_
            rintro ev w7 ⟨rfl, hb7⟩
            rw [decide_eq_true (rfl : TZ = TZ)]
            have HB7 := Lib.hid (HB6.out.trans (hb7.mono HB6.out.size))
            clear hb7
            go_wp2_with fail
            refine lexQ_more (Hof.out _ HB7.out) ?_
            refine lexW_light 2 (by kernel_rfl) ?_
            simp only [List.take_succ_cons, List.take_zero, List.drop_succ_cons, List.drop_zero]
            repeat (first | go_big_quiet_skip | (go_big_quiet_want; go_big_quiet_op; go_big_quiet_on))
            refine wpQuiet_nil ?_
            refine lexW_heavy (by kernel_rfl) ?_
            go_wp2_with fail
            refine (progRuns A _ (HS.out.below (HW4.out.trans (HB7.out.mono HW4.out.size)))).mono ?_
            rintro ev w8 ⟨rfl, hb8⟩
            have HB8 := Lib.hid (HB7.out.trans (hb8.mono HB7.out.size))
            clear hb8
            go_wp2_with fail
            refine lexQ_more (Hof.out _ HB8.out) ?_
            refine lexW_light 2 (by kernel_rfl) ?_
            simp only [List.take_succ_cons, List.take_zero, List.drop_succ_cons, List.drop_zero]
            repeat (first | go_big_quiet_skip | (go_big_quiet_want; go_big_quiet_op; go_big_quiet_on))
            refine wpQuiet_nil ?_
            refine lexW_done ?_
            go_wp2_with fail
            go_ret
            exact ⟨rfl, HW4.out.trans (HB8.out.mono HW4.out.size)⟩
        · refine lexW_light 2 (by kernel_rfl) ?_
          simp only [List.take_succ_cons, List.take_zero, List.drop_succ_cons, List.drop_zero]
          repeat (first | go_big_quiet_skip | (go_big_quiet_want; go_big_quiet_op; go_big_quiet_on))
          refine wpQuiet_nil ?_
          refine lexW_heavy (by kernel_rfl) ?_
          go_wp2_with (at_builtin; refine wpList_unguard (by first | rfl | simp [Region.wanted, yielded]) ?_; refine wpList_append_slc _ rfl _ _ 22 rfl w4.heap.size 5 ib (.int .u8 0) 1 1 Tryd.underlying22 HIB.out HY0.out HY1.out HY2.out rfl (by decide) _ _ _ rfl (winRow_made w4.drew 5 1) _ TX.length (byteV TX) rfl (HTX4.out.below ((Below.refl _ _).drew.alloc (Nat.le_refl _) _)) (byteV_one TX) (by unfold maxLen; omega) (by omega) (by simp) ?_; intro u2 w5 hown hgrow hat; refine halt ?_)
          have HR5 := Lib.hid (show winRow w5 w4.heap.size 5 1 u2 TX.length (byteV TX) by simpa using hown)
          have HB5 := Lib.hid (((Below.refl w4.heap.size w4).drew.alloc (Nat.le_refl _) _).grown hgrow (by simp) (by intro k hk; have hk : some w4.heap.size = some k := hk; exact Nat.le_of_eq (Option.some.inj hk)))
          obtain ⟨a5, c5, rfl⟩ := HR5.out.len
          clear hown hgrow hat
          unfold Halt
          refine lexQ_more (Hof.out _ HB5.out) ?_
          by_cases hy1 : cy = 1
          · subst hy1
            have HTY4 := Lib.hid (slc_any (w := w4) (a := some ⟨gy, oy, none⟩) (c := 0) (n := 0) (T := TY) (by omega) (by omega))
            refine lexW_light 2 (by kernel_rfl) ?_
            simp only [List.take_succ_cons, List.take_zero, List.drop_succ_cons, List.drop_zero]
            repeat (first | go_big_quiet_skip | (go_big_quiet_want; go_big_quiet_op; go_big_quiet_on))
            refine wpQuiet_nil ?_
            refine lexW_heavy (by kernel_rfl) ?_
            go_wp2_with (at_builtin; refine wpList_unguard (by first | rfl | simp [Region.wanted, yielded]) ?_; refine wpList_append_slc _ rfl _ _ 22 rfl w4.heap.size 5 ib (.int .u8 0) 1 1 Tryd.underlying22 HIB.out HY0.out HY1.out HY2.out rfl (by decide) _ _ _ rfl HR5.out _ TY.length (byteV TY) rfl (HTY4.out.below HB5.out) (byteV_one TY) (by unfold maxLen; omega) (by omega) HB5.out.size ?_; intro u2 w6 hown hgrow hat; refine halt ?_)
            have HB6 := Lib.hid (HB5.out.grown hgrow HB5.out.size fun q hq => (HR5.out.lt q hq).1)
            have HR6 := Lib.hid (show slc w6 1 u2 TZ.length (byteV TZ) by rw [← HTZE.out, byteV_append, List.length_append]; exact hown.slc)
            obtain ⟨a6, c6, rfl⟩ := hown.len
            rw [show TX.length + TY.length = TZ.length by rw [← HTZE.out, List.length_append]] at HR6 ⊢
            clear hown hgrow hat HR5 HB5
            unfold Halt
            refine lexQ_more (Hof.out _ HB6.out) ?_
            refine lexW_heavy (by kernel_rfl) ?_
            go_wp2_with fail
            refine (sameG_c TZ TZ _ _ w6 (HTZ.out.below HB6.out) HR6.out (by omega) (by omega)).mono ?_
            rintro ev w7 ⟨rfl, hb7⟩
            rw [decide_eq_true (rfl : TZ = TZ)]
            have HB7 := Lib.hid (HB6.out.trans (hb7.mono HB6.out.size))
            clear hb7
            go_wp2_with fail
            refine lexQ_more (Hof.out _ HB7.out) ?_
            refine lexW_light 2 (by kernel_rfl) ?_
            simp only [List.take_succ_cons, List.take_zero, List.drop_succ_cons, List.drop_zero]
            repeat (first | go_big_quiet_skip | (go_big_quiet_want; go_big_quiet_op; go_big_quiet_on))
            refine wpQuiet_nil ?_
            refine lexW_heavy (by kernel_rfl) ?_
            go_wp2_with fail
            refine (progRuns A _ (HS.out.below (HW4.out.trans (HB7.out.mono HW4.out.size)))).mono ?_
            rintro ev w8 ⟨rfl, hb8⟩
            have HB8 := Lib.hid (HB7.out.trans (hb8.mono HB7.out.size))
            clear hb8
            go_wp2_with fail
            refine lexQ_more (Hof.out _ HB8.out) ?_
            refine lexW_light 2 (by kernel_rfl) ?_
            simp only [List.take_succ_cons, List.take_zero, List.drop_succ_cons, List.drop_zero]
            repeat (first | go_big_quiet_skip | (go_big_quiet_want; go_big_quiet_op; go_big_quiet_on))
            refine wpQuiet_nil ?_
            refine lexW_done ?_
            go_wp2_with fail
            go_ret
            exact ⟨rfl, HW4.out.trans (HB8.out.mono HW4.out.size)⟩
          · refine lexW_light 2 (by kernel_rfl) ?_
            simp only [List.take_succ_cons, List.take_zero, List.drop_succ_cons, List.drop_zero]
            repeat (first | go_big_quiet_skip | (go_big_quiet_want; go_big_quiet_op; go_big_quiet_on))
            refine wpQuiet_nil ?_
            refine lexW_heavy (by kernel_rfl) ?_
            go_wp2_with (at_builtin; refine wpList_unguard (by first | rfl | simp [Region.wanted, yielded]) ?_; refine wpList_append_slc _ rfl _ _ 22 rfl w4.heap.size 5 ib (.int .u8 0) 1 1 Tryd.underlying22 HIB.out HY0.out HY1.out HY2.out rfl (by decide) _ _ _ rfl HR5.out _ TY.length (byteV TY) rfl (HTY4.out.below HB5.out) (byteV_one TY) (by unfold maxLen; omega) (by omega) HB5.out.size ?_; intro u2 w6 hown hgrow hat; refine halt ?_)
            have HB6 := Lib.hid (HB5.out.grown hgrow HB5.out.size fun q hq => (HR5.out.lt q hq).1)
            have HR6 := Lib.hid (show slc w6 1 u2 TZ.length (byteV TZ) by rw [← HTZE.out, byteV_append, List.length_append]; exact hown.slc)
            obtain ⟨a6, c6, rfl⟩ := hown.len
            rw [show TX.length + TY.length = TZ.length by rw [← HTZE.out, List.length_append]] at HR6 ⊢
            clear hown hgrow hat HR5 HB5
            unfold Halt
            refine lexQ_more (Hof.out _ HB6.out) ?_
            refine lexW_heavy (by kernel_rfl) ?_
            go_wp2_with fail
            refine (sameG_c TZ TZ _ _ w6 (HTZ.out.below HB6.out) HR6.out (by omega) (by omega)).mono ?_
            rintro ev w7 ⟨rfl, hb7⟩
            rw [decide_eq_true (rfl : TZ = TZ)]
            have HB7 := Lib.hid (HB6.out.trans (hb7.mono HB6.out.size))
            clear hb7
            go_wp2_with fail
            refine lexQ_more (Hof.out _ HB7.out) ?_
            refine lexW_light 2 (by kernel_rfl) ?_
            simp only [List.take_succ_cons, List.take_zero, List.drop_succ_cons, List.drop_zero]
            repeat (first | go_big_quiet_skip | (go_big_quiet_want; go_big_quiet_op; go_big_quiet_on))
            refine wpQuiet_nil ?_
            refine lexW_heavy (by kernel_rfl) ?_
            go_wp2_with fail
            refine (progRuns A _ (HS.out.below (HW4.out.trans (HB7.out.mono HW4.out.size)))).mono ?_
            rintro ev w8 ⟨rfl, hb8⟩
            have HB8 := Lib.hid (HB7.out.trans (hb8.mono HB7.out.size))
            clear hb8
            go_wp2_with fail
            refine lexQ_more (Hof.out _ HB8.out) ?_
            refine lexW_light 2 (by kernel_rfl) ?_
            simp only [List.take_succ_cons, List.take_zero, List.drop_succ_cons, List.drop_zero]
            repeat (first | go_big_quiet_skip | (go_big_quiet_want; go_big_quiet_op; go_big_quiet_on))
            refine wpQuiet_nil ?_
            refine lexW_done ?_
            go_wp2_with fail
            go_ret
            exact ⟨rfl, HW4.out.trans (HB8.out.mono HW4.out.size)⟩

end Go.Proofs.YtpljdbcifaeblaaDoor
