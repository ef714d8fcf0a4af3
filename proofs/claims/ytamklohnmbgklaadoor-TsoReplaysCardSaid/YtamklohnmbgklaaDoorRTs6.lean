/- The document's Replay. -/
import Derived.Test.YtamklohnmbgklaaDoorRTs5
namespace Go.Proofs.YtamklohnmbgklaaDoor
open Go.RowKit Go.Extern.Stop Go.Stop Go.Extern

/-- Which event is refused, and why (the document's). -/
def rrA : Bufs → List Int → List Ev → Nat → Int × Nat
  | _, _, [], _ => (-1, 0)
  | B, M, e :: l, i => if stC B M e = 0 then rrA (nxB B M e) (nxM B M e) l (i + 1) else (i, stC B M e)
/-- What it answers. -/
def RReplayP (w : World) (B : Bufs) (M : List Int) (l : List Ev) (m : Nat) (ev : Ending) (w' : World) : Prop :=
  ∃ u, ev = .returned (.tuple #[.int .i64 (rrA B M l 0).1, .int .i64 ((rrA B M l 0).2 : Nat), u]) ∧ (if (rrA B M l 0).2 = 0 then slc w' 1 u m (u32V (runM B M l)) else u = .slice none 0 0) ∧ Below w.heap.size w w'

set_option maxRecDepth 100000 in
set_option maxHeartbeats 8000000 in
theorem rreplay_c (n m : Nat) (v : Value) (l : List Ev) (w : World) (h1 : 1 ≤ n) (h2 : n ≤ 64) (h3 : 1 ≤ m) (h4 : m ≤ 128) (hv : slc w 6 v l.length (flatE l)) (hl : l.length ≤ 1000) :
    Calls Tryd.prog 22 #[.int .i64 n, .int .i64 m, v] w (RReplayP w (List.replicate n []) (List.replicate m 0) l m) := by
  obtain ⟨_, ad0, cap0, rfl, hvc⟩ := hv
  have HVC := Lib.hid hvc
  have HM := Lib.hid (show 0 < m ∧ m ≤ 128 by omega)
  generalize hB0 : List.replicate n ([] : List (Int × Int)) = B0
  generalize hM0 : List.replicate m (0 : Int) = M0
  have HB0 := Lib.hid hB0
  have HM0 := Lib.hid hM0
  have HML := Lib.hid (show M0.length = m by rw [← hM0]; simp)
  have HBL := Lib.hid (show ∀ k, (B0.getD k []).length ≤ 0 by
    intro k
    rw [← hB0, List.getD_eq_getElem?_getD, List.getElem?_replicate]
    split <;> simp)
  clear hvc hB0 hM0
  go_enter Tryd.func22, Tryd.ntmps22
  go_wp2_with fail
  refine (mnew_ok n m w h1 h2 h3 h4).mono ?_
  rintro ev w1 ⟨b, rfl, ⟨F, hF⟩, hb1⟩
  rw [HB0.out, HM0.out] at hF
  have HF := Lib.hid hF
  have HB1 := Lib.hid hb1
  clear hF hb1 h1 h2 h3 h4
  go_wp2_with fail
  go_loopw [25] (fun s25 wr => ∃ (i : Nat) (rest : List Ev) (B : Bufs) (M : List Int) (F : Nat → Prop), i ≤ l.length ∧ s25 = .int .i64 i ∧ l.drop i = rest ∧ Md tyR wr w.heap.size b F B M ∧ M.length = m ∧ (∀ k, (B.getD k []).length ≤ i) ∧ rrA B0 M0 l 0 = rrA B M rest i ∧ runM B0 M0 l = runM B M rest ∧ Below w.heap.size w wr) (fun s25 _ => l.length - (intOf s25).toNat)
  case atStart => exact ⟨0, l, B0, M0, F, by omega, rfl, rfl, HF.out, HML.out, HBL.out, rfl, rfl, HB1.out⟩
  case round =>
    clear HF HB1 HBL
    obtain ⟨i, rest, B, M, F, hi, rfl, hrest, hF, hM, hB, hE, hR, hbel⟩ := hrel
    have HF := Lib.hid hF
    have HMM := Lib.hid hM
    have HBB := Lib.hid hB
    have HE := Lib.hid hE
    have HR := Lib.hid hR
    have HW := Lib.hid hbel
    have HREST := Lib.hid hrest
    clear hF hM hB hE hR hbel hrest
    by_cases hil : i < l.length
    · have g1 : decide ((i : Int) < l.length) = true := by simp; omega
      obtain ⟨g, off, rfl, hg, hcc⟩ := HVC.out (by omega)
      obtain ⟨e, he⟩ : ∃ e, l[i]? = some e := ⟨_, List.getElem?_eq_getElem hil⟩
      have hd : rest = e :: l.drop (i + 1) := by
        rw [← HREST.out, List.drop_eq_getElem_cons hil]
        rw [List.getElem?_eq_getElem hil] at he
        rw [Option.some.inj he]
      have e0 := (HW.out.cell (p := ⟨g, off + (i * 6 + 0), none⟩) hg).trans (hcc _ _ (flatE_at he (c := 0) rfl))
      have e1 := (HW.out.cell (p := ⟨g, off + (i * 6 + 1), none⟩) hg).trans (hcc _ _ (flatE_at he (c := 1) rfl))
      have e2 := (HW.out.cell (p := ⟨g, off + (i * 6 + 2), none⟩) hg).trans (hcc _ _ (flatE_at he (c := 2) rfl))
      have e3 := (HW.out.cell (p := ⟨g, off + (i * 6 + 3), none⟩) hg).trans (hcc _ _ (flatE_at he (c := 3) rfl))
      have e4 := (HW.out.cell (p := ⟨g, off + (i * 6 + 4), none⟩) hg).trans (hcc _ _ (flatE_at he (c := 4) rfl))
      have e5 := (HW.out.cell (p := ⟨g, off + (i * 6 + 5), none⟩) hg).trans (hcc _ _ (flatE_at he (c := 5) rfl))
      rw [Nat.add_zero] at e0
      rw [← Nat.add_assoc] at e1 e2 e3 e4 e5
      have HD := Lib.hid hd
      clear hcc he hd
      obtain ⟨kd, co, ad, va, ne, dn⟩ := e
      simp only at e0 e1 e2 e3 e4 e5
      have hba : Below wr.heap.size wr (wr.alloc (.cells #[.int .i64 kd, .int .i64 co, .int .i64 ad, .int .u32 va, .int .u32 ne, .bool dn] 24)) := (Below.refl _ _).alloc (Nat.le_refl _) _
      have HBA := Lib.hid hba
      have HFA := Lib.hid (HF.out.below hba)
      clear hba
      go_wp2_with fail
      refine (rstep_c w.heap.size b F B M ⟨kd, co, ad, va, ne, dn⟩ _ HFA.out (fun k => by have := HBB.out k; omega)).mono ?_
      rintro ev w2 ⟨rfl, F', hF', hM2, hFF⟩
      have HF' := Lib.hid hF'
      have hw2 : Below w.heap.size w w2 := (HW.out.trans (HBA.out.mono HW.out.size)).trans (hM2.below (by have := HW.out.size; simp; omega) fun k hk => (HFA.out.lt k hk).1)
      have HW2 := Lib.hid hw2
      clear hF' hM2 hFF hw2 e0 e1 e2 e3 e4 e5
      by_cases hc : stC B M ⟨kd, co, ad, va, ne, dn⟩ = 0
      · rw [show ((stC B M ⟨kd, co, ad, va, ne, dn⟩ : Nat) : Int) = 0 by rw [hc]; rfl]
        have HC := Lib.hid hc
        clear hc
        go_wp2_with fail
        go_roundw
        case rel =>
          refine ⟨i + 1, _, _, _, F', by omega, by go_num, rfl, HF'.out, by rw [nxM_length]; exact HMM.out, nxB_le HBB.out, ?_, ?_, HW2.out⟩
          · rw [HE.out, HD.out, rrA, if_pos HC.out]
          · rw [HR.out, HD.out, runM]
        case measure => simp [intOf]; omega
      · have HFIN := Lib.hid (show rrA B0 M0 l 0 = ((i : Int), stC B M ⟨kd, co, ad, va, ne, dn⟩) by rw [HE.out, HD.out, rrA, if_neg hc])
        have HC := Lib.hid hc
        generalize stC B M ⟨kd, co, ad, va, ne, dn⟩ = c at *
        have hcb : ((c : Int) != 0) = true := by simpa using hc
        clear hc
        go_wp2_with fail
        go_ret3
        exact ⟨.slice none 0 0, by rw [HFIN.out]; rfl, by rw [HFIN.out, if_neg HC.out], HW2.out⟩
    · have g1 : decide ((i : Int) < l.length) = false := by simp; omega
      have hfin : rrA B0 M0 l 0 = (-1, 0) ∧ runM B0 M0 l = M := by
        have h0 : rest = [] := by rw [← HREST.out]; exact List.drop_eq_nil_of_le (by omega)
        rw [HE.out, HR.out, h0]
        exact ⟨rfl, rfl⟩
      have HFIN := Lib.hid hfin
      clear hfin
      have ha := HF.out
      obtain ⟨vB, vM, vs, hA, _⟩ := ha
      have hbl := (hA.lt b (.inl rfl)).2
      have c1 := cell_of hA.blk 1
      simp only [List.getElem?_toArray, List.getElem?_cons_zero, List.getElem?_cons_succ] at c1
      have HSL := Lib.hid hA.rowM.slc
      obtain ⟨aM, kM, rfl⟩ := hA.rowM.len
      clear hA
      go_wp2_with fail
      refine wp_region_lexA ⟨[], []⟩ (fun x => Below wr.heap.size wr x) (by kernel_rfl) (by kernel_rfl) (Below.refl _ _).drew ?_
      intro S hto hof hne
      have y1 : ∀ z : Wd S, z.w.cell? ⟨b, 1, none⟩ = some (.slice aM M.length kM) := fun z => ((hto z).cell (p := ⟨b, 1, none⟩) hbl).trans c1
      have Hof := Lib.hid hof
      clear hto hof c1
      refine lexW_light 7 (by kernel_rfl) ?_
      simp only [List.take_succ_cons, List.take_zero, List.drop_succ_cons, List.drop_zero]
      repeat (first | go_big_quiet_skip | (go_big_quiet_want; go_big_quiet_op; go_big_quiet_on))
      refine wpQuiet_nil ?_
      refine lexW_done ?_
      clear y1
      go_wp2_with fail
      go_ret3
      refine ⟨.slice aM M.length kM, by rw [HFIN.out.1]; rfl, ?_, HW.out.drew⟩
      rw [HFIN.out.1, HFIN.out.2, if_pos rfl]
      have h := HSL.out.below (Below.refl _ _).drew
      rw [HMM.out] at h ⊢
      exact h

end Go.Proofs.YtamklohnmbgklaaDoor
