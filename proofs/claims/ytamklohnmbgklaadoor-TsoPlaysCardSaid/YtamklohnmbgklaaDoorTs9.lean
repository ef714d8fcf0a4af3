/- The memory model: an event made; Replay (the program's). -/
import Derived.Test.YtamklohnmbgklaaDoorTs8
namespace Go.Proofs.YtamklohnmbgklaaDoor
open Go.RowKit Go.Extern.Stop Go.Stop Go.Extern

theorem ev_c (kd co ad va : Int) (w : World) :
    Calls Tryd.prog 13 #[.int .i64 kd, .int .i64 co, .int .i64 ad, .int .u32 va] w fun ev w' => ev = .returned (Ev.v ⟨kd, co, ad, va, 0, false⟩) ∧ Below w.heap.size w w' := by
  go_enter Tryd.func13, Tryd.ntmps13
  go_wp2_with fail
  refine bodyPost_ret_by (v := .agg #[.int .i64 kd, .int .i64 co, .int .i64 ad, .int .u32 va, .int .u32 0, .bool false]) (by simp [results, Tryd.results13, go_sem]) rfl ?_
  exact ⟨rfl, (Below.refl _ _).alloc (Nat.le_refl _) _⟩

/-- Events, as cells. -/
def Ev.cs (e : Ev) : List Value := [.int .i64 e.kind, .int .i64 e.core, .int .i64 e.addr, .int .u32 e.val, .int .u32 e.new, .bool e.done]
def flatE : List Ev → List Value
  | [] => []
  | e :: l => e.cs ++ flatE l
theorem flatE_length (l : List Ev) : (flatE l).length = l.length * 6 := by
  induction l with
  | nil => rfl
  | cons x l ih => simp only [flatE, Ev.cs, List.length_append, List.length_cons, List.length_nil, ih]; omega
theorem flatE_append (l r : List Ev) : flatE (l ++ r) = flatE l ++ flatE r := by
  induction l with
  | nil => rfl
  | cons x l ih => simp [flatE, ih]
theorem flatE_one (l : List Ev) : ∀ u ∈ flatE l, u.oneCell' = true := by
  induction l with
  | nil => intro u hu; cases hu
  | cons x l ih =>
    intro u hu
    simp only [flatE, Ev.cs, List.cons_append, List.nil_append, List.mem_cons] at hu
    rcases hu with rfl | rfl | rfl | rfl | rfl | rfl | hu
    · rfl
    · rfl
    · rfl
    · rfl
    · rfl
    · rfl
    · exact ih u hu
theorem flatE_at {l : List Ev} {k : Nat} {e : Ev} (h : l[k]? = some e) {c : Nat} {v : Value} (hc : e.cs[c]? = some v) : (flatE l)[k * 6 + c]? = some v := by
  induction l generalizing k with
  | nil => simp at h
  | cons y l ih =>
    have hc6 : c < 6 := (List.getElem?_eq_some_iff.1 hc).1
    cases k with
    | zero =>
      simp only [List.getElem?_cons_zero, Option.some.injEq] at h
      subst h
      simp only [flatE, Nat.zero_mul, Nat.zero_add]
      rw [List.getElem?_append_left (by simp only [Ev.cs, List.length_cons, List.length_nil]; omega)]
      exact hc
    | succ k =>
      have := ih (by simpa using h)
      simp only [flatE]
      rw [List.getElem?_append_right (by simp only [Ev.cs, List.length_cons, List.length_nil]; omega)]
      rw [show (k + 1) * 6 + c - y.cs.length = k * 6 + c by simp only [Ev.cs, List.length_cons, List.length_nil]; omega]
      exact this
theorem nInfoE : (Tryd.prog.info? 24).map (fun i => (i.zero, i.size, i.bytes)) = some (some (.agg #[.int .i64 0, .int .i64 0, .int .i64 0, .int .u32 0, .int .u32 0, .bool false]), 6, 40) := by kernel_rfl

def trT : ByteArray := ⟨#[116, 115, 111, 46, 82, 101, 112, 108, 97, 121]⟩
/-- Memory behind a row of events. -/
def runM : Bufs → List Int → List Ev → List Int
  | _, M, [] => M
  | B, M, e :: l => runM (nxB B M e) (nxM B M e) l
/-- Which event is refused, and why. -/
def rplE : Bufs → List Int → List Ev → Nat → ErrT
  | _, _, [], _ => .nil
  | B, M, e :: l, i => if stC B M e = 0 then rplE (nxB B M e) (nxM B M e) l (i + 1) else .wrap trT i (stepE B M e)
theorem runM_length : ∀ (l : List Ev) (B : Bufs) (M : List Int), (runM B M l).length = M.length
  | [], _, _ => rfl
  | e :: l, B, M => by rw [runM, runM_length l, nxM_length]

/-- What Replay answers. -/
def ReplayP (A : Nat → Addr) (w : World) (B : Bufs) (M : List Int) (l : List Ev) (m : Nat) (ev : Ending) (w' : World) : Prop :=
  ∃ u, ev = .returned (.tuple #[u, (rplE B M l 0).val A]) ∧ (if (rplE B M l 0).isNil then winRow w' w.heap.size 22 1 u m (u32V (runM B M l)) else u = .slice none 0 0) ∧ Below w.heap.size w w'

set_option maxRecDepth 100000 in
set_option maxHeartbeats 8000000 in
theorem replay_c (A : Nat → Addr) (n m : Nat) (v : Value) (l : List Ev) (w : World) (hs : SentAt w A) (h1 : 1 ≤ n) (h2 : n ≤ 64) (h3 : 1 ≤ m) (h4 : m ≤ 128) (hv : slc w 6 v l.length (flatE l)) (hl : l.length ≤ 1000) :
    Calls Tryd.prog 14 #[.int .i64 n, .int .i64 m, v] w (ReplayP A w (List.replicate n []) (List.replicate m 0) l m) := by
  have HS := Lib.hid hs
  have HV := Lib.hid hv
  obtain ⟨_, ad0, cap0, rfl, hvc⟩ := hv
  have HVC := Lib.hid hvc
  have HM := Lib.hid (show 0 < m ∧ m ≤ 128 by omega)
  generalize hB0 : List.replicate n ([] : List (Int × Int)) = B0
  generalize hM0 : List.replicate m (0 : Int) = M0
  have HB0 := Lib.hid hB0
  have HM0 := Lib.hid hM0
  have HML := Lib.hid (show M0.length = m by rw [← hM0]; simp)
  have HBL := Lib.hid (show ∀ k, (B0.getD k []).length ≤ 0 by
    intro k
    rw [← hB0, List.getD_eq_getElem?_getD, List.getElem?_replicate]
    split <;> simp)
  clear hs hvc hB0 hM0
  go_enter Tryd.func14, Tryd.ntmps14
  go_wp2_with fail
  refine (tnew_ok n m w h1 h2 h3 h4).mono ?_
  rintro ev w1 ⟨b, rfl, ⟨F, hF⟩, hb1⟩
  rw [HB0.out, HM0.out] at hF
  have HF := Lib.hid hF
  have HB1 := Lib.hid hb1
  clear hF hb1 h1 h2 h3 h4
  go_wp2_with fail
  go_loopw [24] (fun s24 wr => ∃ (i : Nat) (rest : List Ev) (B : Bufs) (M : List Int) (F : Nat → Prop), i ≤ l.length ∧ s24 = .int .i64 i ∧ l.drop i = rest ∧ Md tyP wr w.heap.size b F B M ∧ M.length = m ∧ (∀ k, (B.getD k []).length ≤ i) ∧ rplE B0 M0 l 0 = rplE B M rest i ∧ runM B0 M0 l = runM B M rest ∧ Below w.heap.size w wr) (fun s24 _ => l.length - (intOf s24).toNat)
  case atStart => exact ⟨0, l, B0, M0, F, by omega, rfl, rfl, HF.out, HML.out, HBL.out, rfl, rfl, HB1.out⟩
  case round =>
    clear HF HB1 HBL
    obtain ⟨i, rest, B, M, F, hi, rfl, hrest, hF, hM, hB, hE, hR, hbel⟩ := hrel
    have HF := Lib.hid hF
    have HMM := Lib.hid hM
    have HBB := Lib.hid hB
    have HE := Lib.hid hE
    have HR := Lib.hid hR
    have HW := Lib.hid hbel
    have HREST := Lib.hid hrest
    clear hF hM hB hE hR hbel hrest
    by_cases hil : i < l.length
    · have g1 : decide ((i : Int) < l.length) = true := by simp; omega
      obtain ⟨g, off, rfl, hg, hcc⟩ := HVC.out (by omega)
      obtain ⟨e, he⟩ : ∃ e, l[i]? = some e := ⟨_, List.getElem?_eq_getElem hil⟩
      have hd : rest = e :: l.drop (i + 1) := by
        rw [← HREST.out, List.drop_eq_getElem_cons hil]
        rw [List.getElem?_eq_getElem hil] at he
        rw [Option.some.inj he]
      have e0 := (HW.out.cell (p := ⟨g, off + (i * 6 + 0), none⟩) hg).trans (hcc _ _ (flatE_at he (c := 0) rfl))
      have e1 := (HW.out.cell (p := ⟨g, off + (i * 6 + 1), none⟩) hg).trans (hcc _ _ (flatE_at he (c := 1) rfl))
      have e2 := (HW.out.cell (p := ⟨g, off + (i * 6 + 2), none⟩) hg).trans (hcc _ _ (flatE_at he (c := 2) rfl))
      have e3 := (HW.out.cell (p := ⟨g, off + (i * 6 + 3), none⟩) hg).trans (hcc _ _ (flatE_at he (c := 3) rfl))
      have e4 := (HW.out.cell (p := ⟨g, off + (i * 6 + 4), none⟩) hg).trans (hcc _ _ (flatE_at he (c := 4) rfl))
      have e5 := (HW.out.cell (p := ⟨g, off + (i * 6 + 5), none⟩) hg).trans (hcc _ _ (flatE_at he (c := 5) rfl))
      rw [Nat.add_zero] at e0
      rw [← Nat.add_assoc] at e1 e2 e3 e4 e5
      have HD := Lib.hid hd
      clear hcc he hd
      obtain ⟨kd, co, ad, va, ne, dn⟩ := e
      simp only at e0 e1 e2 e3 e4 e5
      have hba : Below wr.heap.size wr (wr.alloc (.cells #[.int .i64 kd, .int .i64 co, .int .i64 ad, .int .u32 va, .int .u32 ne, .bool dn] 24)) := (Below.refl _ _).alloc (Nat.le_refl _) _
      have HBA := Lib.hid hba
      have HSA := Lib.hid (HS.out.below (HW.out.trans (hba.mono HW.out.size)))
      have HFA := Lib.hid (HF.out.below hba)
      clear hba
      go_wp2_with fail
      refine (tstep_c A w.heap.size b F B M ⟨kd, co, ad, va, ne, dn⟩ _ HSA.out HFA.out (by have := HMM.out; have := HM.out; omega) (fun k => by have := HBB.out k; omega)).mono ?_
      rintro ev w2 ⟨rfl, F', hF', hM2, hFF⟩
      have HF' := Lib.hid hF'
      have hw2 : Below w.heap.size w w2 := (HW.out.trans (HBA.out.mono HW.out.size)).trans (hM2.below (by have := HW.out.size; simp; omega) fun k hk => (HFA.out.lt k hk).1)
      have HW2 := Lib.hid hw2
      clear hF' hM2 hFF hw2 e0 e1 e2 e3 e4 e5
      by_cases hc : stC B M ⟨kd, co, ad, va, ne, dn⟩ = 0
      · have hst : stepE B M ⟨kd, co, ad, va, ne, dn⟩ = .nil := by unfold stepE; rw [if_pos hc]
        have HC := Lib.hid hc
        rw [hst, show ErrT.nil.val A = .nilIface from rfl]
        clear hst hc
        go_wp2_with fail
        go_roundw
        case rel =>
          refine ⟨i + 1, _, _, _, F', by omega, by go_num, rfl, HF'.out, by rw [nxM_length]; exact HMM.out, nxB_le HBB.out, ?_, ?_, HW2.out⟩
          · rw [HE.out, HD.out, rplE, if_pos HC.out]
          · rw [HR.out, HD.out, runM]
        case measure => simp [intOf]; omega
      · have hst : stepE B M ⟨kd, co, ad, va, ne, dn⟩ = .wrap tsT co (.sent (stC B M ⟨kd, co, ad, va, ne, dn⟩ - 1)) := by unfold stepE; rw [if_neg hc]
        have HC := Lib.hid hc
        have HST := Lib.hid hst
        rw [hst]
        clear hst hc
        generalize stC B M ⟨kd, co, ad, va, ne, dn⟩ - 1 = c1 at *
        rw [show (ErrT.wrap tsT co (.sent c1)).val A = .iface 78 (.agg #[.string tsT, .int .i64 co, .iface 129 (.pointer (some (A c1)))]) from rfl]
        go_wp2_with fail
        change Calls Tryd.prog _ #[_, _, (ErrT.wrap tsT co (.sent c1)).val A] _ _
        refine (wrap_c A trT i (.wrap tsT co (.sent c1)) _).mono ?_
        rintro ev w' ⟨rfl, hww⟩
        obtain rfl := hww.symm
        have hfin : rplE B0 M0 l 0 = .wrap trT i (.wrap tsT co (.sent c1)) := by rw [HE.out, HD.out, rplE, if_neg HC.out, HST.out]
        have HFIN := Lib.hid hfin
        clear hfin
        rw [show (wrapE trT (i : Int) (.wrap tsT co (.sent c1))).val A = .iface 78 (.agg #[.string trT, .int .i64 i, .iface 78 (.agg #[.string tsT, .int .i64 co, .iface 129 (.pointer (some (A c1)))])]) from rfl]
        go_wp2_with fail
        go_ret2
        exact ⟨.slice none 0 0, by rw [HFIN.out]; rfl, by rw [HFIN.out]; rfl, HW2.out⟩
    · have g1 : decide ((i : Int) < l.length) = false := by simp; omega
      have hfin : rplE B0 M0 l 0 = .nil ∧ runM B0 M0 l = M := by
        have h0 : rest = [] := by rw [← HREST.out]; exact List.drop_eq_nil_of_le (by omega)
        rw [HE.out, HR.out, h0]
        exact ⟨rfl, rfl⟩
      have HFIN := Lib.hid hfin
      clear hfin
      go_wp2_with fail
      refine (tmem_c w.heap.size b F B M wr HF.out (by have := HMM.out; have := HM.out; omega)).mono ?_
      rintro ev w3 ⟨u, rfl, hu, hb3⟩
      have HU := Lib.hid (hu.base_le fun q hq => Nat.le_trans HW.out.size (hu.lt q hq).1)
      obtain ⟨ad3, cap3, rfl⟩ := hu.len
      clear hu
      go_wp2_with fail
      go_ret2
      refine ⟨.slice ad3 M.length cap3, by rw [HFIN.out.1]; rfl, ?_, HW.out.trans (hb3.mono HW.out.size)⟩
      rw [HFIN.out.1, HFIN.out.2]
      have h := HU.out
      rw [HMM.out] at h ⊢
      exact h

end Go.Proofs.YtamklohnmbgklaaDoor
