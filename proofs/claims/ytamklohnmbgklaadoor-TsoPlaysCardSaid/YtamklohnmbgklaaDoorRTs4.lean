/- The document's memory model: Step, whole. -/
import Derived.Test.YtamklohnmbgklaaDoorRTs3
namespace Go.Proofs.YtamklohnmbgklaaDoor
open Go.RowKit Go.Extern.Stop Go.Stop Go.Extern

/-- What Step answers, and what it leaves. -/
def RStepP (lo b : Nat) (vB vM : Value) (vs : List Value) (B : Bufs) (M : List Int) (e : Ev) (w : World) (ev : Ending) (w' : World) : Prop :=
  ev = .returned (.int .i64 (stC B M e)) ∧ StepP tyR w w' lo b vB vM vs (nxB B M e) (nxM B M e)
theorem rstepP_no {lo b : Nat} {vB vM : Value} {vs : List Value} {B : Bufs} {M : List Int} {e : Ev} {w : World} (h : MdAt tyR w lo b vB vM vs B M) {c : Nat} (hc : stC B M e = c + 1) {ev : Ending} {w' : World} (hh : ev = .returned (.int .i64 ((c + 1 : Nat) : Int)) ∧ Below w.heap.size w w') : RStepP lo b vB vM vs B M e w ev w' := by
  obtain ⟨_, e2, e3⟩ := (⟨trivial, by unfold nxB; rw [if_neg (by omega)], by unfold nxM; rw [if_neg (by omega)]⟩ : True ∧ nxB B M e = B ∧ nxM B M e = M)
  unfold RStepP
  rw [hc, e2, e3]
  exact ⟨hh.1, StepP.same h hh.2⟩
theorem rstepP_ok {lo b : Nat} {vB vM : Value} {vs : List Value} {B : Bufs} {M : List Int} {e : Ev} {w : World} (hc : stC B M e = 0) {B' : Bufs} {M' : List Int} (hB : stB B e = B') (hM : stM M e = M') {ev : Ending} {w' : World} (hh : ev = .returned (.int .i64 0) ∧ StepP tyR w w' lo b vB vM vs B' M') : RStepP lo b vB vM vs B M e w ev w' := by
  unfold RStepP nxB nxM
  rw [hc, if_pos rfl, if_pos rfl, hB, hM]
  exact hh
theorem rstepP_same {lo b : Nat} {vB vM : Value} {vs : List Value} {B : Bufs} {M : List Int} {e : Ev} {w : World} (h : MdAt tyR w lo b vB vM vs B M) (hc : stC B M e = 0) (hB : stB B e = B) (hM : stM M e = M) {ev : Ending} {w' : World} (hh : ev = .returned (.int .i64 0) ∧ Below w.heap.size w w') : RStepP lo b vB vM vs B M e w ev w' :=
  rstepP_ok hc hB hM ⟨hh.1, StepP.same h hh.2⟩

theorem rstep_at (lo b : Nat) (vB vM : Value) (vs : List Value) (B : Bufs) (M : List Int) (e : Ev) (w : World) (h : MdAt tyR w lo b vB vM vs B M) (hlb : ∀ k, (B.getD k []).length ≤ 100000) :
    Calls Tryd.prog 21 #[.pointer (some ⟨b, 0, none⟩), e.v] w (RStepP lo b vB vM vs B M e w) := by
  obtain ⟨kd, co, ad, va, ne, dn⟩ := e
  by_cases c1 : co < 0
  · have hc : stC B M ⟨kd, co, ad, va, ne, dn⟩ = 0 + 1 := by unfold stC; rw [if_pos (.inr (.inl fun hh => by have := hh.1; simp only at this; omega))]
    exact (rarg1 lo b vB vM vs B M kd co ad va ne dn w h c1).mono fun ev w' hh => rstepP_no h hc hh
  by_cases c2 : (B.length : Int) ≤ co
  · have hc : stC B M ⟨kd, co, ad, va, ne, dn⟩ = 0 + 1 := by unfold stC; rw [if_pos (.inr (.inl fun hh => by have := hh.2; simp only at this; omega))]
    exact (rarg2 lo b vB vM vs B M kd co ad va ne dn w h (by omega) c2).mono fun ev w' hh => rstepP_no h hc hh
  obtain ⟨k, rfl⟩ := Int.eq_ofNat_of_zero_le (show 0 ≤ co by omega)
  have hk : k < B.length := by omega
  have hcc : okC B (k : Int) := ⟨by omega, by omega⟩
  by_cases c3 : kd < 1
  · have hc : stC B M ⟨kd, k, ad, va, ne, dn⟩ = 0 + 1 := by unfold stC; rw [if_pos (.inl fun hh => by have := hh.1; simp only at this; omega)]
    exact (rarg3 lo b vB vM vs B M k kd ad va ne dn w h hk c3).mono fun ev w' hh => rstepP_no h hc hh
  by_cases c4 : 5 < kd
  · have hc : stC B M ⟨kd, k, ad, va, ne, dn⟩ = 0 + 1 := by unfold stC; rw [if_pos (.inl fun hh => by have := hh.2; simp only at this; omega)]
    exact (rarg4 lo b vB vM vs B M k kd ad va ne dn w h hk (by omega) c4).mono fun ev w' hh => rstepP_no h hc hh
  by_cases c5 : kd = 5
  · subst c5
    cases hL : B.getD k [] with
    | nil =>
      have hc : stC B M ⟨5, k, ad, va, ne, dn⟩ = 0 := by simp only [stC, hcc, Int.toNat_natCast, hL]; simp
      exact (rfence_ok lo b vB vM vs B M k ad va ne dn w h hk hL).mono fun ev w' hh => rstepP_same h hc rfl (by simp [stM]) hh
    | cons x L =>
      have hc : stC B M ⟨5, k, ad, va, ne, dn⟩ = 8 + 1 := by simp only [stC, hcc, Int.toNat_natCast, hL]; simp
      exact (rfence_full lo b vB vM vs B M k ad x L va ne dn w h hk hL).mono fun ev w' hh => rstepP_no h hc hh
  by_cases c6 : ad < 0
  · have hc : stC B M ⟨kd, k, ad, va, ne, dn⟩ = 0 + 1 := by unfold stC; rw [if_pos (.inr (.inr ⟨c5, fun hh => by have := hh.1; simp only at this; omega⟩))]
    exact (rarg5 lo b vB vM vs B M k kd ad va ne dn w h hk (by omega) (by omega) c5 c6).mono fun ev w' hh => rstepP_no h hc hh
  by_cases c7 : (M.length : Int) ≤ ad
  · have hc : stC B M ⟨kd, k, ad, va, ne, dn⟩ = 0 + 1 := by unfold stC; rw [if_pos (.inr (.inr ⟨c5, fun hh => by have := hh.2; simp only at this; omega⟩))]
    exact (rarg6 lo b vB vM vs B M k kd ad va ne dn w h hk (by omega) (by omega) c5 (by omega) c7).mono fun ev w' hh => rstepP_no h hc hh
  obtain ⟨j, rfl⟩ := Int.eq_ofNat_of_zero_le (show 0 ≤ ad by omega)
  have hj : j < M.length := by omega
  have haa : okA M (j : Int) := ⟨by omega, by omega⟩
  rcases (show kd = 1 ∨ kd = 2 ∨ kd = 3 ∨ kd = 4 by omega) with rfl | rfl | rfl | rfl
  · by_cases hr : rdS B M k j = va
    · have hc : stC B M ⟨1, k, j, va, ne, dn⟩ = 0 := by simp [stC, hcc, haa, hr]
      exact (rload_ok lo b vB vM vs B M k j va ne dn w h hk hj hr).mono fun ev w' hh => rstepP_same h hc rfl (by simp [stM]) hh
    · have hc : stC B M ⟨1, k, j, va, ne, dn⟩ = 9 + 1 := by simp [stC, hcc, haa, hr]
      exact (rload_no lo b vB vM vs B M k j (rdS B M k j) va ne dn w h hk hj rfl hr).mono fun ev w' hh => rstepP_no h hc hh
  · have hc : stC B M ⟨2, k, j, va, ne, dn⟩ = 0 := by simp [stC, hcc, haa]
    exact (rstore_ok lo b vB vM vs B M k j (B.getD k []) va ne dn w h hk hj rfl (hlb k)).mono fun ev w' hh => rstepP_ok hc (by simp [stB]) (by simp [stM]) hh
  · cases hL : B.getD k [] with
    | nil =>
      have hc : stC B M ⟨3, k, j, va, ne, dn⟩ = 8 + 1 := by simp only [stC, hcc, haa, Int.toNat_natCast, hL]; simp
      exact (rcommit_none lo b vB vM vs B M k j va ne dn w h hk hj hL).mono fun ev w' hh => rstepP_no h hc hh
    | cons x L =>
      obtain ⟨x1, x2⟩ := x
      by_cases hx1 : x1 = (j : Int)
      · subst hx1
        by_cases hx2 : x2 = va
        · subst hx2
          have hc : stC B M ⟨3, k, j, x2, ne, dn⟩ = 0 := by simp only [stC, hcc, haa, Int.toNat_natCast, hL]; simp
          exact (rcommit_ok lo b vB vM vs B M k j L x2 ne dn w h hk hj hL).mono fun ev w' hh => rstepP_ok hc (by simp only [stB, Int.toNat_natCast, hL]; simp) (by simp [stM]) hh
        · have hc : stC B M ⟨3, k, j, va, ne, dn⟩ = 9 + 1 := by simp only [stC, hcc, haa, Int.toNat_natCast, hL]; simp [hx2]
          exact (rcommit_no2 lo b vB vM vs B M k j x2 L va ne dn w h hk hj hL hx2).mono fun ev w' hh => rstepP_no h hc hh
      · have hc : stC B M ⟨3, k, j, va, ne, dn⟩ = 9 + 1 := by simp only [stC, hcc, haa, Int.toNat_natCast, hL]; simp [hx1]
        exact (rcommit_no1 lo b vB vM vs B M k j x1 x2 L va ne dn w h hk hj hL hx1).mono fun ev w' hh => rstepP_no h hc hh
  · cases hL : B.getD k [] with
    | nil =>
      by_cases hm : M.getD j 0 = va
      · have hc : stC B M ⟨4, k, j, va, ne, dn⟩ = 0 := by simp only [stC, hcc, haa, Int.toNat_natCast, hL, hm]; simp
        cases dn with
        | false => exact (rcas_okn lo b vB vM vs B M k j va ne w h hk hj hL hm).mono fun ev w' hh => rstepP_same h hc rfl (by simp [stM]) hh
        | true => exact (rcas_okd lo b vB vM vs B M k j va ne w h hk hj hL hm).mono fun ev w' hh => rstepP_ok hc rfl (by simp [stM]) hh
      · have hc : stC B M ⟨4, k, j, va, ne, dn⟩ = 9 + 1 := by simp only [stC, hcc, haa, Int.toNat_natCast, hL, if_neg hm]; simp
        exact (rcas_no lo b vB vM vs B M k j (M.getD j 0) va ne dn w h hk hj hL rfl hm).mono fun ev w' hh => rstepP_no h hc hh
    | cons x L =>
      have hc : stC B M ⟨4, k, j, va, ne, dn⟩ = 8 + 1 := by simp only [stC, hcc, haa, Int.toNat_natCast, hL]; simp
      exact (rcas_full lo b vB vM vs B M k j x L va ne dn w h hk hj hL).mono fun ev w' hh => rstepP_no h hc hh

/-- Step, at a model whose blocks stand behind a set. -/
theorem rstep_c (lo b : Nat) (F : Nat → Prop) (B : Bufs) (M : List Int) (e : Ev) (w : World) (h : Md tyR w lo b F B M) (hlb : ∀ k, (B.getD k []).length ≤ 100000) :
    Calls Tryd.prog 21 #[.pointer (some ⟨b, 0, none⟩), e.v] w fun ev w' => ev = .returned (.int .i64 (stC B M e)) ∧ ∃ F', Md tyR w' lo b F' (nxB B M e) (nxM B M e) ∧ Mods F w w' ∧ ∀ k, F' k → F k ∨ w.heap.size ≤ k := by
  obtain ⟨vB, vM, vs, hA, rfl⟩ := h
  refine (rstep_at lo b vB vM vs B M e w hA hlb).mono ?_
  rintro ev w' ⟨h1, vs', h2, h3, h4⟩
  exact ⟨h1, _, ⟨vB, vM, vs', h2, rfl⟩, h3, h4⟩

end Go.Proofs.YtamklohnmbgklaaDoor
