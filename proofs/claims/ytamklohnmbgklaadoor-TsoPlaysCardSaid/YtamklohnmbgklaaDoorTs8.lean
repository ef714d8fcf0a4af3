/- The memory model: Step at any event; Memory. -/
import Derived.Test.YtamklohnmbgklaaDoorTs7
namespace Go.Proofs.YtamklohnmbgklaaDoor
open Go.RowKit Go.Extern.Stop Go.Stop Go.Extern

/-- Behind an event: what it was where it is refused. -/
def nxB (B : Bufs) (M : List Int) (e : Ev) : Bufs := if stC B M e = 0 then stB B e else B
def nxM (B : Bufs) (M : List Int) (e : Ev) : List Int := if stC B M e = 0 then stM M e else M
theorem nxB_length (B : Bufs) (M : List Int) (e : Ev) : (nxB B M e).length = B.length := by
  unfold nxB
  split
  · exact stB_length B e
  · rfl
theorem nxM_length (B : Bufs) (M : List Int) (e : Ev) : (nxM B M e).length = M.length := by
  unfold nxM
  split
  · exact stM_length M e
  · rfl
theorem getD_set' {α : Type} (l : List α) (k j : Nat) (x d : α) : (l.set k x).getD j d = if k = j ∧ j < l.length then x else l.getD j d := by
  rw [List.getD_eq_getElem?_getD, List.getD_eq_getElem?_getD, List.getElem?_set]
  by_cases hk : k = j
  · subst hk
    by_cases hj : k < l.length
    · simp [hj]
    · simp [hj]
  · simp [hk]
theorem nxB_le {B : Bufs} {M : List Int} {e : Ev} {n : Nat} (h : ∀ k, (B.getD k []).length ≤ n) : ∀ k, ((nxB B M e).getD k []).length ≤ n + 1 := by
  intro k
  have hk := h k
  have hc := h e.core.toNat
  unfold nxB stB
  split
  · split
    · rw [getD_set']
      split
      · rw [List.length_append]
        simp only [List.length_cons, List.length_nil]
        omega
      · omega
    · split
      · rw [getD_set']
        split
        · rw [List.length_drop]
          omega
        · omega
      · omega
  · omega

theorem tstep_c (A : Nat → Addr) (lo b : Nat) (F : Nat → Prop) (B : Bufs) (M : List Int) (e : Ev) (w : World) (hs : SentAt w A) (h : Md tyP w lo b F B M) (hM : 0 < M.length) (hlb : ∀ k, (B.getD k []).length ≤ 100000) :
    Calls Tryd.prog 26 #[.pointer (some ⟨b, 0, none⟩), e.v] w fun ev w' => ev = .returned ((stepE B M e).val A) ∧ ∃ F', Md tyP w' lo b F' (nxB B M e) (nxM B M e) ∧ Mods F w w' ∧ ∀ k, F' k → F k ∨ w.heap.size ≤ k := by
  obtain ⟨vB, vM, vs, hA, rfl⟩ := h
  by_cases hc : stC B M e = 0
  · have hE : (stepE B M e).val A = .nilIface := by unfold stepE; rw [if_pos hc]; rfl
    have hB : nxB B M e = stB B e := by unfold nxB; rw [if_pos hc]
    have hMM : nxM B M e = stM M e := by unfold nxM; rw [if_pos hc]
    have fin : ∀ {B' : Bufs} {M' : List Int}, stB B e = B' → stM M e = M' → ∀ {ev : Ending} {w' : World}, (ev = .returned .nilIface ∧ StepP tyP w w' lo b vB vM vs B' M') → ev = .returned ((stepE B M e).val A) ∧ ∃ F', Md tyP w' lo b F' (nxB B M e) (nxM B M e) ∧ Mods (mdS b vB vM vs) w w' ∧ ∀ k, F' k → mdS b vB vM vs k ∨ w.heap.size ≤ k := by
      rintro B' M' rfl rfl ev w' ⟨h1, vs', h2, h3, h4⟩
      rw [hE, hB, hMM]
      exact ⟨h1, _, ⟨vB, vM, vs', h2, rfl⟩, h3, h4⟩
    obtain ⟨kd, co, ad, va, ne, dn⟩ := e
    have hok : ¬ (¬ (1 ≤ kd ∧ kd ≤ 5) ∨ ¬ okC B co ∨ (kd ≠ 5 ∧ ¬ okA M ad)) := fun hh => by
      unfold stC at hc
      rw [if_pos hh] at hc
      cases hc
    obtain ⟨h1, h2⟩ : 1 ≤ kd ∧ kd ≤ 5 := Decidable.byContradiction fun hh => hok (.inl hh)
    have hcc : okC B co := Decidable.byContradiction fun hh => hok (.inr (.inl hh))
    have ha : kd ≠ 5 → okA M ad := fun h5 => Decidable.byContradiction fun hh => hok (.inr (.inr ⟨h5, hh⟩))
    clear hok
    obtain ⟨hc1, hc2⟩ := hcc
    obtain ⟨k, rfl⟩ := Int.eq_ofNat_of_zero_le hc1
    have hk : k < B.length := by omega
    rcases (show kd = 1 ∨ kd = 2 ∨ kd = 3 ∨ kd = 4 ∨ kd = 5 by omega) with rfl | rfl | rfl | rfl | rfl
    · obtain ⟨ha1, ha2⟩ := ha (by omega)
      obtain ⟨j, rfl⟩ := Int.eq_ofNat_of_zero_le ha1
      exact (tstep_load A lo b vB vM vs B M k j va ne dn w hs hA hM hk hc).mono fun ev w' hh => fin (by simp [stB]) (by simp [stM]) hh
    · obtain ⟨ha1, ha2⟩ := ha (by omega)
      obtain ⟨j, rfl⟩ := Int.eq_ofNat_of_zero_le ha1
      exact (tstep_store A lo b vB vM vs B M k j va ne dn w hs hA hM hk (hlb k) hc).mono fun ev w' hh => fin (by simp [stB]) (by simp [stM]) hh
    · obtain ⟨ha1, ha2⟩ := ha (by omega)
      obtain ⟨j, rfl⟩ := Int.eq_ofNat_of_zero_le ha1
      have hL : ∃ L, B.getD k [] = ((j : Int), va) :: L := by
        have hh := hc
        unfold stC at hh
        rw [if_neg (by simp only [okC, okA]; omega), if_neg (by simp), if_pos rfl] at hh
        simp only [Int.toNat_natCast] at hh
        cases hL : B.getD k [] with
        | nil => rw [hL] at hh; cases hh
        | cons x L =>
          rw [hL] at hh
          simp only at hh
          split at hh
          · rename_i hx
            exact ⟨L, by rw [hx]⟩
          · cases hh
      obtain ⟨L, hL⟩ := hL
      exact (tstep_commit A lo b vB vM vs B M k j va ne dn w hs hA hM hk L hL (by omega) (hlb k) hc).mono fun ev w' hh => fin (by simp only [stB, Int.toNat_natCast, hL]; simp) (by simp [stM]) hh
    · obtain ⟨ha1, ha2⟩ := ha (by omega)
      obtain ⟨j, rfl⟩ := Int.eq_ofNat_of_zero_le ha1
      cases dn with
      | false => exact (tstep_casn A lo b vB vM vs B M k j va ne w hs hA hM hk hc).mono fun ev w' hh => fin (by simp [stB]) (by simp [stM]) hh
      | true => exact (tstep_casd A lo b vB vM vs B M k j va ne w hs hA hM hk (by omega) hc).mono fun ev w' hh => fin (by simp [stB]) (by simp [stM]) hh
    · exact (tstep_fence A lo b vB vM vs B M k ad va ne dn w hs hA hM hk hc).mono fun ev w' hh => fin (by simp [stB]) (by simp [stM]) hh
  · rw [show nxB B M e = B by unfold nxB; rw [if_neg hc], show nxM B M e = M by unfold nxM; rw [if_neg hc]]
    exact (tstep_no A lo b vB vM vs B M e w hs hA hM hc).mono fun ev w' ⟨h1, h2⟩ => ⟨h1, _, ⟨vB, vM, vs, hA.below h2, rfl⟩, Mods.of_below h2, fun _ h => .inl h⟩

set_option maxHeartbeats 1000000 in
theorem tmem_c (lo b : Nat) (F : Nat → Prop) (B : Bufs) (M : List Int) (w : World) (h : Md tyP w lo b F B M) (hlen : M.length ≤ 100000) :
    Calls Tryd.prog 27 #[.pointer (some ⟨b, 0, none⟩)] w fun ev w' => ∃ u, ev = .returned u ∧ winRow w' w.heap.size 22 1 u M.length (u32V M) ∧ Below w.heap.size w w' := by
  obtain ⟨vB, vM, vs, hA, rfl⟩ := h
  have c1 := cell_of hA.blk 1
  simp only [List.getElem?_toArray, List.getElem?_cons_zero, List.getElem?_cons_succ] at c1
  have HSL := Lib.hid hA.rowM.slc
  obtain ⟨aM, kM, hvM⟩ := hA.rowM.len
  rw [hvM] at c1 HSL
  clear hvM hA
  go_enter Tryd.func27, Tryd.ntmps27
  go_wp2_with fail
  refine (cloneU_c _ M w HSL.out hlen).mono ?_
  rintro ev w' ⟨u, rfl, hu, hb⟩
  obtain ⟨ad2, cap2, rfl⟩ := hu.len
  go_wp2_with fail
  go_ret
  exact ⟨_, rfl, hu, hb⟩

/-- The readings, at a model whose blocks stand behind a set. -/
theorem trd_c (lo b : Nat) (F : Nat → Prop) (B : Bufs) (M : List Int) (c a : Int) (w : World) (h : Md tyP w lo b F B M) :
    Calls Tryd.prog 28 #[.pointer (some ⟨b, 0, none⟩), .int .i64 c, .int .i64 a] w fun ev w' => ev = .returned (.tuple #[.int .u32 (if okC B c ∧ okA M a then rdS B M c a else 0), .bool (decide (okC B c ∧ okA M a))]) ∧ w = w' := by
  obtain ⟨vB, vM, vs, hA, _⟩ := h
  exact tread_c lo b vB vM vs B M c a w hA
theorem twt_c (lo b : Nat) (F : Nat → Prop) (B : Bufs) (M : List Int) (c : Int) (w : World) (h : Md tyP w lo b F B M) (hM : 0 < M.length) :
    Calls Tryd.prog 29 #[.pointer (some ⟨b, 0, none⟩), .int .i64 c] w fun ev w' => ev = .returned (.int .i64 (if okC B c then (B.getD c.toNat []).length else 0 : Nat)) ∧ w = w' := by
  obtain ⟨vB, vM, vs, hA, _⟩ := h
  exact twait_c lo b vB vM vs B M c w hA hM

end Go.Proofs.YtamklohnmbgklaaDoor
