/- The memory model: refused, whole; a word or a buffer written. -/
import Derived.Test.YtamklohnmbgklaaDoorTs4
namespace Go.Proofs.YtamklohnmbgklaaDoor
open Go.RowKit Go.Extern.Stop Go.Stop Go.Extern

theorem refused_c (A : Nat → Addr) (lo b : Nat) (vB vM : Value) (vs : List Value) (B : Bufs) (M : List Int) (e : Ev) (w : World) (hs : SentAt w A) (h : MdAt tyP w lo b vB vM vs B M) (hM : 0 < M.length) :
    Calls Tryd.prog 37 #[.pointer (some ⟨b, 0, none⟩), e.v] w fun ev w' => ev = .returned ((errS (stC B M e)).val A) ∧ Below w.heap.size w w' := by
  by_cases hbad : ¬ (1 ≤ e.kind ∧ e.kind ≤ 5) ∨ ¬ okC B e.core ∨ (e.kind ≠ 5 ∧ ¬ okA M e.addr)
  · rw [show stC B M e = 1 by unfold stC; rw [if_pos hbad]]
    exact refused_arg A lo b vB vM vs B M e w hs h hM hbad
  · obtain ⟨kd, co, ad, va, ne, dn⟩ := e
    obtain ⟨h1, h2⟩ : 1 ≤ kd ∧ kd ≤ 5 := Decidable.byContradiction fun hh => hbad (.inl hh)
    obtain ⟨hc1, hc2⟩ : okC B co := Decidable.byContradiction fun hh => hbad (.inr (.inl hh))
    have ha : kd ≠ 5 → okA M ad := fun h5 => Decidable.byContradiction fun hh => hbad (.inr (.inr ⟨h5, hh⟩))
    clear hbad
    obtain ⟨k, rfl⟩ := Int.eq_ofNat_of_zero_le hc1
    have hk : k < B.length := by omega
    have hcc : okC B (k : Int) := ⟨hc1, hc2⟩
    obtain ⟨L, hL⟩ : ∃ L, B.getD k [] = L := ⟨_, rfl⟩
    rcases (show kd = 1 ∨ kd = 2 ∨ kd = 3 ∨ kd = 4 ∨ kd = 5 by omega) with rfl | rfl | rfl | rfl | rfl
    · obtain ⟨ha1, ha2⟩ := ha (by omega)
      obtain ⟨j, rfl⟩ := Int.eq_ofNat_of_zero_le ha1
      have haa : okA M (j : Int) := ⟨ha1, ha2⟩
      by_cases hr : rdS B M k j = va
      · rw [show stC B M ⟨1, k, j, va, ne, dn⟩ = 0 by simp [stC, hcc, haa, hr]]
        exact refused_load_ok A lo b vB vM vs B M k j L va ne dn w hs h hk (by omega) hL hr
      · rw [show stC B M ⟨1, k, j, va, ne, dn⟩ = 10 by simp [stC, hcc, haa, hr]]
        exact refused_load_no A lo b vB vM vs B M k j L (rdS B M k j) va ne dn w hs h hk (by omega) hL rfl hr
    · obtain ⟨ha1, ha2⟩ := ha (by omega)
      obtain ⟨j, rfl⟩ := Int.eq_ofNat_of_zero_le ha1
      have haa : okA M (j : Int) := ⟨ha1, ha2⟩
      rw [show stC B M ⟨2, k, j, va, ne, dn⟩ = 0 by simp [stC, hcc, haa]]
      exact refused_store A lo b vB vM vs B M k j L va ne dn w hs h hk (by omega) hL
    · obtain ⟨ha1, ha2⟩ := ha (by omega)
      obtain ⟨j, rfl⟩ := Int.eq_ofNat_of_zero_le ha1
      have haa : okA M (j : Int) := ⟨ha1, ha2⟩
      cases L with
      | nil =>
        rw [show stC B M ⟨3, k, j, va, ne, dn⟩ = 9 by simp only [stC, hcc, haa, Int.toNat_natCast, hL]; simp]
        exact refused_commit_none A lo b vB vM vs B M k j va ne dn w hs h hk (by omega) hL
      | cons x L =>
        obtain ⟨x1, x2⟩ := x
        by_cases hx1 : x1 = (j : Int)
        · subst hx1
          by_cases hx2 : x2 = va
          · subst hx2
            rw [show stC B M ⟨3, k, j, x2, ne, dn⟩ = 0 by simp only [stC, hcc, haa, Int.toNat_natCast, hL]; simp]
            exact refused_commit_ok A lo b vB vM vs B M k j L x2 ne dn w hs h hk (by omega) hL
          · rw [show stC B M ⟨3, k, j, va, ne, dn⟩ = 10 by simp only [stC, hcc, haa, Int.toNat_natCast, hL]; simp [hx2]]
            exact refused_commit_no2 A lo b vB vM vs B M k j x2 L va ne dn w hs h hk (by omega) hL hx2
        · rw [show stC B M ⟨3, k, j, va, ne, dn⟩ = 10 by simp only [stC, hcc, haa, Int.toNat_natCast, hL]; simp [hx1]]
          exact refused_commit_no1 A lo b vB vM vs B M k j x1 x2 L va ne dn w hs h hk (by omega) hL hx1
    · obtain ⟨ha1, ha2⟩ := ha (by omega)
      obtain ⟨j, rfl⟩ := Int.eq_ofNat_of_zero_le ha1
      have haa : okA M (j : Int) := ⟨ha1, ha2⟩
      cases L with
      | nil =>
        by_cases hm : M.getD j 0 = va
        · rw [show stC B M ⟨4, k, j, va, ne, dn⟩ = 0 by simp only [stC, hcc, haa, Int.toNat_natCast, hL, hm]; simp]
          exact refused_cas_ok A lo b vB vM vs B M k j va ne dn w hs h hk (by omega) hL hm
        · rw [show stC B M ⟨4, k, j, va, ne, dn⟩ = 10 by simp only [stC, hcc, haa, Int.toNat_natCast, hL, hm]; simp]
          exact refused_cas_no A lo b vB vM vs B M k j (M.getD j 0) va ne dn w hs h hk (by omega) hL rfl hm
      | cons x L =>
        rw [show stC B M ⟨4, k, j, va, ne, dn⟩ = 9 by simp only [stC, hcc, haa, Int.toNat_natCast, hL]; simp]
        exact refused_cas_full A lo b vB vM vs B M k j x L va ne dn w hs h hk (by omega) hL
    · cases L with
      | nil =>
        rw [show stC B M ⟨5, k, ad, va, ne, dn⟩ = 0 by simp only [stC, hcc, Int.toNat_natCast, hL]; simp]
        exact refused_fence_ok A lo b vB vM vs B M k 0 ad va ne dn w hs h hk hM hL
      | cons x L =>
        rw [show stC B M ⟨5, k, ad, va, ne, dn⟩ = 9 by simp only [stC, hcc, Int.toNat_natCast, hL]; simp]
        exact refused_fence_full A lo b vB vM vs B M k 0 ad x L va ne dn w hs h hk hM hL

section
variable {T : MdT} {w w1 : World} {lo b : Nat} {vB vM : Value} {vs : List Value} {B : Bufs} {M : List Int}
theorem MdAt.neMB (h : MdAt T w lo b vB vM vs B M) {g : Nat} (hg : vM.ownBlock = some g) : g ≠ b ∧ vB.ownBlock ≠ some g ∧ ∀ (i : Nat) v, vs[i]? = some v → v.ownBlock ≠ some g := by
  obtain ⟨cM, hM⟩ := h.rowM.ty hg
  refine ⟨fun e => ?_, fun e => ?_, fun i v hv e => ?_⟩
  · subst e
    exact ty_ne h.blk hM T.d3
  · obtain ⟨cB, hB⟩ := h.rowB.ty e
    exact ty_ne hB hM T.d5
  · have hi := (List.getElem?_eq_some_iff.1 hv).1
    rw [h.lenV] at hi
    obtain ⟨cW, hW⟩ := (h.rows i v _ hv (List.getElem?_eq_getElem hi)).ty e
    exact ty_ne hW hM T.d6
theorem MdAt.neBB (h : MdAt T w lo b vB vM vs B M) {g : Nat} (hg : vB.ownBlock = some g) : g ≠ b ∧ vM.ownBlock ≠ some g ∧ ∀ (i : Nat) v, vs[i]? = some v → v.ownBlock ≠ some g := by
  obtain ⟨cB, hB⟩ := h.rowB.ty hg
  refine ⟨fun e => ?_, fun e => (h.neMB e).2.1 hg, fun i v hv e => ?_⟩
  · subst e
    exact ty_ne h.blk hB T.d1
  · have hi := (List.getElem?_eq_some_iff.1 hv).1
    rw [h.lenV] at hi
    obtain ⟨cW, hW⟩ := (h.rows i v _ hv (List.getElem?_eq_getElem hi)).ty e
    exact ty_ne hB hW T.d4
theorem MdAt.neVB (h : MdAt T w lo b vB vM vs B M) {i : Nat} {v : Value} (hv : vs[i]? = some v) {g : Nat} (hg : v.ownBlock = some g) : g ≠ b := by
  intro e
  subst e
  have hi := (List.getElem?_eq_some_iff.1 hv).1
  rw [h.lenV] at hi
  obtain ⟨cW, hW⟩ := (h.rows i v _ hv (List.getElem?_eq_getElem hi)).ty hg
  exact ty_ne h.blk hW T.d2

/-- A word written. -/
theorem MdAt.setMem (h : MdAt T w lo b vB vM vs B M) {gM oM cap : Nat} (hv : vM = .slice (some ⟨gM, oM, none⟩) M.length cap) {j : Nat} (hj : j < M.length) (x : Int) :
    MdAt T (w.setCell ⟨gM, oM + j, none⟩ (.int .u32 x)) lo b vB vM vs B (M.set j x) := by
  have hn := h.neMB (g := gM) (by rw [hv]; rfl)
  have oth : ∀ k, k ≠ gM → (w.setCell ⟨gM, oM + j, none⟩ (.int .u32 x)).heap[k]? = w.heap[k]? := fun k hk => Below.heap_setCell _ _ _ _ (by simpa using hk)
  refine ⟨(oth b (fun e => hn.1 e.symm)).trans h.blk, h.lob, h.rowB.keep fun g hg => oth g (fun e => hn.2.1 (e ▸ hg)), ?_, fun i v L hvi hL => (h.rows i v L hvi hL).keep fun g hg => oth g (fun e => hn.2.2 i v hvi (e ▸ hg)), h.dd⟩
  have h2 := h.rowM.set hv j (by omega) (.int .u32 x)
  rw [List.length_set]
  have e : u32V (M.set j x) = (u32V M).set j (.int .u32 x) := by simp [u32V, List.map_set]
  rw [e]
  exact h2

/-- A core's buffer written. -/
theorem MdAt.setBuf (h : MdAt T w lo b vB vM vs B M) {gB oB cap : Nat} (hv : vB = .slice (some ⟨gB, oB, none⟩) B.length cap) {k : Nat} (hk : k < B.length) {vk v' : Value} (hvk : vs[k]? = some vk) {L' : List (Int × Int)}
    (hm : Mods (fun g => vk.ownBlock = some g) w w1) (hrow : winRow w1 lo T.tW 2 v' L'.length (flatW L')) (hown : ∀ g, v'.ownBlock = some g → vk.ownBlock = some g ∨ w.heap.size ≤ g) :
    MdAt T (w1.setCell ⟨gB, oB + k, none⟩ v') lo b vB vM (vs.set k v') (B.set k L') M := by
  have hgB : vB.ownBlock = some gB := by rw [hv]; rfl
  have hnB := h.neBB hgB
  have hl := h.lenV
  have oth : ∀ q, q ≠ gB → (w1.setCell ⟨gB, oB + k, none⟩ v').heap[q]? = w1.heap[q]? := fun q hq => Below.heap_setCell _ _ _ _ (by simpa using hq)
  have hbl := (h.lt b (.inl rfl)).2
  have hrowB : winRow w1 lo T.tS 1 vB B.length vs := h.rowB.keep fun g hg => hm.block g (h.rowB.lt g hg).2 fun e => (h.neBB hg).2.2 k vk hvk e
  refine ⟨?_, h.lob, ?_, h.rowM.keep fun g hg => ?_, fun i v L hvi hL => ?_, fun i j u v g hij hu hvj hg => ?_⟩
  · rw [oth b (fun e => hnB.1 e.symm), hm.block b hbl (fun e => h.neVB hvk e rfl)]
    exact h.blk
  · rw [List.length_set]
    exact hrowB.set hv k (by omega) v'
  · rw [oth g (fun e => (h.neMB hg).2.1 (e ▸ hgB))]
    exact hm.block g (h.rowM.lt g hg).2 fun e => (h.neMB hg).2.2 k vk hvk e
  · by_cases hik : k = i
    · subst hik
      rw [List.getElem?_set_self (by omega)] at hvi hL
      obtain rfl := Option.some.inj hvi
      obtain rfl := Option.some.inj hL
      refine hrow.keep fun g hg => oth g fun e => ?_
      subst e
      obtain ⟨c1, h1⟩ := hrow.ty hg
      obtain ⟨c2, h2⟩ := hrowB.ty hgB
      exact ty_ne h2 h1 T.d4
    · rw [List.getElem?_set_ne hik] at hvi hL
      have hri := h.rows i v L hvi hL
      refine hri.keep fun g hg => ?_
      rw [oth g (fun e => hnB.2.2 i v hvi (e ▸ hg))]
      exact hm.block g (hri.lt g hg).2 fun e => h.dd k i vk v g hik hvk hvi e hg
  · have hlt : ∀ (i : Nat) v g, vs[i]? = some v → v.ownBlock = some g → g < w.heap.size := fun i v g hv hg => (h.lt g (.inr (.inr (.inr ⟨i, v, hv, hg⟩)))).2
    by_cases hki : k = i
    · subst hki
      have hkj : k ≠ j := hij
      rw [List.getElem?_set_self (by omega)] at hu
      rw [List.getElem?_set_ne hkj] at hvj
      obtain rfl := Option.some.inj hu
      intro e
      rcases hown g hg with h1 | h1
      · exact h.dd k j vk v g hij hvk hvj h1 e
      · have := hlt j v g hvj e
        omega
    · rw [List.getElem?_set_ne hki] at hu
      by_cases hkj : k = j
      · subst hkj
        rw [List.getElem?_set_self (by omega)] at hvj
        obtain rfl := Option.some.inj hvj
        intro e
        rcases hown g e with h1 | h1
        · exact h.dd i k u vk g hij hu hvk hg h1
        · have := hlt i u g hu hg
          omega
      · rw [List.getElem?_set_ne hkj] at hvj
        exact h.dd i j u v g hij hu hvj hg
end

/-- What a step leaves: the model behind it; its blocks are the old ones or new. -/
def StepP (T : MdT) (w w' : World) (lo b : Nat) (vB vM : Value) (vs : List Value) (B : Bufs) (M : List Int) : Prop :=
  ∃ vs', MdAt T w' lo b vB vM vs' B M ∧ Mods (mdS b vB vM vs) w w' ∧ ∀ k, mdS b vB vM vs' k → mdS b vB vM vs k ∨ w.heap.size ≤ k
theorem StepP.same {T : MdT} {w w' : World} {lo b : Nat} {vB vM : Value} {vs : List Value} {B : Bufs} {M : List Int} (h : MdAt T w lo b vB vM vs B M) (hb : Below w.heap.size w w') : StepP T w w' lo b vB vM vs B M :=
  ⟨vs, h.below hb, Mods.of_below hb, fun _ h => .inl h⟩
theorem mdS_set {b : Nat} {vB vM : Value} {vs : List Value} {k : Nat} {vk v' : Value} (hvk : vs[k]? = some vk) {n : Nat} (hown : ∀ g, v'.ownBlock = some g → vk.ownBlock = some g ∨ n ≤ g) : ∀ q, mdS b vB vM (vs.set k v') q → mdS b vB vM vs q ∨ n ≤ q := by
  intro q hq
  rcases hq with h | h | h | ⟨i, v, hv, hg⟩
  · exact .inl (.inl h)
  · exact .inl (.inr (.inl h))
  · exact .inl (.inr (.inr (.inl h)))
  · by_cases hik : k = i
    · subst hik
      rw [List.getElem?_set_self (List.getElem?_eq_some_iff.1 hvk).1] at hv
      obtain rfl := Option.some.inj hv
      rcases hown q hg with h1 | h1
      · exact .inl (.inr (.inr (.inr ⟨k, vk, hvk, h1⟩)))
      · exact .inr h1
    · rw [List.getElem?_set_ne hik] at hv
      exact .inl (.inr (.inr (.inr ⟨i, v, hv, hg⟩)))

end Go.Proofs.YtamklohnmbgklaaDoor
