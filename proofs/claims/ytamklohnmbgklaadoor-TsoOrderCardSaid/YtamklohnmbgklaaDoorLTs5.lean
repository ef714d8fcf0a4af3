/- TsoOrder: true; no condition but what a start gives. -/
import Derived.Test.YtamklohnmbgklaaDoorLTs4
import Derived.Test.YtamklohnmbgklaaDoorIntsU
namespace Go.Proofs.YtamklohnmbgklaaDoor
open Go.RowKit Go.Extern.Stop Go.Stop Go.Extern

def Halt (p : Prop) : Prop := p
theorem halt {p : Prop} (h : Halt p) : p := h
/-- A window less its first element, of whatever size. -/
theorem winRow.tailN {w : World} {base : Nat} {e : TypeId} {size g off m cap : Nat} {xs : List Value} (h : winRow w base e size (.slice (some ⟨g, off, none⟩) (m + 1) cap) (m + 1) xs) : winRow w base e size (.slice (some ⟨g, off + size, none⟩) m (cap - 1)) m (xs.drop size) := by
  obtain ⟨h1, h2⟩ := h
  refine ⟨by rw [List.length_drop, h1, Nat.add_mul]; omega, ?_⟩
  rcases h2 with ⟨h2, _⟩ | ⟨g', off', cap', cur, hv, hb, hg, hn, hm, hs, hx⟩
  · cases h2
  · simp only [Value.slice.injEq, Option.some.injEq, Addr.mk.injEq] at hv
    obtain ⟨⟨rfl, rfl, _⟩, _, rfl⟩ := hv
    obtain ⟨c, rfl⟩ : ∃ c, cap = c + 1 := ⟨cap - 1, by omega⟩
    refine .inr ⟨g, off + size, c, cur, rfl, hb, hg, by omega, by omega, by rw [Nat.add_mul] at hs; omega, ?_⟩
    have := congrArg (List.drop size) hx
    rw [List.drop_take, List.drop_drop] at this
    rw [show m * size = (m + 1) * size - size by rw [Nat.add_mul]; omega]
    exact this
theorem winRow.noneN {w : World} {base : Nat} {e : TypeId} {size g off n cap : Nat} {xs : List Value} (h : winRow w base e size (.slice (some ⟨g, off, none⟩) n cap) n xs) : winRow w base e size (.slice (some ⟨g, off, none⟩) 0 0) 0 [] := by
  rcases h.2 with ⟨h2, _⟩ | ⟨g', off', cap', cur, hv', hb, hg, hn, hm, hsz, hx⟩
  · cases h2
  · simp only [Value.slice.injEq, Option.some.injEq, Addr.mk.injEq] at hv'
    obtain ⟨⟨rfl, rfl, _⟩, _, rfl⟩ := hv'
    exact ⟨by simp, .inr ⟨g, off, 0, cur, rfl, hb, hg, Nat.le_refl _, Nat.zero_le _, by omega, by simp⟩⟩

/-- The law's own list: each store's commit. -/
def cmtE (L : List (Int × Int)) : List Ev := L.map fun x => ⟨3, 0, x.1, x.2, 0, false⟩
theorem cmtE_length (L : List (Int × Int)) : (cmtE L).length = L.length := by simp [cmtE]
theorem cmtE_snoc (L : List (Int × Int)) (a x : Int) : flatE (cmtE (L ++ [(a, x)])) = flatE (cmtE L) ++ flatE [⟨3, 0, a, x, 0, false⟩] := by rw [cmtE, List.map_append, flatE_append]; rfl
theorem cmtE_drop (a x : Int) (L : List (Int × Int)) : (flatE (cmtE ((a, x) :: L))).drop 6 = flatE (cmtE L) := rfl
theorem cmtE_at {L : List (Int × Int)} {m : Nat} {y : Int × Int} (h : L[m]? = some y) : (cmtE L)[m]? = some ⟨3, 0, y.1, y.2, 0, false⟩ := by simp [cmtE, h]

theorem two_le {L : List (Int × Int)} {n : Nat} (h : L.length ≤ n) : ∀ k, (([L, []] : Bufs).getD k []).length ≤ n := by
  intro k
  match k with
  | 0 => exact h
  | 1 => simp
  | k + 2 => simp
theorem two_store {L : List (Int × Int)} {M : List Int} {a : Nat} (ha : a < M.length) (v : Int) : stC [L, []] M ⟨2, 0, a, v, 0, false⟩ = 0 ∧ stB [L, []] ⟨2, 0, a, v, 0, false⟩ = [L ++ [((a : Int), v)], []] ∧ stM M ⟨2, 0, a, v, 0, false⟩ = M := by
  have h1 : okC [L, []] 0 := ⟨by omega, by simp⟩
  refine ⟨by simp [stC, h1, okA_of ha], ?_, rfl⟩
  simp [stB]
theorem two_commit {L : List (Int × Int)} {M : List Int} {a : Nat} (ha : a < M.length) (v : Int) : stC [((a : Int), v) :: L, []] M ⟨3, 0, a, v, 0, false⟩ = 0 ∧ stB [((a : Int), v) :: L, []] ⟨3, 0, a, v, 0, false⟩ = [L, []] ∧ stM M ⟨3, 0, a, v, 0, false⟩ = M.set a v := by
  have h1 : okC [((a : Int), v) :: L, []] 0 := ⟨by omega, by simp⟩
  refine ⟨by simp [stC, h1, okA_of ha], ?_, ?_⟩
  · simp [stB]
  · simp [stM]
theorem two_rd1 (L : List (Int × Int)) (M : List Int) (a : Nat) : rdS [L, []] M 1 a = M.getD a 0 := rfl
theorem two_rd0 (L : List (Int × Int)) (M : List Int) (a : Nat) : rdS [L, []] M 0 a = (fwdF L a).getD (M.getD a 0) := rfl

/-- Where the model, the law's list and its memory stand. -/
structure OrT (w wr : World) (b : Nat) (F : Nat → Prop) (s : Value) (bb : Nat) (LB : List (Int × Int)) (MB : List Int) (L : List (Int × Int)) (M : List Int) : Prop where
  md : Md tyP wr w.heap.size b F [LB, []] MB
  row : winRow wr w.heap.size 24 6 s L.length (flatE (cmtE L))
  arr : wr.heap[bb]? = some (.cells (u32V M).toArray 57 (0, 0))
  four : M.length = 4
  fourB : MB.length = 4
  adr : ∀ x ∈ L, ∃ k : Nat, k < 4 ∧ x.1 = (k : Int)
  lo : w.heap.size ≤ bb
  dF : ¬ F bb
  ds : ∀ q, s.ownBlock = some q → ¬ F q ∧ q ≠ bb
  bel : Below w.heap.size w wr
section
variable {w wr : World} {b : Nat} {F : Nat → Prop} {s : Value} {bb : Nat} {LB : List (Int × Int)} {MB : List Int} {L : List (Int × Int)} {M : List Int}
theorem OrT.lt (h : OrT w wr b F s bb LB MB L M) : bb < wr.heap.size := (Array.getElem?_eq_some_iff.1 h.arr).1
theorem OrT.below {wq : World} (h : OrT w wr b F s bb LB MB L M) (hb : Below wr.heap.size wr wq) : OrT w wq b F s bb LB MB L M :=
  ⟨h.md.below hb, h.row.below hb, by rw [hb.block bb h.lt]; exact h.arr, h.four, h.fourB, h.adr, h.lo, h.dF, h.ds, h.bel.trans (hb.mono h.bel.size)⟩
theorem OrT.step {w3 : World} {F' : Nat → Prop} {LB' : List (Int × Int)} {MB' : List Int} (h : OrT w wr b F s bb LB MB L M) (hF : Md tyP w3 w.heap.size b F' [LB', []] MB') (hB : Below w.heap.size w w3) (hM : Mods F wr w3) (hO : ∀ k, F' k → F k ∨ wr.heap.size ≤ k) (h4 : MB'.length = 4) : OrT w w3 b F' s bb LB' MB' L M :=
  ⟨hF, h.row.keep fun q hq => hM.block q (h.row.lt q hq).2 (h.ds q hq).1, by rw [hM.block bb h.lt h.dF]; exact h.arr, h.four, h4, h.adr, h.lo,
   fun hh => (hO bb hh).elim h.dF fun h2 => by have := h.lt; omega, fun q hq => ⟨fun hh => (hO q hh).elim (h.ds q hq).1 fun h2 => by have := (h.row.lt q hq).2; omega, (h.ds q hq).2⟩, hB⟩
theorem OrT.more {wq wz : World} {g off cap : Nat} {a : Nat} {x : Int} (h : OrT w wr b F s bb LB MB L M) (ha : a < 4) (hall : Below wr.heap.size wr wq) (hrow : winRow wz w.heap.size 24 6 (.slice (some ⟨g, off, none⟩) (L.length + 1) cap) (L.length + 1) (flatE (cmtE L) ++ flatE [⟨3, 0, a, x, 0, false⟩]))
    (hgrow : wq.grownBy wz s.ownBlock) (hat : s.ownBlock = some g ∨ g = wq.heap.size) : OrT w wz b F (.slice (some ⟨g, off, none⟩) (L ++ [((a : Int), x)]).length cap) bb LB MB (L ++ [((a : Int), x)]) M := by
  have h2 := h.below hall
  have hM : Mods (fun k => s.ownBlock = some k) wq wz := Mods.grown hgrow fun k hk => hk
  have hlen : (L ++ [((a : Int), x)]).length = L.length + 1 := by simp
  refine ⟨h2.md.keep hM fun q hq hk => (h.ds q hk).1 hq, by rw [hlen, cmtE_snoc]; exact hrow, ?_, h.four, h.fourB, fun y hy => ?_, h.lo, h.dF, fun q hq => ?_, ?_⟩
  · rw [hM.block bb h2.lt fun hk => (h.ds bb hk).2 rfl]
    exact h2.arr
  · rcases List.mem_append.1 hy with hy | hy
    · exact h.adr y hy
    · rw [List.mem_singleton] at hy
      subst hy
      exact ⟨a, ha, rfl⟩
  · simp only [Value.ownBlock, Option.some.injEq] at hq
    subst hq
    rcases hat with h1 | h1
    · exact h.ds _ h1
    · subst h1
      exact ⟨fun hh => by have := (h2.md.lt _ hh).2; omega, fun e => by have := h2.lt; omega⟩
  · exact h2.bel.grown hgrow h2.bel.size fun k hk => (h.row.lt k hk).1
theorem OrT.put {wz : World} {k : Nat} {x : Int} (h : OrT w wr b F s bb LB MB L M) (hM : Mods (fun q => q = bb) wr wz) (hX : wz.heap[bb]? = some (.cells ((u32V M).toArray.setIfInBounds k (.int .u32 x)) 57 (0, 0))) : OrT w wz b F s bb LB MB L (M.set k x) :=
  ⟨h.md.keep hM fun q hq e => h.dF (e ▸ hq), h.row.keep fun q hq => hM.block q (h.row.lt q hq).2 (h.ds q hq).2, by rw [hX]; simp [u32V, List.map_set], by rw [List.length_set]; exact h.four, h.fourB, h.adr, h.lo, h.dF, h.ds, h.bel.trans (hM.below h.bel.size fun q hq => by rw [hq]; exact h.lo)⟩
theorem OrT.tail {g off cap : Nat} {y : Int × Int} (h : OrT w wr b F (.slice (some ⟨g, off, none⟩) (L.length + 1) cap) bb LB MB (y :: L) M) : OrT w wr b F (.slice (some ⟨g, off + 6, none⟩) L.length (cap - 1)) bb LB MB L M :=
  ⟨h.md, h.row.tailN, h.arr, h.four, h.fourB, fun x hx => h.adr x (List.mem_cons_of_mem _ hx), h.lo, h.dF, h.ds, h.bel⟩
theorem OrT.none {g off cap : Nat} {y : Int × Int} (h : OrT w wr b F (.slice (some ⟨g, off, none⟩) (L.length + 1) cap) bb LB MB (y :: L) M) (hL : L.length = 0) : OrT w wr b F (.slice (some ⟨g, off, none⟩) L.length 0) bb LB MB L M := by
  obtain rfl := List.eq_nil_of_length_eq_zero hL
  exact ⟨h.md, h.row.noneN, h.arr, h.four, h.fourB, fun _ hx => absurd hx List.not_mem_nil, h.lo, h.dF, h.ds, h.bel⟩
end

set_option maxRecDepth 100000 in
set_option maxHeartbeats 16000000 in
theorem tsoOrder (A : Nat → Addr) (v1 : Value) (n1 : Nat) (g : Nat → Int) (v2 : Value) (n2 : Nat) (gu : Nat → Int) (v3 : Value) (n3 : Nat) (gb : Nat → Bool) (w : World) (hs : SentAt w A) (h1 : IntsAt .i64 w v1 n1 g) (h2 : IntsAt .u32 w v2 n2 gu) (h3 : BoolsAt w v3 n3 gb) :
    Calls Tryd.prog 7 #[v1, v2, v3] w (TruePost w) := by
  obtain ⟨i0, hi0, hi1⟩ := Option.map_eq_some_iff.1 nInfoE
  simp only [Prod.mk.injEq] at hi1
  obtain ⟨hz0, hz1, hz2⟩ := hi1
  have HI := Lib.hid hi0
  have HZ0 := Lib.hid hz0
  have HZ1 := Lib.hid hz1
  have HZ2 := Lib.hid hz2
  have HS := Lib.hid hs
  obtain ⟨p1, c1, rfl, hel⟩ := h1.form
  have HEL := Lib.hid hel
  have HNUM := Lib.hid h1.num
  obtain ⟨p2, c2, rfl, hel2⟩ := h2.form
  have HEL2 := Lib.hid hel2
  obtain ⟨p3, c3, rfl, hel3⟩ := h3.form
  have HEL3 := Lib.hid hel3
  clear hs h1 hel h2 hel2 h3 hel3 hi0 hz0 hz1 hz2
  go_enter Tryd.func7, Tryd.ntmps7
  go_wp2_with fail
  refine (tnew_ok 2 4 w (by omega) (by omega) (by omega) (by omega)).mono ?_
  rintro ev w1 ⟨b, rfl, ⟨F, hF⟩, hb1⟩
  have HF := Lib.hid hF
  have HB1 := Lib.hid hb1
  clear hF hb1
  go_wp2_with fail
  have hX := heap_alloc_new w1 (.cells #[.int .u32 0, .int .u32 0, .int .u32 0, .int .u32 0] 57)
  have hba : Below w1.heap.size w1 (w1.alloc (.cells #[.int .u32 0, .int .u32 0, .int .u32 0, .int .u32 0] 57)) := (Below.refl _ _).alloc (Nat.le_refl _) _
  obtain ⟨s, hs⟩ : ∃ s, s = w1.heap.size := ⟨_, rfl⟩
  have HO := Lib.hid (show OrT w (w1.alloc (.cells #[.int .u32 0, .int .u32 0, .int .u32 0, .int .u32 0] 57)) b F (.slice none 0 0) s [] [0, 0, 0, 0] [] [0, 0, 0, 0] from ⟨HF.out.below hba, winRow_nil .., by rw [hs]; exact hX, rfl, rfl, fun _ hx => absurd hx List.not_mem_nil, by rw [hs]; exact HB1.out.size, fun hh => by have := (HF.out.lt _ hh).2; omega, fun q hq => by simp [Value.ownBlock] at hq, HB1.out.trans (hba.mono HB1.out.size)⟩)
  rw [← hs]
  generalize w1.alloc (.cells #[.int .u32 0, .int .u32 0, .int .u32 0, .int .u32 0] 57) = wa at *
  clear hX hba hs HB1 HF
  go_loopw [9, 11] (fun s9 s11 wr => ∃ (i : Nat) (F : Nat → Prop) (L : List (Int × Int)) (M : List Int), i ≤ 30 ∧ L.length ≤ i ∧ s11 = .int .i64 i ∧ OrT w wr b F s9 s L M L M) (fun _ s11 _ => 30 - (intOf s11).toNat)
  case atStart => exact ⟨0, F, [], [0, 0, 0, 0], by omega, Nat.le_refl _, rfl, HO.out⟩
  case round =>
    clear HO
    obtain ⟨i, F, L, M, hi, hLi, rfl, hO⟩ := hrel
    have HO := Lib.hid hO
    have HLI := Lib.hid hLi
    clear hO hLi
    by_cases hi1 : i < n1
    · have g3 : decide (i < n1) = true := by simp; omega
      by_cases hi2 : i < n2
      · have g4 : decide (i < n2) = true := by simp; omega
        by_cases hi30 : i < 30
        · have g5 : decide ((i : Int) < 30) = true := by simp; omega
          obtain ⟨ba, oa, rfl, hba, hca⟩ := HEL.out i hi1
          obtain ⟨bv, ov, rfl, hbv, hcv⟩ := HEL2.out i hi2
          have HBD := Lib.hid (Go.bounds_i64 (HNUM.out i hi1))
          have e1 := (HO.out.bel.cell (p := ⟨ba, oa + i, none⟩) hba).trans hca
          have HCV := Lib.hid (And.intro hbv hcv)
          generalize gu i = x at *
          have hwi := wiF_b (n := g i) (lo := 0) (hi := 3) (by omega)
          obtain ⟨a, hk⟩ : ∃ a : Nat, wiF (g i) 0 3 = (a : Int) := ⟨(wiF (g i) 0 3).toNat, by omega⟩
          have HA := Lib.hid hk
          have HA4 := Lib.hid (show a < 4 by omega)
          obtain ⟨ad, cp, rfl⟩ := HO.out.row.len
          clear hba hca hbv hcv hwi hk
          go_wp2_with fail
          refine (Within_b (g i) 0 3 _ (by omega) (by omega) (by omega) HBD.out.1 HBD.out.2).mono ?_
          rintro ev w' ⟨rfl, hww⟩
          obtain rfl := hww
          rw [HA.out]
          clear HA HBD e1
          have e2 := (HO.out.bel.cell (p := ⟨bv, ov + i, none⟩) HCV.out.1).trans HCV.out.2
          go_wp2_with fail
          refine (ev_c 2 0 a x wr).mono ?_
          rintro ev w2 ⟨rfl, hb⟩
          have HO2 := Lib.hid (HO.out.below hb)
          simp only [Ev.v]
          clear hb e2 HO
          go_wp2_with fail
          refine (tm_ok A w b F [L, []] M ⟨2, 0, a, x, 0, false⟩ w2 HS.out HO2.out.bel HO2.out.md (by rw [HO2.out.four]; omega) (two_le (n := 100000) (by have := HLI.out; omega)) (two_store (by rw [HO2.out.four]; exact HA4.out) x).1 (two_store (by rw [HO2.out.four]; exact HA4.out) x).2.1 (two_store (L := L) (by rw [HO2.out.four]; exact HA4.out) x).2.2).mono ?_
          rintro ev w3 ⟨rfl, F3, hF3, hB3, hM3, hO3⟩
          have HO3 := Lib.hid (HO2.out.step hF3 hB3 hM3 hO3 HO2.out.four)
          have e2 := (HO3.out.bel.cell (p := ⟨bv, ov + i, none⟩) HCV.out.1).trans HCV.out.2
          clear hF3 hB3 hM3 hO3 HO2
          go_wp2_with fail
          refine (ev_c 3 0 a x w3).mono ?_
          rintro ev w4 ⟨rfl, hb⟩
          have HO4 := Lib.hid (HO3.out.below hb)
          simp only [Ev.v]
          clear hb e2 HO3
          go_wp2_with (at_builtin; refine wpList_append_win _ rfl _ _ 26 rfl w.heap.size 24 i0 _ 6 40 Tryd.underlying26 HI.out HZ0.out HZ1.out HZ2.out rfl (by decide) _ _ _ rfl (HO4.out.row.below ((Below.refl _ _).alloc (Nat.le_refl _) _)) ⟨w4.heap.size, 0, none⟩ 1 1 (flatE [⟨3, 0, a, x, 0, false⟩]) rfl rfl (by exact cells_new w4 [_, _, _, _, _, _] _) (flatE_one _) (by omega) (by have := HLI.out; unfold maxLen; omega) (by have := HLI.out; omega) (by have := HO4.out.bel.size; simp; omega) ?_; intro g8 off8 cap8 w8 hrow8 hgrow8 hat8 hlt8; refine halt ?_)
          have HN := Lib.hid (HO4.out.more HA4.out ((Below.refl _ _).alloc (Nat.le_refl _) _) hrow8 hgrow8 hat8)
          have HLE := Lib.hid (show (L ++ [((a : Int), x)]).length ≤ i + 1 by have := HLI.out; simp; omega)
          have HPO := Lib.hid (show 0 < (L ++ [((a : Int), x)]).length by simp)
          rw [show Value.slice (some ⟨g8, off8, none⟩) (L.length + 1) cap8 = Value.slice (some ⟨g8, off8, none⟩) (L ++ [((a : Int), x)]).length cap8 by simp]
          clear hrow8 hgrow8 hat8 hlt8 HO4
          generalize L ++ [((a : Int), x)] = L3 at *
          unfold Halt
          by_cases hi3 : i < n3
          · have g6 : decide (i < n3) = true := by simp; omega
            obtain ⟨bf, of, rfl, hbf, hcf⟩ := HEL3.out i hi3
            have e3 := (HN.out.bel.cell (p := ⟨bf, of + i, none⟩) hbf).trans hcf
            clear hbf hcf
            cases hg : gb i with
            | true =>
              rw [hg] at e3
              clear hg
              obtain ⟨y, L4, rfl⟩ : ∃ y L4, L3 = y :: L4 := by
                cases L3 with
                | nil => exact absurd HPO.out (by simp)
                | cons y L4 => exact ⟨y, L4, rfl⟩
              obtain ⟨y1, y2⟩ := y
              obtain ⟨k1, hk1, hy1⟩ := HN.out.adr _ List.mem_cons_self
              simp only at hy1
              subst hy1
              have HK1 := Lib.hid hk1
              rw [List.length_cons] at HLE ⊢
              have hn := HN.out
              rw [List.length_cons] at hn
              have HN := Lib.hid hn
              obtain ⟨gy, oy, cy, he, hcap, _, hgy, hcy⟩ := HN.out.row.form (by simp)
              have HCAP := Lib.hid hcap
              simp only [Value.slice.injEq, Option.some.injEq, Addr.mk.injEq] at he
              obtain ⟨⟨rfl, rfl, _⟩, _, rfl⟩ := he
              have q0 := hcy 0 (.int .i64 3) rfl
              have q1 := hcy 1 (.int .i64 0) rfl
              have q2 := hcy 2 (.int .i64 k1) rfl
              have q3 := hcy 3 (.int .u32 y2) rfl
              have q4 := hcy 4 (.int .u32 0) rfl
              have q5 := hcy 5 (.bool false) rfl
              rw [Nat.add_zero] at q0
              obtain ⟨nl, hnl⟩ : ∃ nl, nl = L4.length + 1 := ⟨_, rfl⟩
              rw [← hnl]
              have hn0 : 0 < nl := by omega
              have HNL := Lib.hid hnl
              clear hcy hk1 hn hcap hnl
              go_wp2_with fail
              have hld : k1 < M.length := by rw [HN.out.four]; exact HK1.out
              refine (tm_ok A w b F3 [((k1 : Int), y2) :: L4, []] M ⟨3, 0, k1, y2, 0, false⟩ _ HS.out HN.out.bel HN.out.md (by omega) (two_le (n := 100000) (by have := HLE.out; rw [List.length_cons]; omega)) (two_commit hld y2).1 (two_commit hld y2).2.1 (two_commit (L := L4) hld y2).2.2).mono ?_
              rintro ev w9 ⟨rfl, F9, hF9, hB9, hM9, hO9⟩
              have HO9 := Lib.hid (HN.out.step hF9 hB9 hM9 hO9 (by rw [List.length_set]; exact HN.out.four))
              have q2 := (hM9.cell (p := ⟨g8, off8 + 2, none⟩) hgy (HN.out.ds _ rfl).1).trans q2
              have q3 := (hM9.cell (p := ⟨g8, off8 + 3, none⟩) hgy (HN.out.ds _ rfl).1).trans q3
              have hgy9 := Nat.lt_of_lt_of_le hgy hM9.size
              have hgne : g8 ≠ s := (HN.out.ds _ rfl).2
              clear hF9 hB9 hM9 hO9 HN q0 q1 q4 q5 hgy
              go_wp2_with fail
              refine wp_region_lexA ⟨[], []⟩ (fun x => Mods (fun q => q = s) w9 x) (by kernel_rfl) (by kernel_rfl) (Mods.refl _ _).drew ?_
              intro S hto hof hne
              have x2 : ∀ z : Wd S, z.w.cell? ⟨g8, off8 + 2, none⟩ = some (.int .i64 k1) := fun z => ((hto z).cell (p := ⟨g8, off8 + 2, none⟩) hgy9 hgne).trans q2
              have x3 : ∀ z : Wd S, z.w.cell? ⟨g8, off8 + 3, none⟩ = some (.int .u32 y2) := fun z => ((hto z).cell (p := ⟨g8, off8 + 3, none⟩) hgy9 hgne).trans q3
              have Hof := Lib.hid hof
              have hk4 : (k1 : Int) < 4 := by have := HK1.out; omega
              have h9d : Below w9.heap.size w9 w9.drew := (Below.refl _ _).drew
              have HO9D := Lib.hid (HO9.out.below h9d)
              have HK4 := Lib.hid hk4
              clear hto hof q2 q3 hgy9 hgne h9d
              refine lexW_light 9 (by kernel_rfl) ?_
              simp only [List.take_succ_cons, List.take_zero, List.drop_succ_cons, List.drop_zero]
              repeat (first | go_big_quiet_skip | (go_big_quiet_want; go_big_quiet_op; go_big_quiet_on))
              refine wpQuiet_nil ?_
              generalize hWD : w9.drew = wD at *
              have HWD := Lib.hid hWD
              clear hWD
              have z1 := cell_of HO9D.out.arr k1
              have z2 := frozen_of HO9D.out.arr k1
              have hsl : s < wD.heap.size := HO9D.out.lt
              have hlr : k1 < (u32V M).length := by rw [u32V_length]; exact hld
              rw [List.getElem?_toArray, List.getElem?_eq_getElem hlr] at z1
              obtain ⟨x9, hx9⟩ : ∃ x9, (u32V M)[k1] = x9 := ⟨_, rfl⟩
              rw [hx9] at z1
              clear hlr hx9
              refine lexW_heavy (by kernel_rfl) ?_
              go_wp2_with fail
              have hXS := heap_setCell_at (k := k1) HO9D.out.arr (.int .u32 y2)
              have hMS := (Mods.refl (fun q => q = s) wD).setCell (p := ⟨s, k1, none⟩) (show s = s from rfl) (.int .u32 y2)
              have hM9 : Mods (fun q => q = s) w9 wD := by rw [← HWD.out]; exact (Mods.refl _ _).drew
              refine lexQ_more (Hof.out _ (hM9.trans hMS fun _ _ hh => hh)) ?_
              refine lexW_done ?_
              have HOP := Lib.hid (HO9D.out.put hMS hXS)
              clear x2 x3 hXS hMS hM9 HO9D HO9 z1 z2 hsl
              generalize wD.setCell ⟨s, k1, none⟩ (.int .u32 y2) = wz at *
              have hle4 := HLE.out
              have HLE4 := Lib.hid (show L4.length ≤ i + 1 by omega)
              have hcap : nl ≤ cap8 := by rw [HNL.out]; exact HCAP.out
              clear hle4
              by_cases hcap1 : cap8 = 1
              · subst hcap1
                have hnl := HNL.out
                subst hnl
                have hL40 : L4.length = 0 := by omega
                have HT := Lib.hid (HOP.out.none hL40)
                clear HOP
                obtain ⟨m0, hm0⟩ : ∃ m0, (M.set k1 y2).getD a 0 = m0 := ⟨_, rfl⟩
                have HM0 := Lib.hid hm0
                have a0 := cell_of HT.out.arr a
                rw [List.getElem?_toArray, u32V_at (by rw [HT.out.four]; exact HA4.out), hm0] at a0
                have ha4 : (a : Int) < 4 := by have := HA4.out; omega
                have g7 : (m0 != m0) = false := by simp
                clear hm0
                go_wp2_with fail
                refine (trd_c w.heap.size b F9 [L4, []] (M.set k1 y2) 1 a _ HT.out.md).mono ?_
                rintro ev w' ⟨rfl, hww⟩
                obtain rfl := hww
                have HK1 := Lib.hid (show okC [L4, []] 1 ∧ okA (M.set k1 y2) (a : Int) from ⟨⟨by omega, by simp⟩, okA_of (by rw [HT.out.four]; exact HA4.out)⟩)
                rw [if_pos HK1.out, decide_eq_true HK1.out, two_rd1, HM0.out]
                clear HK1
                go_wp2_with fail
                go_loopw [15, 116] (fun s15 s116 wq => ∃ m : Nat, m ≤ L4.length ∧ s116 = .int .i64 m ∧ s15 = .int .u32 ((fwdF (L4.take m) a).getD m0) ∧ OrT w wq b F9 (.slice (some ⟨g8, off8, none⟩) L4.length 0) s L4 (M.set k1 y2) L4 (M.set k1 y2)) (fun _ s116 _ => L4.length - (intOf s116).toNat)
                case atStart => exact ⟨0, by omega, rfl, rfl, HT.out⟩
                case round =>
                  clear a0 HT
                  obtain ⟨m, hm, rfl, rfl, hO⟩ := hrel
                  have hle := HLE4.out
                  have HQ := Lib.hid hO
                  clear hO
                  by_cases hml : m < L4.length
                  · exact absurd hml (by omega)
                  · have hm' : m = L4.length := by omega
                    have gm : decide ((m : Int) < (L4.length : Int)) = false := by simp; omega
                    have HV := Lib.hid (show fwdF (L4.take m) a = fwdF L4 a by rw [hm', List.take_length])
                    obtain ⟨vv, hvv⟩ : ∃ vv, (fwdF (L4.take m) a).getD m0 = vv := ⟨_, rfl⟩
                    have HVV := Lib.hid hvv
                    rw [hvv]
                    have g8 : (vv != vv) = false := by simp
                    have g9 : ((L4.length : Int) != (L4.length : Int)) = false := by simp
                    clear hvv hm'
                    go_wp2_with fail
                    refine (trd_c w.heap.size b F9 [L4, []] (M.set k1 y2) 0 a _ HQ.out.md).mono ?_
                    rintro ev w' ⟨rfl, hww⟩
                    obtain rfl := hww
                    have HK0 := Lib.hid (show okC [L4, []] 0 ∧ okA (M.set k1 y2) (a : Int) from ⟨⟨by omega, by simp⟩, okA_of (by rw [HQ.out.four]; exact HA4.out)⟩)
                    rw [if_pos HK0.out, decide_eq_true HK0.out, two_rd0, HM0.out, ← HV.out, HVV.out]
                    clear HK0
                    go_wp2_with fail
                    refine (twt_c w.heap.size b F9 [L4, []] (M.set k1 y2) 0 _ HQ.out.md (by rw [HQ.out.four]; omega)).mono ?_
                    rintro ev w' ⟨rfl, hww⟩
                    obtain rfl := hww
                    rw [if_pos (show okC [L4, []] 0 from ⟨by omega, by simp⟩), show (([L4, []] : Bufs).getD (Int.toNat 0) []).length = L4.length from rfl]
                    go_wp2_with fail
                    go_roundw
                    case measure => simp [intOf] <;> omega
                    case rel => exact ⟨i + 1, F9, L4, (M.set k1 y2), by omega, HLE4.out, by go_num, (by have h := HQ.out; rw [hL40] at h; exact h)⟩
              · have ht := HOP.out.tail
                obtain ⟨o9, ho9⟩ : ∃ o9, off8 + 6 = o9 := ⟨_, rfl⟩
                obtain ⟨c9, hc9⟩ : ∃ c9, cap8 - 1 = c9 := ⟨_, rfl⟩
                rw [ho9, hc9] at ht
                have HT := Lib.hid ht
                have HO9 := Lib.hid ho9
                have HC9 := Lib.hid hc9
                clear ht ho9 hc9
                have HNS := Lib.hid (show nl - 1 = L4.length by rw [HNL.out]; omega)
                clear HOP
                obtain ⟨m0, hm0⟩ : ∃ m0, (M.set k1 y2).getD a 0 = m0 := ⟨_, rfl⟩
                have HM0 := Lib.hid hm0
                have a0 := cell_of HT.out.arr a
                rw [List.getElem?_toArray, u32V_at (by rw [HT.out.four]; exact HA4.out), hm0] at a0
                have ha4 : (a : Int) < 4 := by have := HA4.out; omega
                have g7 : (m0 != m0) = false := by simp
                clear hm0
                go_wp2_with fail
                rw [HNS.out, HO9.out, HC9.out]
                refine (trd_c w.heap.size b F9 [L4, []] (M.set k1 y2) 1 a _ HT.out.md).mono ?_
                rintro ev w' ⟨rfl, hww⟩
                obtain rfl := hww
                have HK1 := Lib.hid (show okC [L4, []] 1 ∧ okA (M.set k1 y2) (a : Int) from ⟨⟨by omega, by simp⟩, okA_of (by rw [HT.out.four]; exact HA4.out)⟩)
                rw [if_pos HK1.out, decide_eq_true HK1.out, two_rd1, HM0.out]
                clear HK1
                go_wp2_with fail
                go_loopw [15, 116] (fun s15 s116 wq => ∃ m : Nat, m ≤ L4.length ∧ s116 = .int .i64 m ∧ s15 = .int .u32 ((fwdF (L4.take m) a).getD m0) ∧ OrT w wq b F9 (.slice (some ⟨g8, o9, none⟩) L4.length c9) s L4 (M.set k1 y2) L4 (M.set k1 y2)) (fun _ s116 _ => L4.length - (intOf s116).toNat)
                case atStart => exact ⟨0, by omega, rfl, rfl, HT.out⟩
                case round =>
                  clear a0 HT
                  obtain ⟨m, hm, rfl, rfl, hO⟩ := hrel
                  have hle := HLE4.out
                  have HQ := Lib.hid hO
                  clear hO
                  by_cases hml : m < L4.length
                  · have hkl : L4[m]? = some L4[m] := List.getElem?_eq_getElem hml
                    obtain ⟨gy, oy, cy, he, _, _, hgy, hcy⟩ := HQ.out.row.form (by omega)
                    simp only [Value.slice.injEq, Option.some.injEq, Addr.mk.injEq] at he
                    obtain ⟨⟨rfl, rfl, _⟩, _, rfl⟩ := he
                    have e0 := hcy _ _ (flatE_at (cmtE_at hkl) (c := 0) rfl)
                    have e1 := hcy _ _ (flatE_at (cmtE_at hkl) (c := 1) rfl)
                    have e2 := hcy _ _ (flatE_at (cmtE_at hkl) (c := 2) rfl)
                    have e3 := hcy _ _ (flatE_at (cmtE_at hkl) (c := 3) rfl)
                    have e4 := hcy _ _ (flatE_at (cmtE_at hkl) (c := 4) rfl)
                    have e5 := hcy _ _ (flatE_at (cmtE_at hkl) (c := 5) rfl)
                    rw [Nat.add_zero] at e0
                    rw [← Nat.add_assoc] at e1 e2 e3 e4 e5
                    have hft := fwd_take (a : Int) hkl
                    have HFT := Lib.hid hft
                    clear hkl hcy hft
                    generalize L4[m] = y9 at *
                    obtain ⟨u1, u2⟩ := y9
                    simp only at e0 e1 e2 e3 e4 e5
                    have hfr := HFT.out
                    have gm : decide ((m : Int) < (L4.length : Int)) = true := by simp; omega
                    by_cases hy : u1 = (a : Int)
                    · have hyb : (u1 == (a : Int)) = true := by simpa using hy
                      rw [if_pos hy] at hfr
                      have HFR := Lib.hid hfr
                      clear hy hfr
                      generalize fwdF (L4.take m) a = fo at *
                      go_wp2_with fail
                      go_roundw
                      case measure => simp [intOf] <;> omega
                      case rel => exact ⟨m + 1, by omega, by go_num, by rw [HFR.out]; rfl, HQ.out.below ((Below.refl _ _).alloc (Nat.le_refl _) _)⟩
                    · have hyb : (u1 == (a : Int)) = false := by simpa using hy
                      rw [if_neg hy] at hfr
                      have HFR := Lib.hid hfr
                      clear hy hfr
                      generalize fwdF (L4.take m) a = fo at *
                      go_wp2_with fail
                      go_roundw
                      case measure => simp [intOf] <;> omega
                      case rel => exact ⟨m + 1, by omega, by go_num, by rw [HFR.out], HQ.out.below ((Below.refl _ _).alloc (Nat.le_refl _) _)⟩
                  · have hm' : m = L4.length := by omega
                    have gm : decide ((m : Int) < (L4.length : Int)) = false := by simp; omega
                    have HV := Lib.hid (show fwdF (L4.take m) a = fwdF L4 a by rw [hm', List.take_length])
                    obtain ⟨vv, hvv⟩ : ∃ vv, (fwdF (L4.take m) a).getD m0 = vv := ⟨_, rfl⟩
                    have HVV := Lib.hid hvv
                    rw [hvv]
                    have g8 : (vv != vv) = false := by simp
                    have g9 : ((L4.length : Int) != (L4.length : Int)) = false := by simp
                    clear hvv hm'
                    go_wp2_with fail
                    refine (trd_c w.heap.size b F9 [L4, []] (M.set k1 y2) 0 a _ HQ.out.md).mono ?_
                    rintro ev w' ⟨rfl, hww⟩
                    obtain rfl := hww
                    have HK0 := Lib.hid (show okC [L4, []] 0 ∧ okA (M.set k1 y2) (a : Int) from ⟨⟨by omega, by simp⟩, okA_of (by rw [HQ.out.four]; exact HA4.out)⟩)
                    rw [if_pos HK0.out, decide_eq_true HK0.out, two_rd0, HM0.out, ← HV.out, HVV.out]
                    clear HK0
                    go_wp2_with fail
                    refine (twt_c w.heap.size b F9 [L4, []] (M.set k1 y2) 0 _ HQ.out.md (by rw [HQ.out.four]; omega)).mono ?_
                    rintro ev w' ⟨rfl, hww⟩
                    obtain rfl := hww
                    rw [if_pos (show okC [L4, []] 0 from ⟨by omega, by simp⟩), show (([L4, []] : Bufs).getD (Int.toNat 0) []).length = L4.length from rfl]
                    go_wp2_with fail
                    go_roundw
                    case measure => simp [intOf] <;> omega
                    case rel => exact ⟨i + 1, F9, L4, (M.set k1 y2), by omega, HLE4.out, by go_num, HQ.out⟩
            | false =>
              rw [hg] at e3
              clear hg HPO
              obtain ⟨m0, hm0⟩ : ∃ m0, M.getD a 0 = m0 := ⟨_, rfl⟩
              have HM0 := Lib.hid hm0
              have a0 := cell_of HN.out.arr a
              rw [List.getElem?_toArray, u32V_at (by rw [HN.out.four]; exact HA4.out), hm0] at a0
              have ha4 : (a : Int) < 4 := by have := HA4.out; omega
              have g7 : (m0 != m0) = false := by simp
              clear hm0
              go_wp2_with fail
              refine (trd_c w.heap.size b F3 [L3, []] M 1 a _ HN.out.md).mono ?_
              rintro ev w' ⟨rfl, hww⟩
              obtain rfl := hww
              have HK1 := Lib.hid (show okC [L3, []] 1 ∧ okA M (a : Int) from ⟨⟨by omega, by simp⟩, okA_of (by rw [HN.out.four]; exact HA4.out)⟩)
              rw [if_pos HK1.out, decide_eq_true HK1.out, two_rd1, HM0.out]
              clear HK1
              go_wp2_with fail
              go_loopw [15, 116] (fun s15 s116 wq => ∃ m : Nat, m ≤ L3.length ∧ s116 = .int .i64 m ∧ s15 = .int .u32 ((fwdF (L3.take m) a).getD m0) ∧ OrT w wq b F3 (.slice (some ⟨g8, off8, none⟩) L3.length cap8) s L3 M L3 M) (fun _ s116 _ => L3.length - (intOf s116).toNat)
              case atStart => exact ⟨0, by omega, rfl, rfl, HN.out⟩
              case round =>
                clear a0 HN
                obtain ⟨m, hm, rfl, rfl, hO⟩ := hrel
                have hle := HLE.out
                have HQ := Lib.hid hO
                clear hO
                by_cases hml : m < L3.length
                · have hkl : L3[m]? = some L3[m] := List.getElem?_eq_getElem hml
                  obtain ⟨gy, oy, cy, he, _, _, hgy, hcy⟩ := HQ.out.row.form (by omega)
                  simp only [Value.slice.injEq, Option.some.injEq, Addr.mk.injEq] at he
                  obtain ⟨⟨rfl, rfl, _⟩, _, rfl⟩ := he
                  have e0 := hcy _ _ (flatE_at (cmtE_at hkl) (c := 0) rfl)
                  have e1 := hcy _ _ (flatE_at (cmtE_at hkl) (c := 1) rfl)
                  have e2 := hcy _ _ (flatE_at (cmtE_at hkl) (c := 2) rfl)
                  have e3 := hcy _ _ (flatE_at (cmtE_at hkl) (c := 3) rfl)
                  have e4 := hcy _ _ (flatE_at (cmtE_at hkl) (c := 4) rfl)
                  have e5 := hcy _ _ (flatE_at (cmtE_at hkl) (c := 5) rfl)
                  rw [Nat.add_zero] at e0
                  rw [← Nat.add_assoc] at e1 e2 e3 e4 e5
                  have hft := fwd_take (a : Int) hkl
                  have HFT := Lib.hid hft
                  clear hkl hcy hft
                  generalize L3[m] = y9 at *
                  obtain ⟨u1, u2⟩ := y9
                  simp only at e0 e1 e2 e3 e4 e5
                  have hfr := HFT.out
                  have gm : decide ((m : Int) < (L3.length : Int)) = true := by simp; omega
                  by_cases hy : u1 = (a : Int)
                  · have hyb : (u1 == (a : Int)) = true := by simpa using hy
                    rw [if_pos hy] at hfr
                    have HFR := Lib.hid hfr
                    clear hy hfr
                    generalize fwdF (L3.take m) a = fo at *
                    go_wp2_with fail
                    go_roundw
                    case measure => simp [intOf] <;> omega
                    case rel => exact ⟨m + 1, by omega, by go_num, by rw [HFR.out]; rfl, HQ.out.below ((Below.refl _ _).alloc (Nat.le_refl _) _)⟩
                  · have hyb : (u1 == (a : Int)) = false := by simpa using hy
                    rw [if_neg hy] at hfr
                    have HFR := Lib.hid hfr
                    clear hy hfr
                    generalize fwdF (L3.take m) a = fo at *
                    go_wp2_with fail
                    go_roundw
                    case measure => simp [intOf] <;> omega
                    case rel => exact ⟨m + 1, by omega, by go_num, by rw [HFR.out], HQ.out.below ((Below.refl _ _).alloc (Nat.le_refl _) _)⟩
                · have hm' : m = L3.length := by omega
                  have gm : decide ((m : Int) < (L3.length : Int)) = false := by simp; omega
                  have HV := Lib.hid (show fwdF (L3.take m) a = fwdF L3 a by rw [hm', List.take_length])
                  obtain ⟨vv, hvv⟩ : ∃ vv, (fwdF (L3.take m) a).getD m0 = vv := ⟨_, rfl⟩
                  have HVV := Lib.hid hvv
                  rw [hvv]
                  have g8 : (vv != vv) = false := by simp
                  have g9 : ((L3.length : Int) != (L3.length : Int)) = false := by simp
                  clear hvv hm'
                  go_wp2_with fail
                  refine (trd_c w.heap.size b F3 [L3, []] M 0 a _ HQ.out.md).mono ?_
                  rintro ev w' ⟨rfl, hww⟩
                  obtain rfl := hww
                  have HK0 := Lib.hid (show okC [L3, []] 0 ∧ okA M (a : Int) from ⟨⟨by omega, by simp⟩, okA_of (by rw [HQ.out.four]; exact HA4.out)⟩)
                  rw [if_pos HK0.out, decide_eq_true HK0.out, two_rd0, HM0.out, ← HV.out, HVV.out]
                  clear HK0
                  go_wp2_with fail
                  refine (twt_c w.heap.size b F3 [L3, []] M 0 _ HQ.out.md (by rw [HQ.out.four]; omega)).mono ?_
                  rintro ev w' ⟨rfl, hww⟩
                  obtain rfl := hww
                  rw [if_pos (show okC [L3, []] 0 from ⟨by omega, by simp⟩), show (([L3, []] : Bufs).getD (Int.toNat 0) []).length = L3.length from rfl]
                  go_wp2_with fail
                  go_roundw
                  case measure => simp [intOf] <;> omega
                  case rel => exact ⟨i + 1, F3, L3, M, by omega, HLE.out, by go_num, HQ.out⟩
          · have g6 : decide (i < n3) = false := by simp; omega
            clear HPO
            obtain ⟨m0, hm0⟩ : ∃ m0, M.getD a 0 = m0 := ⟨_, rfl⟩
            have HM0 := Lib.hid hm0
            have a0 := cell_of HN.out.arr a
            rw [List.getElem?_toArray, u32V_at (by rw [HN.out.four]; exact HA4.out), hm0] at a0
            have ha4 : (a : Int) < 4 := by have := HA4.out; omega
            have g7 : (m0 != m0) = false := by simp
            clear hm0
            go_wp2_with fail
            refine (trd_c w.heap.size b F3 [L3, []] M 1 a _ HN.out.md).mono ?_
            rintro ev w' ⟨rfl, hww⟩
            obtain rfl := hww
            have HK1 := Lib.hid (show okC [L3, []] 1 ∧ okA M (a : Int) from ⟨⟨by omega, by simp⟩, okA_of (by rw [HN.out.four]; exact HA4.out)⟩)
            rw [if_pos HK1.out, decide_eq_true HK1.out, two_rd1, HM0.out]
            clear HK1
            go_wp2_with fail
            go_loopw [15, 116] (fun s15 s116 wq => ∃ m : Nat, m ≤ L3.length ∧ s116 = .int .i64 m ∧ s15 = .int .u32 ((fwdF (L3.take m) a).getD m0) ∧ OrT w wq b F3 (.slice (some ⟨g8, off8, none⟩) L3.length cap8) s L3 M L3 M) (fun _ s116 _ => L3.length - (intOf s116).toNat)
            case atStart => exact ⟨0, by omega, rfl, rfl, HN.out⟩
            case round =>
              clear a0 HN
              obtain ⟨m, hm, rfl, rfl, hO⟩ := hrel
              have hle := HLE.out
              have HQ := Lib.hid hO
              clear hO
              by_cases hml : m < L3.length
              · have hkl : L3[m]? = some L3[m] := List.getElem?_eq_getElem hml
                obtain ⟨gy, oy, cy, he, _, _, hgy, hcy⟩ := HQ.out.row.form (by omega)
                simp only [Value.slice.injEq, Option.some.injEq, Addr.mk.injEq] at he
                obtain ⟨⟨rfl, rfl, _⟩, _, rfl⟩ := he
                have e0 := hcy _ _ (flatE_at (cmtE_at hkl) (c := 0) rfl)
                have e1 := hcy _ _ (flatE_at (cmtE_at hkl) (c := 1) rfl)
                have e2 := hcy _ _ (flatE_at (cmtE_at hkl) (c := 2) rfl)
                have e3 := hcy _ _ (flatE_at (cmtE_at hkl) (c := 3) rfl)
                have e4 := hcy _ _ (flatE_at (cmtE_at hkl) (c := 4) rfl)
                have e5 := hcy _ _ (flatE_at (cmtE_at hkl) (c := 5) rfl)
                rw [Nat.add_zero] at e0
                rw [← Nat.add_assoc] at e1 e2 e3 e4 e5
                have hft := fwd_take (a : Int) hkl
                have HFT := Lib.hid hft
                clear hkl hcy hft
                generalize L3[m] = y9 at *
                obtain ⟨u1, u2⟩ := y9
                simp only at e0 e1 e2 e3 e4 e5
                have hfr := HFT.out
                have gm : decide ((m : Int) < (L3.length : Int)) = true := by simp; omega
                by_cases hy : u1 = (a : Int)
                · have hyb : (u1 == (a : Int)) = true := by simpa using hy
                  rw [if_pos hy] at hfr
                  have HFR := Lib.hid hfr
                  clear hy hfr
                  generalize fwdF (L3.take m) a = fo at *
                  go_wp2_with fail
                  go_roundw
                  case measure => simp [intOf] <;> omega
                  case rel => exact ⟨m + 1, by omega, by go_num, by rw [HFR.out]; rfl, HQ.out.below ((Below.refl _ _).alloc (Nat.le_refl _) _)⟩
                · have hyb : (u1 == (a : Int)) = false := by simpa using hy
                  rw [if_neg hy] at hfr
                  have HFR := Lib.hid hfr
                  clear hy hfr
                  generalize fwdF (L3.take m) a = fo at *
                  go_wp2_with fail
                  go_roundw
                  case measure => simp [intOf] <;> omega
                  case rel => exact ⟨m + 1, by omega, by go_num, by rw [HFR.out], HQ.out.below ((Below.refl _ _).alloc (Nat.le_refl _) _)⟩
              · have hm' : m = L3.length := by omega
                have gm : decide ((m : Int) < (L3.length : Int)) = false := by simp; omega
                have HV := Lib.hid (show fwdF (L3.take m) a = fwdF L3 a by rw [hm', List.take_length])
                obtain ⟨vv, hvv⟩ : ∃ vv, (fwdF (L3.take m) a).getD m0 = vv := ⟨_, rfl⟩
                have HVV := Lib.hid hvv
                rw [hvv]
                have g8 : (vv != vv) = false := by simp
                have g9 : ((L3.length : Int) != (L3.length : Int)) = false := by simp
                clear hvv hm'
                go_wp2_with fail
                refine (trd_c w.heap.size b F3 [L3, []] M 0 a _ HQ.out.md).mono ?_
                rintro ev w' ⟨rfl, hww⟩
                obtain rfl := hww
                have HK0 := Lib.hid (show okC [L3, []] 0 ∧ okA M (a : Int) from ⟨⟨by omega, by simp⟩, okA_of (by rw [HQ.out.four]; exact HA4.out)⟩)
                rw [if_pos HK0.out, decide_eq_true HK0.out, two_rd0, HM0.out, ← HV.out, HVV.out]
                clear HK0
                go_wp2_with fail
                refine (twt_c w.heap.size b F3 [L3, []] M 0 _ HQ.out.md (by rw [HQ.out.four]; omega)).mono ?_
                rintro ev w' ⟨rfl, hww⟩
                obtain rfl := hww
                rw [if_pos (show okC [L3, []] 0 from ⟨by omega, by simp⟩), show (([L3, []] : Bufs).getD (Int.toNat 0) []).length = L3.length from rfl]
                go_wp2_with fail
                go_roundw
                case measure => simp [intOf] <;> omega
                case rel => exact ⟨i + 1, F3, L3, M, by omega, HLE.out, by go_num, HQ.out⟩
        · have g5 : decide ((i : Int) < 30) = false := by simp; omega
          obtain ⟨ad, cp, rfl⟩ := HO.out.row.len
          go_wp2_with fail
          refine (tsoRuns A _ (HS.out.below HO.out.bel)).mono ?_
          rintro ev w4 ⟨rfl, hb4⟩
          go_wp2_with fail
          go_ret
          exact ⟨rfl, HO.out.bel.trans (hb4.mono HO.out.bel.size)⟩
      · have g4 : decide (i < n2) = false := by simp; omega
        obtain ⟨ad, cp, rfl⟩ := HO.out.row.len
        go_wp2_with fail
        refine (tsoRuns A _ (HS.out.below HO.out.bel)).mono ?_
        rintro ev w4 ⟨rfl, hb4⟩
        go_wp2_with fail
        go_ret
        exact ⟨rfl, HO.out.bel.trans (hb4.mono HO.out.bel.size)⟩
    · have g3 : decide (i < n1) = false := by simp; omega
      obtain ⟨ad, cp, rfl⟩ := HO.out.row.len
      go_wp2_with fail
      refine (tsoRuns A _ (HS.out.below HO.out.bel)).mono ?_
      rintro ev w4 ⟨rfl, hb4⟩
      go_wp2_with fail
      go_ret
      exact ⟨rfl, HO.out.bel.trans (hb4.mono HO.out.bel.size)⟩

end Go.Proofs.YtamklohnmbgklaaDoor
