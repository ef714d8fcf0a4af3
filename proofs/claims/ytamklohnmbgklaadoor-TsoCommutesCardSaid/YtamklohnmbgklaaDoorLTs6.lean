/- TsoCommutes: true; no condition but what a start gives. -/
import Derived.Test.YtamklohnmbgklaaDoorLTs4
import Derived.Test.YtamklohnmbgklaaDoorLexG
import Derived.Deep.Cut
namespace Go.Proofs.YtamklohnmbgklaaDoor
open Go.RowKit Go.Extern.Stop Go.Stop Go.Extern

def Halt (p : Prop) : Prop := p
theorem halt {p : Prop} (h : Halt p) : p := h
theorem rpl_cons {B : Bufs} {M : List Int} {e : Ev} {B' : Bufs} {M' : List Int} (h : stC B M e = 0) (hB : stB B e = B') (hM : stM M e = M') (l : List Ev) (i : Nat) : rplE B M (e :: l) i = rplE B' M' l (i + 1) ∧ runM B M (e :: l) = runM B' M' l := by
  obtain ⟨_, h2, h3⟩ := st_ok h
  rw [rplE, runM, if_pos h, h2, h3, hB, hM]
  exact ⟨rfl, rfl⟩
def comR (x y : Nat) (u v : Int) : List Ev := [⟨2, 0, x, u, 0, false⟩, ⟨2, 1, y, v, 0, false⟩]
def comP (x : Nat) (u : Int) : Ev := ⟨3, 0, x, u, 0, false⟩
def comQ (y : Nat) (v : Int) : Ev := ⟨3, 1, y, v, 0, false⟩
theorem com_store0 {x : Nat} {M : List Int} (hx : x < M.length) (u : Int) : stC [[], []] M ⟨2, 0, x, u, 0, false⟩ = 0 ∧ stB [[], []] ⟨2, 0, x, u, 0, false⟩ = [[((x : Int), u)], []] ∧ stM M ⟨2, 0, x, u, 0, false⟩ = M := by
  have h1 : okC [[], []] 0 := ⟨by omega, by simp⟩
  exact ⟨by simp [stC, h1, okA_of hx], by simp [stB], rfl⟩
theorem com_store1 {y : Nat} {M : List Int} {L : List (Int × Int)} (hy : y < M.length) (v : Int) : stC [L, []] M ⟨2, 1, y, v, 0, false⟩ = 0 ∧ stB [L, []] ⟨2, 1, y, v, 0, false⟩ = [L, [((y : Int), v)]] ∧ stM M ⟨2, 1, y, v, 0, false⟩ = M := by
  have h1 : okC [L, []] 1 := ⟨by omega, by simp⟩
  exact ⟨by simp [stC, h1, okA_of hy], by simp [stB], rfl⟩
theorem com_c0 {x : Nat} {M : List Int} {L : List (Int × Int)} (hx : x < M.length) (u : Int) : stC [[((x : Int), u)], L] M (comP x u) = 0 ∧ stB [[((x : Int), u)], L] (comP x u) = [[], L] ∧ stM M (comP x u) = M.set x u := by
  have h1 : okC [[((x : Int), u)], L] 0 := ⟨by omega, by simp⟩
  exact ⟨by simp [comP, stC, h1, okA_of hx], by simp [comP, stB], by simp [comP, stM]⟩
theorem com_c1 {y : Nat} {M : List Int} {L : List (Int × Int)} (hy : y < M.length) (v : Int) : stC [L, [((y : Int), v)]] M (comQ y v) = 0 ∧ stB [L, [((y : Int), v)]] (comQ y v) = [L, []] ∧ stM M (comQ y v) = M.set y v := by
  have h1 : okC [L, [((y : Int), v)]] 1 := ⟨by omega, by simp⟩
  exact ⟨by simp [comQ, stC, h1, okA_of hy], by simp [comQ, stB], by simp [comQ, stM]⟩
def comM : List Int := [0, 0, 0, 0]
theorem com_one {x y : Nat} (hx : x < 4) (hy : y < 4) (u v : Int) : rplE (List.replicate 2 []) (List.replicate 4 0) (comR x y u v ++ [comP x u, comQ y v]) 0 = .nil ∧ runM (List.replicate 2 []) (List.replicate 4 0) (comR x y u v ++ [comP x u, comQ y v]) = (comM.set x u).set y v := by
  show rplE [[], []] comM (_ :: _ :: comP x u :: comQ y v :: []) 0 = .nil ∧ runM [[], []] comM (_ :: _ :: comP x u :: comQ y v :: []) = _
  have a1 := com_store0 (M := comM) hx u
  have a2 := com_store1 (M := comM) (L := [((x : Int), u)]) hy v
  have a3 := com_c0 (M := comM) (L := [((y : Int), v)]) hx u
  have a4 := com_c1 (M := comM.set x u) (L := []) (by rw [List.length_set]; exact hy) v
  have b1 := rpl_cons a1.1 a1.2.1 a1.2.2 [⟨2, 1, y, v, 0, false⟩, comP x u, comQ y v] 0
  have b2 := rpl_cons a2.1 a2.2.1 a2.2.2 [comP x u, comQ y v] 1
  have b3 := rpl_cons a3.1 a3.2.1 a3.2.2 [comQ y v] 2
  have b4 := rpl_cons a4.1 a4.2.1 a4.2.2 [] 3
  exact ⟨b1.1.trans (b2.1.trans (b3.1.trans b4.1)), b1.2.trans (b2.2.trans (b3.2.trans b4.2))⟩
theorem com_two {x y : Nat} (hx : x < 4) (hy : y < 4) (u v : Int) : rplE (List.replicate 2 []) (List.replicate 4 0) (comR x y u v ++ [comQ y v, comP x u]) 0 = .nil ∧ runM (List.replicate 2 []) (List.replicate 4 0) (comR x y u v ++ [comQ y v, comP x u]) = (comM.set y v).set x u := by
  show rplE [[], []] comM (_ :: _ :: comQ y v :: comP x u :: []) 0 = .nil ∧ runM [[], []] comM (_ :: _ :: comQ y v :: comP x u :: []) = _
  have a1 := com_store0 (M := comM) hx u
  have a2 := com_store1 (M := comM) (L := [((x : Int), u)]) hy v
  have a3 := com_c1 (M := comM) (L := [((x : Int), u)]) hy v
  have a4 := com_c0 (M := comM.set y v) (L := []) (by rw [List.length_set]; exact hx) u
  have b1 := rpl_cons a1.1 a1.2.1 a1.2.2 [⟨2, 1, y, v, 0, false⟩, comQ y v, comP x u] 0
  have b2 := rpl_cons a2.1 a2.2.1 a2.2.2 [comQ y v, comP x u] 1
  have b3 := rpl_cons a3.1 a3.2.1 a3.2.2 [comP x u] 2
  have b4 := rpl_cons a4.1 a4.2.1 a4.2.2 [] 3
  exact ⟨b1.1.trans (b2.1.trans (b3.1.trans b4.1)), b1.2.trans (b2.2.trans (b3.2.trans b4.2))⟩
theorem com_at {x : Nat} {u : Int} {k : Nat} {t : Int} (h : x < 4) : ((comM.set k t).set x u).getD x 0 = u := by
  simp [comM, List.getD_eq_getElem?_getD, h]
/-- The two memories are the same just if the words differ or the values don't. -/
theorem com_same {x y : Nat} (hx : x < 4) (hy : y < 4) (u v : Int) : ((comM.set x u).set y v = (comM.set y v).set x u) ↔ (x ≠ y ∨ u = v) := by
  by_cases h : x = y
  · subst h
    rw [List.set_set, List.set_set]
    constructor
    · intro e
      have := congrArg (fun l => l[x]?) e
      simp only [List.getElem?_set, if_pos] at this
      have hl : x < comM.length := hx
      simp [hl] at this
      exact .inr this.symm
    · rintro (h | h)
      · exact absurd rfl h
      · rw [h]
  · exact ⟨fun _ => .inl h, fun _ => List.set_comm _ _ h⟩

set_option maxRecDepth 100000 in
set_option maxHeartbeats 16000000 in
theorem tsoCommutes (A : Nat → Addr) (a b u v : Int) (w : World) (hs : SentAt w A) (h1 : -9223372036854775808 ≤ a ∧ a ≤ 9223372036854775807) (h2 : -9223372036854775808 ≤ b ∧ b ≤ 9223372036854775807) (_h3 : 0 ≤ u ∧ u ≤ 4294967295) (_h4 : 0 ≤ v ∧ v ≤ 4294967295) :
    Calls Tryd.prog 6 #[.int .i64 a, .int .i64 b, .int .u32 u, .int .u32 v] w (TruePost w) := by
  obtain ⟨i0, hi0, hi1⟩ := Option.map_eq_some_iff.1 nInfoE
  simp only [Prod.mk.injEq] at hi1
  obtain ⟨hz0, hz1, hz2⟩ := hi1
  have HI := Lib.hid hi0
  have HZ0 := Lib.hid hz0
  have HZ1 := Lib.hid hz1
  have HZ2 := Lib.hid hz2
  have HS := Lib.hid hs
  have hwx := wiF_b (n := a) (lo := 0) (hi := 3) (by omega)
  have hwy := wiF_b (n := b) (lo := 0) (hi := 3) (by omega)
  obtain ⟨x, hx⟩ : ∃ x : Nat, wiF a 0 3 = (x : Int) := ⟨(wiF a 0 3).toNat, by omega⟩
  obtain ⟨y, hy⟩ : ∃ y : Nat, wiF b 0 3 = (y : Int) := ⟨(wiF b 0 3).toNat, by omega⟩
  have HX := Lib.hid hx
  have HY := Lib.hid hy
  have HX4 := Lib.hid (show x < 4 by omega)
  have HY4 := Lib.hid (show y < 4 by omega)
  have H1 := Lib.hid h1
  have H2 := Lib.hid h2
  clear hs hi0 hz0 hz1 hz2 hwx hwy hx hy h1 h2
  go_enter Tryd.func6, Tryd.ntmps6
  go_wp2_with fail
  refine (Within_b a 0 3 w (by omega) (by omega) (by omega) H1.out.1 H1.out.2).mono ?_
  rintro ev w' ⟨rfl, hww⟩
  obtain rfl := hww
  rw [HX.out]
  go_wp2_with fail
  refine (Within_b b 0 3 w (by omega) (by omega) (by omega) H2.out.1 H2.out.2).mono ?_
  rintro ev w' ⟨rfl, hww⟩
  obtain rfl := hww
  rw [HY.out]
  go_wp2_with fail
  refine (ev_c 2 0 x u w).mono ?_
  rintro ev w1 ⟨rfl, hb1⟩
  have HB1 := Lib.hid hb1
  simp only [Ev.v]
  clear hb1
  go_wp2_with fail
  refine (ev_c 2 1 y v w1).mono ?_
  rintro ev w2 ⟨rfl, hb2⟩
  have HB2 := Lib.hid (HB1.out.trans (hb2.mono HB1.out.size))
  simp only [Ev.v]
  clear hb2 HB1
  go_wp2_with fail
  refine (ev_c 3 0 x u _).mono ?_
  rintro ev w4 ⟨rfl, hb4⟩
  have hsl0 : slc (w2.alloc (.cells (flatE (comR x y u v)).toArray 24)) 6 (.slice (some ⟨w2.heap.size, 0, none⟩) 2 2) 2 (flatE (comR x y u v)) := slc_built w2 _ 6 2 (flatE (comR x y u v)) rfl
  have hb4' : Below (w2.alloc (.cells (flatE (comR x y u v)).toArray 24)).heap.size (w2.alloc (.cells (flatE (comR x y u v)).toArray 24)) w4 := hb4
  have HSL4 := Lib.hid (hsl0.below hb4')
  have HB4 := Lib.hid ((HB2.out.alloc HB2.out.size (.cells (flatE (comR x y u v)).toArray 24)).trans (hb4'.mono (HB2.out.alloc HB2.out.size _).size))
  simp only [Ev.v]
  clear hb4 hb4' hsl0 HB2
  go_wp2_with fail
  refine (ev_c 3 1 y v w4).mono ?_
  rintro ev w5 ⟨rfl, hb5⟩
  have HSL5 := Lib.hid (HSL4.out.below hb5)
  have HB5 := Lib.hid (HB4.out.trans (hb5.mono HB4.out.size))
  simp only [Ev.v]
  clear hb5 HB4 HSL4
  go_wp2_with fail
  generalize w2.heap.size = hR at *
  obtain ⟨pb, hpb⟩ : ∃ pb, pb = w5.heap.size := ⟨_, rfl⟩
  obtain ⟨qb, hqb⟩ : ∃ qb, qb = w5.heap.size + 1 := ⟨_, rfl⟩
  have hba : Below w5.heap.size w5 (w5.alloc (.cells #[.int .i64 3, .int .i64 0, .int .i64 x, .int .u32 u, .int .u32 0, .bool false] 24)) := (Below.refl _ _).alloc (Nat.le_refl _) _
  have hbb := hba.alloc hba.size (.cells #[.int .i64 3, .int .i64 1, .int .i64 y, .int .u32 v, .int .u32 0, .bool false] 24)
  have hp0 := heap_alloc_new w5 (.cells #[.int .i64 3, .int .i64 0, .int .i64 x, .int .u32 u, .int .u32 0, .bool false] 24)
  have hq0 := heap_alloc_new (w5.alloc (.cells #[.int .i64 3, .int .i64 0, .int .i64 x, .int .u32 u, .int .u32 0, .bool false] 24)) (.cells #[.int .i64 3, .int .i64 1, .int .i64 y, .int .u32 v, .int .u32 0, .bool false] 24)
  have HW0 := Lib.hid (HB5.out.trans (hbb.mono HB5.out.size))
  have HSL6 := Lib.hid (HSL5.out.below hbb)
  have hp1 := (((Below.refl _ _).alloc (Nat.le_refl _) (.cells #[.int .i64 3, .int .i64 1, .int .i64 y, .int .u32 v, .int .u32 0, .bool false] 24) : Below (w5.alloc (.cells #[.int .i64 3, .int .i64 0, .int .i64 x, .int .u32 u, .int .u32 0, .bool false] 24)).heap.size (w5.alloc (.cells #[.int .i64 3, .int .i64 0, .int .i64 x, .int .u32 u, .int .u32 0, .bool false] 24)) _).block w5.heap.size (by simp)).trans hp0
  have hq1 : ((w5.alloc (.cells #[.int .i64 3, .int .i64 0, .int .i64 x, .int .u32 u, .int .u32 0, .bool false] 24)).alloc (.cells #[.int .i64 3, .int .i64 1, .int .i64 y, .int .u32 v, .int .u32 0, .bool false] 24)).heap[w5.heap.size + 1]? = some (.cells #[.int .i64 3, .int .i64 1, .int .i64 y, .int .u32 v, .int .u32 0, .bool false] 24 (0, 0)) := by simpa using hq0
  rw [← hpb] at hp1
  rw [← hqb] at hq1
  rw [← hqb, ← hpb]
  generalize (w5.alloc (.cells #[.int .i64 3, .int .i64 0, .int .i64 x, .int .u32 u, .int .u32 0, .bool false] 24)).alloc (.cells #[.int .i64 3, .int .i64 1, .int .i64 y, .int .u32 v, .int .u32 0, .bool false] 24) = W at *
  have HPB0 := Lib.hid (And.intro (Array.getElem?_eq_some_iff.1 hp1).1 hp1)
  have HQB0 := Lib.hid (And.intro (Array.getElem?_eq_some_iff.1 hq1).1 hq1)
  have HBW := HW0
  have HSL := HSL6
  have HPB := HPB0
  have HQB := HQB0
  clear hpb hqb hba hbb hp0 hq0 hp1 hq1 HB5 HSL5 HW0 HSL6 HPB0 HQB0
  go_cut [14, 15] from 18 (fun s14 s15 wx => ∃ ua, s14 = ua ∧ s15 = .nilIface ∧ winRow wx W.heap.size 22 1 ua 4 (u32V ((comM.set x u).set y v)) ∧ Below W.heap.size W wx)
  case first =>
    refine wp_region_lexG ⟨[], []⟩ [(0, 5), (2, 5)] 13 [1, 3, 4, 0, 2, 5, 6, 7, 8, 9, 10, 11, 12] rfl rfl (fun x => Below W.heap.size W x) (by kernel_rfl) (by kernel_rfl) (Below.refl _ _).drew ?_
    intro S hto hof hne
    have y0 : ∀ z : Wd S, z.w.cell? ⟨pb, 0, none⟩ = some (.int .i64 3) := fun z => ((hto z).cell (p := ⟨pb, 0, none⟩) HPB.out.1).trans (cell_of HPB.out.2 0)
    have y1 : ∀ z : Wd S, z.w.cell? ⟨pb, 1, none⟩ = some (.int .i64 0) := fun z => ((hto z).cell (p := ⟨pb, 1, none⟩) HPB.out.1).trans (cell_of HPB.out.2 1)
    have y2 : ∀ z : Wd S, z.w.cell? ⟨pb, 2, none⟩ = some (.int .i64 x) := fun z => ((hto z).cell (p := ⟨pb, 2, none⟩) HPB.out.1).trans (cell_of HPB.out.2 2)
    have y3 : ∀ z : Wd S, z.w.cell? ⟨pb, 3, none⟩ = some (.int .u32 u) := fun z => ((hto z).cell (p := ⟨pb, 3, none⟩) HPB.out.1).trans (cell_of HPB.out.2 3)
    have y4 : ∀ z : Wd S, z.w.cell? ⟨pb, 4, none⟩ = some (.int .u32 0) := fun z => ((hto z).cell (p := ⟨pb, 4, none⟩) HPB.out.1).trans (cell_of HPB.out.2 4)
    have y5 : ∀ z : Wd S, z.w.cell? ⟨pb, 5, none⟩ = some (.bool false) := fun z => ((hto z).cell (p := ⟨pb, 5, none⟩) HPB.out.1).trans (cell_of HPB.out.2 5)
    have z0 : ∀ z : Wd S, z.w.cell? ⟨qb, 0, none⟩ = some (.int .i64 3) := fun z => ((hto z).cell (p := ⟨qb, 0, none⟩) HQB.out.1).trans (cell_of HQB.out.2 0)
    have z1 : ∀ z : Wd S, z.w.cell? ⟨qb, 1, none⟩ = some (.int .i64 1) := fun z => ((hto z).cell (p := ⟨qb, 1, none⟩) HQB.out.1).trans (cell_of HQB.out.2 1)
    have z2 : ∀ z : Wd S, z.w.cell? ⟨qb, 2, none⟩ = some (.int .i64 y) := fun z => ((hto z).cell (p := ⟨qb, 2, none⟩) HQB.out.1).trans (cell_of HQB.out.2 2)
    have z3 : ∀ z : Wd S, z.w.cell? ⟨qb, 3, none⟩ = some (.int .u32 v) := fun z => ((hto z).cell (p := ⟨qb, 3, none⟩) HQB.out.1).trans (cell_of HQB.out.2 3)
    have z4 : ∀ z : Wd S, z.w.cell? ⟨qb, 4, none⟩ = some (.int .u32 0) := fun z => ((hto z).cell (p := ⟨qb, 4, none⟩) HQB.out.1).trans (cell_of HQB.out.2 4)
    have z5 : ∀ z : Wd S, z.w.cell? ⟨qb, 5, none⟩ = some (.bool false) := fun z => ((hto z).cell (p := ⟨qb, 5, none⟩) HQB.out.1).trans (cell_of HQB.out.2 5)
    have Hof := Lib.hid hof
    clear hto hof
    refine lexG_lights 3 (by kernel_rfl) (by kernel_rfl) ?_
    simp only [opsAt, List.take_succ_cons, List.take_zero, List.drop_succ_cons, List.drop_zero, List.filterMap_cons, List.filterMap_nil, List.getElem?_toArray, List.getElem?_cons_succ, List.getElem?_cons_zero]
    change wpQuiet _ _ _ _ (_ :: _ :: _ :: []) _
    repeat (first | go_big_quiet_skip | (go_big_quiet_want; go_big_quiet_op; go_big_quiet_on))
    refine wpQuiet_nil ?_
    clear y0 y1 y2 y3 y4 y5 z0 z1 z2 z3 z4 z5
    have HB0 := Lib.hid (show Below W.heap.size W W.drew from (Below.refl _ _).drew)
    generalize W.drew = W0 at *
    refine lexG_two (k := 0) (m := 5) (R := [0, 2, 6, 7, 8, 9, 10, 11, 12]) (by kernel_rfl) (by kernel_rfl) (by kernel_rfl) (by kernel_rfl) ?_ ?_
    · simp only [opsAt, List.filterMap_cons, List.filterMap_nil, List.getElem?_toArray, List.getElem?_cons_zero]
      change wpList _ _ _ (_ :: []) _ _
      go_wp2_with fail
      obtain ⟨hA, hhA⟩ : ∃ h, h = W0.heap.size := ⟨_, rfl⟩
      have hca : Below W0.heap.size W0 (W0.alloc (.cells #[] 24)) := (Below.refl _ _).alloc (Nat.le_refl _) _
      have hA1 : winRow (W0.alloc (.cells #[] 24)) hA 24 6 (.slice (some ⟨hA, 0, none⟩) 0 0) 0 [] := by rw [hhA]; exact winRow_fresh _ _ _
      have HA := Lib.hid hA1
      have HAB := Lib.hid (show W.heap.size ≤ hA by rw [hhA]; exact HB0.out.size)
      have HAS := Lib.hid (show hA = W0.heap.size ∧ (W0.alloc (.cells #[] 24)).heap.size = W0.heap.size + 1 from ⟨hhA, by simp⟩)
      have HBA := Lib.hid (HB0.out.trans (hca.mono HB0.out.size))
      rw [← hhA]
      refine lexGQ_more (Hof.out _ HBA.out) ?_
      generalize W0.alloc (.cells #[] 24) = WA at *
      clear hca hA1 hhA
      refine lexG_two (k := 2) (m := 5) (R := [2, 6, 7, 8, 9, 10, 11, 12]) (by kernel_rfl) (by kernel_rfl) (by kernel_rfl) (by kernel_rfl) ?_ ?_
      · simp only [opsAt, List.filterMap_cons, List.filterMap_nil, List.getElem?_toArray, List.getElem?_cons_succ, List.getElem?_cons_zero]
        change wpList _ _ _ (_ :: []) _ _
        go_wp2_with (at_builtin; refine wpList_append_slc _ rfl _ _ 26 rfl W.heap.size 24 i0 _ 6 40 Tryd.underlying26 HI.out HZ0.out HZ1.out HZ2.out rfl (by decide) _ _ _ rfl (HA.out.base_le fun q hq => by have := (HA.out.lt q hq).1; have := HAB.out; omega) _ 2 (flatE (comR x y u v)) rfl (HSL.out.below HBA.out) (flatE_one _) (by unfold maxLen; omega) (by omega) HBA.out.size ?_; intro p6 x6 hown hgrow hat; refine halt ?_)
        have HP := Lib.hid (show winRow x6 W.heap.size 24 6 p6 2 (flatE (comR x y u v)) by simpa using hown)
        have HBB := Lib.hid (HBA.out.grown hgrow HBA.out.size fun q hq => by have := (HA.out.lt q hq).1; have := HAB.out; omega)
        obtain ⟨ad6, cp6, hp6⟩ := hown.len
        have HP6 := Lib.hid hp6
        clear hown hgrow hat hp6
        unfold Halt
        refine lexGQ_more (Hof.out _ HBB.out) ?_
        generalize x6 = WB at *
        generalize p6 = pB at *
        refine lexG_one (by kernel_rfl) (by kernel_rfl) ?_
        simp only [opsAt, List.filterMap_cons, List.filterMap_nil, List.getElem?_toArray, List.getElem?_cons_succ, List.getElem?_cons_zero]
        change wpList _ _ _ (_ :: []) _ _
        go_wp2_with fail
        obtain ⟨hC, hhC⟩ : ∃ h, h = WB.heap.size := ⟨_, rfl⟩
        have hcc : Below WB.heap.size WB (WB.alloc (.cells (flatE [(comP x u), (comQ y v)]).toArray 24)) := (Below.refl _ _).alloc (Nat.le_refl _) _
        have hC1 : slc (WB.alloc (.cells (flatE [(comP x u), (comQ y v)]).toArray 24)) 6 (.slice (some ⟨hC, 0, none⟩) 2 2) 2 (flatE [(comP x u), (comQ y v)]) := by rw [hhC]; exact slc_built _ _ 6 2 _ rfl
        have HC := Lib.hid hC1
        have HCS := Lib.hid (show hC = WB.heap.size ∧ (WB.alloc (.cells (flatE [(comP x u), (comQ y v)]).toArray 24)).heap.size = WB.heap.size + 1 from ⟨hhC, by simp⟩)
        have HBC := Lib.hid (HBB.out.trans (hcc.mono HBB.out.size))
        have HP := Lib.hid (HP.out.below hcc)
        rw [← hhC]
        refine lexGQ_more (Hof.out _ HBC.out) ?_
        change lexG _ _ _ _ _ _ _ _ _ (WB.alloc (.cells (flatE [(comP x u), (comQ y v)]).toArray 24))
        generalize WB.alloc (.cells (flatE [(comP x u), (comQ y v)]).toArray 24) = WC at *
        clear hcc hC1 hhC
        refine lexG_one (by kernel_rfl) (by kernel_rfl) ?_
        simp only [opsAt, List.filterMap_cons, List.filterMap_nil, List.getElem?_toArray, List.getElem?_cons_succ, List.getElem?_cons_zero]
        change wpList _ _ _ (_ :: []) _ _
        go_wp2_with (at_builtin; refine wpList_append_slc _ rfl _ _ 26 rfl W.heap.size 24 i0 _ 6 40 Tryd.underlying26 HI.out HZ0.out HZ1.out HZ2.out rfl (by decide) _ _ _ rfl (HP.out) _ 2 (flatE [(comP x u), (comQ y v)]) rfl HC.out (flatE_one _) (by unfold maxLen; omega) (by omega) HBC.out.size ?_; intro p6 x6 hown hgrow hat; refine halt ?_)
        have HBD := Lib.hid (HBC.out.grown hgrow HBC.out.size fun q hq => (HP.out.lt q hq).1)
        have hsl : slc x6 6 p6 ((comR x y u v) ++ [(comP x u), (comQ y v)]).length (flatE ((comR x y u v) ++ [(comP x u), (comQ y v)])) := by
          rw [flatE_append]
          exact hown.slc
        have HSD := Lib.hid hsl
        clear hown hgrow hat hsl HC HP
        unfold Halt
        refine lexGQ_more (Hof.out _ HBD.out) ?_
        generalize x6 = WD at *
        refine lexG_one (by kernel_rfl) (by kernel_rfl) ?_
        simp only [opsAt, List.filterMap_cons, List.filterMap_nil, List.getElem?_toArray, List.getElem?_cons_succ, List.getElem?_cons_zero]
        change wpList _ _ _ (_ :: []) _ _
        go_wp2_with fail
        refine (replay_c A 2 4 _ ((comR x y u v) ++ [(comP x u), (comQ y v)]) WD (HS.out.below (HBW.out.trans (HBD.out.mono HBW.out.size))) (by omega) (by omega) (by omega) (by omega) HSD.out (by simp [comR])).mono ?_
        rintro ev wz ⟨u5, rfl, hu, hb⟩
        rw [(com_one HX4.out HY4.out u v).1, (com_one HX4.out HY4.out u v).2] at hu
        rw [(com_one HX4.out HY4.out u v).1, show ErrT.nil.val A = .nilIface from rfl]
        have hu : winRow wz WD.heap.size 22 1 u5 4 (u32V _) := hu
        have HU := Lib.hid (hu.base_le fun q hq => Nat.le_trans HBD.out.size (hu.lt q hq).1)
        have HBZ := Lib.hid (HBD.out.trans (hb.mono HBD.out.size))
        clear hu hb
        go_wp2_with fail
        refine lexGQ_more (Hof.out _ HBZ.out) ?_
        refine lexG_lights 5 (by kernel_rfl) (by kernel_rfl) ?_
        simp only [opsAt, List.take_succ_cons, List.take_zero, List.drop_succ_cons, List.drop_zero, List.filterMap_cons, List.filterMap_nil, List.getElem?_toArray, List.getElem?_cons_succ, List.getElem?_cons_zero]
        change wpQuiet _ _ _ _ (_ :: _ :: _ :: _ :: _ :: []) _
        repeat (first | go_big_quiet_skip | (go_big_quiet_want; go_big_quiet_op; go_big_quiet_on))
        refine wpQuiet_nil ?_
        refine lexG_done ?_
        go_wp2_with fail
        go_meet
        case rel => exact ⟨u5, rfl, rfl, HU.out, HBZ.out⟩
      · simp only [opsAt, List.filterMap_cons, List.filterMap_nil, List.getElem?_toArray, List.getElem?_cons_succ, List.getElem?_cons_zero]
        change wpList _ _ _ (_ :: []) _ _
        go_wp2_with fail
        obtain ⟨hC, hhC⟩ : ∃ h, h = WA.heap.size := ⟨_, rfl⟩
        have hcc : Below WA.heap.size WA (WA.alloc (.cells (flatE [(comP x u), (comQ y v)]).toArray 24)) := (Below.refl _ _).alloc (Nat.le_refl _) _
        have hC1 : slc (WA.alloc (.cells (flatE [(comP x u), (comQ y v)]).toArray 24)) 6 (.slice (some ⟨hC, 0, none⟩) 2 2) 2 (flatE [(comP x u), (comQ y v)]) := by rw [hhC]; exact slc_built _ _ 6 2 _ rfl
        have HC := Lib.hid hC1
        have HCS := Lib.hid (show hC = WA.heap.size ∧ (WA.alloc (.cells (flatE [(comP x u), (comQ y v)]).toArray 24)).heap.size = WA.heap.size + 1 from ⟨hhC, by simp⟩)
        have HBC := Lib.hid (HBA.out.trans (hcc.mono HBA.out.size))
        have HA := Lib.hid (HA.out.below hcc)
        have HNE := Lib.hid (show hC ≠ hA by have := HCS.out; have := HAS.out; omega)
        rw [← hhC]
        refine lexGQ_more (Hof.out _ HBC.out) ?_
        change lexG _ _ _ _ _ _ _ _ _ (WA.alloc (.cells (flatE [(comP x u), (comQ y v)]).toArray 24))
        generalize WA.alloc (.cells (flatE [(comP x u), (comQ y v)]).toArray 24) = WC at *
        clear hcc hC1 hhC
        refine lexG_one (by kernel_rfl) (by kernel_rfl) ?_
        simp only [opsAt, List.filterMap_cons, List.filterMap_nil, List.getElem?_toArray, List.getElem?_cons_succ, List.getElem?_cons_zero]
        change wpList _ _ _ (_ :: []) _ _
        go_wp2_with (at_builtin; refine wpList_append_slc _ rfl _ _ 26 rfl W.heap.size 24 i0 _ 6 40 Tryd.underlying26 HI.out HZ0.out HZ1.out HZ2.out rfl (by decide) _ _ _ rfl (HA.out.base_le fun q hq => by have := (HA.out.lt q hq).1; have := HAB.out; omega) _ 2 (flatE (comR x y u v)) rfl (HSL.out.below HBC.out) (flatE_one _) (by unfold maxLen; omega) (by omega) HBC.out.size ?_; intro p6 x6 hown hgrow hat; refine halt ?_)
        have HP := Lib.hid (show winRow x6 W.heap.size 24 6 p6 2 (flatE (comR x y u v)) by simpa using hown)
        have HBB := Lib.hid (HBC.out.grown hgrow HBC.out.size fun q hq => by have := (HA.out.lt q hq).1; have := HAB.out; omega)
        have HC := Lib.hid (HC.out.keep (S := fun q => some hA = some q) (Mods.grown hgrow fun q hq => hq) fun q hq e => HNE.out (by rw [Option.some.inj e]; exact (Option.some.inj hq)))
        obtain ⟨ad6, cp6, hp6⟩ := hown.len
        have HP6 := Lib.hid hp6
        clear hown hgrow hat hp6
        unfold Halt
        refine lexGQ_more (Hof.out _ HBB.out) ?_
        generalize x6 = WB at *
        generalize p6 = pB at *
        refine lexG_one (by kernel_rfl) (by kernel_rfl) ?_
        simp only [opsAt, List.filterMap_cons, List.filterMap_nil, List.getElem?_toArray, List.getElem?_cons_succ, List.getElem?_cons_zero]
        change wpList _ _ _ (_ :: []) _ _
        go_wp2_with (at_builtin; refine wpList_append_slc _ rfl _ _ 26 rfl W.heap.size 24 i0 _ 6 40 Tryd.underlying26 HI.out HZ0.out HZ1.out HZ2.out rfl (by decide) _ _ _ rfl (HP.out) _ 2 (flatE [(comP x u), (comQ y v)]) rfl HC.out (flatE_one _) (by unfold maxLen; omega) (by omega) HBB.out.size ?_; intro p6 x6 hown hgrow hat; refine halt ?_)
        have HBD := Lib.hid (HBB.out.grown hgrow HBB.out.size fun q hq => (HP.out.lt q hq).1)
        have hsl : slc x6 6 p6 ((comR x y u v) ++ [(comP x u), (comQ y v)]).length (flatE ((comR x y u v) ++ [(comP x u), (comQ y v)])) := by
          rw [flatE_append]
          exact hown.slc
        have HSD := Lib.hid hsl
        clear hown hgrow hat hsl HC HP
        unfold Halt
        refine lexGQ_more (Hof.out _ HBD.out) ?_
        generalize x6 = WD at *
        refine lexG_one (by kernel_rfl) (by kernel_rfl) ?_
        simp only [opsAt, List.filterMap_cons, List.filterMap_nil, List.getElem?_toArray, List.getElem?_cons_succ, List.getElem?_cons_zero]
        change wpList _ _ _ (_ :: []) _ _
        go_wp2_with fail
        refine (replay_c A 2 4 _ ((comR x y u v) ++ [(comP x u), (comQ y v)]) WD (HS.out.below (HBW.out.trans (HBD.out.mono HBW.out.size))) (by omega) (by omega) (by omega) (by omega) HSD.out (by simp [comR])).mono ?_
        rintro ev wz ⟨u5, rfl, hu, hb⟩
        rw [(com_one HX4.out HY4.out u v).1, (com_one HX4.out HY4.out u v).2] at hu
        rw [(com_one HX4.out HY4.out u v).1, show ErrT.nil.val A = .nilIface from rfl]
        have hu : winRow wz WD.heap.size 22 1 u5 4 (u32V _) := hu
        have HU := Lib.hid (hu.base_le fun q hq => Nat.le_trans HBD.out.size (hu.lt q hq).1)
        have HBZ := Lib.hid (HBD.out.trans (hb.mono HBD.out.size))
        clear hu hb
        go_wp2_with fail
        refine lexGQ_more (Hof.out _ HBZ.out) ?_
        refine lexG_lights 5 (by kernel_rfl) (by kernel_rfl) ?_
        simp only [opsAt, List.take_succ_cons, List.take_zero, List.drop_succ_cons, List.drop_zero, List.filterMap_cons, List.filterMap_nil, List.getElem?_toArray, List.getElem?_cons_succ, List.getElem?_cons_zero]
        change wpQuiet _ _ _ _ (_ :: _ :: _ :: _ :: _ :: []) _
        repeat (first | go_big_quiet_skip | (go_big_quiet_want; go_big_quiet_op; go_big_quiet_on))
        refine wpQuiet_nil ?_
        refine lexG_done ?_
        go_wp2_with fail
        go_meet
        case rel => exact ⟨u5, rfl, rfl, HU.out, HBZ.out⟩
    · simp only [opsAt, List.filterMap_cons, List.filterMap_nil, List.getElem?_toArray, List.getElem?_cons_succ, List.getElem?_cons_zero]
      change wpList _ _ _ (_ :: []) _ _
      go_wp2_with fail
      obtain ⟨hC, hhC⟩ : ∃ h, h = W0.heap.size := ⟨_, rfl⟩
      have hcc : Below W0.heap.size W0 (W0.alloc (.cells (flatE [(comP x u), (comQ y v)]).toArray 24)) := (Below.refl _ _).alloc (Nat.le_refl _) _
      have hC1 : slc (W0.alloc (.cells (flatE [(comP x u), (comQ y v)]).toArray 24)) 6 (.slice (some ⟨hC, 0, none⟩) 2 2) 2 (flatE [(comP x u), (comQ y v)]) := by rw [hhC]; exact slc_built _ _ 6 2 _ rfl
      have HC := Lib.hid hC1
      have HCS := Lib.hid (show hC = W0.heap.size ∧ (W0.alloc (.cells (flatE [(comP x u), (comQ y v)]).toArray 24)).heap.size = W0.heap.size + 1 from ⟨hhC, by simp⟩)
      have HBC := Lib.hid (HB0.out.trans (hcc.mono HB0.out.size))
      rw [← hhC]
      refine lexGQ_more (Hof.out _ HBC.out) ?_
      change lexG _ _ _ _ _ _ _ _ _ (W0.alloc (.cells (flatE [(comP x u), (comQ y v)]).toArray 24))
      generalize W0.alloc (.cells (flatE [(comP x u), (comQ y v)]).toArray 24) = WC at *
      clear hcc hC1 hhC
      refine lexG_one (by kernel_rfl) (by kernel_rfl) ?_
      simp only [opsAt, List.filterMap_cons, List.filterMap_nil, List.getElem?_toArray, List.getElem?_cons_zero]
      change wpList _ _ _ (_ :: []) _ _
      go_wp2_with fail
      obtain ⟨hA, hhA⟩ : ∃ h, h = WC.heap.size := ⟨_, rfl⟩
      have hca : Below WC.heap.size WC (WC.alloc (.cells #[] 24)) := (Below.refl _ _).alloc (Nat.le_refl _) _
      have hA1 : winRow (WC.alloc (.cells #[] 24)) hA 24 6 (.slice (some ⟨hA, 0, none⟩) 0 0) 0 [] := by rw [hhA]; exact winRow_fresh _ _ _
      have HA := Lib.hid hA1
      have HAB := Lib.hid (show W.heap.size ≤ hA by rw [hhA]; exact HBC.out.size)
      have HAS := Lib.hid (show hA = WC.heap.size ∧ (WC.alloc (.cells #[] 24)).heap.size = WC.heap.size + 1 from ⟨hhA, by simp⟩)
      have HBA := Lib.hid (HBC.out.trans (hca.mono HBC.out.size))
      have HC := Lib.hid (HC.out.below hca)
      have HNE := Lib.hid (show hC ≠ hA by have := HCS.out; have := HAS.out; omega)
      rw [← hhA]
      refine lexGQ_more (Hof.out _ HBA.out) ?_
      generalize WC.alloc (.cells #[] 24) = WA at *
      clear hca hA1 hhA
      refine lexG_one (by kernel_rfl) (by kernel_rfl) ?_
      simp only [opsAt, List.filterMap_cons, List.filterMap_nil, List.getElem?_toArray, List.getElem?_cons_succ, List.getElem?_cons_zero]
      change wpList _ _ _ (_ :: []) _ _
      go_wp2_with (at_builtin; refine wpList_append_slc _ rfl _ _ 26 rfl W.heap.size 24 i0 _ 6 40 Tryd.underlying26 HI.out HZ0.out HZ1.out HZ2.out rfl (by decide) _ _ _ rfl (HA.out.base_le fun q hq => by have := (HA.out.lt q hq).1; have := HAB.out; omega) _ 2 (flatE (comR x y u v)) rfl (HSL.out.below HBA.out) (flatE_one _) (by unfold maxLen; omega) (by omega) HBA.out.size ?_; intro p6 x6 hown hgrow hat; refine halt ?_)
      have HP := Lib.hid (show winRow x6 W.heap.size 24 6 p6 2 (flatE (comR x y u v)) by simpa using hown)
      have HBB := Lib.hid (HBA.out.grown hgrow HBA.out.size fun q hq => by have := (HA.out.lt q hq).1; have := HAB.out; omega)
      have HC := Lib.hid (HC.out.keep (S := fun q => some hA = some q) (Mods.grown hgrow fun q hq => hq) fun q hq e => HNE.out (by rw [Option.some.inj e]; exact (Option.some.inj hq)))
      obtain ⟨ad6, cp6, hp6⟩ := hown.len
      have HP6 := Lib.hid hp6
      clear hown hgrow hat hp6
      unfold Halt
      refine lexGQ_more (Hof.out _ HBB.out) ?_
      generalize x6 = WB at *
      generalize p6 = pB at *
      refine lexG_one (by kernel_rfl) (by kernel_rfl) ?_
      simp only [opsAt, List.filterMap_cons, List.filterMap_nil, List.getElem?_toArray, List.getElem?_cons_succ, List.getElem?_cons_zero]
      change wpList _ _ _ (_ :: []) _ _
      go_wp2_with (at_builtin; refine wpList_append_slc _ rfl _ _ 26 rfl W.heap.size 24 i0 _ 6 40 Tryd.underlying26 HI.out HZ0.out HZ1.out HZ2.out rfl (by decide) _ _ _ rfl (HP.out) _ 2 (flatE [(comP x u), (comQ y v)]) rfl HC.out (flatE_one _) (by unfold maxLen; omega) (by omega) HBB.out.size ?_; intro p6 x6 hown hgrow hat; refine halt ?_)
      have HBD := Lib.hid (HBB.out.grown hgrow HBB.out.size fun q hq => (HP.out.lt q hq).1)
      have hsl : slc x6 6 p6 ((comR x y u v) ++ [(comP x u), (comQ y v)]).length (flatE ((comR x y u v) ++ [(comP x u), (comQ y v)])) := by
        rw [flatE_append]
        exact hown.slc
      have HSD := Lib.hid hsl
      clear hown hgrow hat hsl HC HP
      unfold Halt
      refine lexGQ_more (Hof.out _ HBD.out) ?_
      generalize x6 = WD at *
      refine lexG_one (by kernel_rfl) (by kernel_rfl) ?_
      simp only [opsAt, List.filterMap_cons, List.filterMap_nil, List.getElem?_toArray, List.getElem?_cons_succ, List.getElem?_cons_zero]
      change wpList _ _ _ (_ :: []) _ _
      go_wp2_with fail
      refine (replay_c A 2 4 _ ((comR x y u v) ++ [(comP x u), (comQ y v)]) WD (HS.out.below (HBW.out.trans (HBD.out.mono HBW.out.size))) (by omega) (by omega) (by omega) (by omega) HSD.out (by simp [comR])).mono ?_
      rintro ev wz ⟨u5, rfl, hu, hb⟩
      rw [(com_one HX4.out HY4.out u v).1, (com_one HX4.out HY4.out u v).2] at hu
      rw [(com_one HX4.out HY4.out u v).1, show ErrT.nil.val A = .nilIface from rfl]
      have hu : winRow wz WD.heap.size 22 1 u5 4 (u32V _) := hu
      have HU := Lib.hid (hu.base_le fun q hq => Nat.le_trans HBD.out.size (hu.lt q hq).1)
      have HBZ := Lib.hid (HBD.out.trans (hb.mono HBD.out.size))
      clear hu hb
      go_wp2_with fail
      refine lexGQ_more (Hof.out _ HBZ.out) ?_
      refine lexG_lights 5 (by kernel_rfl) (by kernel_rfl) ?_
      simp only [opsAt, List.take_succ_cons, List.take_zero, List.drop_succ_cons, List.drop_zero, List.filterMap_cons, List.filterMap_nil, List.getElem?_toArray, List.getElem?_cons_succ, List.getElem?_cons_zero]
      change wpQuiet _ _ _ _ (_ :: _ :: _ :: _ :: _ :: []) _
      repeat (first | go_big_quiet_skip | (go_big_quiet_want; go_big_quiet_op; go_big_quiet_on))
      refine wpQuiet_nil ?_
      refine lexG_done ?_
      go_wp2_with fail
      go_meet
      case rel => exact ⟨u5, rfl, rfl, HU.out, HBZ.out⟩
  case rest =>
    obtain ⟨ua, rfl, rfl, hU, hbw⟩ := hcut
    have HU1 := Lib.hid hU
    have HBW1 := Lib.hid (HBW.out.trans (hbw.mono HBW.out.size))
    have HSL1 := Lib.hid (HSL.out.below hbw)
    have HPB1 := Lib.hid (show pb < wc.heap.size ∧ _ from ⟨Nat.lt_of_lt_of_le HPB.out.1 hbw.size, (hbw.block pb HPB.out.1).trans HPB.out.2⟩)
    have HQB1 := Lib.hid (show qb < wc.heap.size ∧ _ from ⟨Nat.lt_of_lt_of_le HQB.out.1 hbw.size, (hbw.block qb HQB.out.1).trans HQB.out.2⟩)
    clear HBW HSL HPB HQB hU hbw
    generalize wc = W at *
    have HBW := HBW1
    have HSL := HSL1
    have HPB := HPB1
    have HQB := HQB1
    obtain ⟨ad1, cp1, hua⟩ := HU1.out.len
    have HUA := Lib.hid hua
    clear HBW1 HSL1 HPB1 HQB1 hua
    go_wp2_with fail
    go_cut [16, 17] from 18 (fun s16 s17 wx => ∃ ub, s16 = ub ∧ s17 = .nilIface ∧ winRow wx W.heap.size 22 1 ub 4 (u32V ((comM.set y v).set x u)) ∧ Below W.heap.size W wx)
    case first =>
      refine wp_region_lexG ⟨[], []⟩ [(0, 5), (2, 5)] 13 [1, 3, 4, 0, 2, 5, 6, 7, 8, 9, 10, 11, 12] rfl rfl (fun x => Below W.heap.size W x) (by kernel_rfl) (by kernel_rfl) (Below.refl _ _).drew ?_
      intro S hto hof hne
      have y0 : ∀ z : Wd S, z.w.cell? ⟨qb, 0, none⟩ = some (.int .i64 3) := fun z => ((hto z).cell (p := ⟨qb, 0, none⟩) HQB.out.1).trans (cell_of HQB.out.2 0)
      have y1 : ∀ z : Wd S, z.w.cell? ⟨qb, 1, none⟩ = some (.int .i64 1) := fun z => ((hto z).cell (p := ⟨qb, 1, none⟩) HQB.out.1).trans (cell_of HQB.out.2 1)
      have y2 : ∀ z : Wd S, z.w.cell? ⟨qb, 2, none⟩ = some (.int .i64 y) := fun z => ((hto z).cell (p := ⟨qb, 2, none⟩) HQB.out.1).trans (cell_of HQB.out.2 2)
      have y3 : ∀ z : Wd S, z.w.cell? ⟨qb, 3, none⟩ = some (.int .u32 v) := fun z => ((hto z).cell (p := ⟨qb, 3, none⟩) HQB.out.1).trans (cell_of HQB.out.2 3)
      have y4 : ∀ z : Wd S, z.w.cell? ⟨qb, 4, none⟩ = some (.int .u32 0) := fun z => ((hto z).cell (p := ⟨qb, 4, none⟩) HQB.out.1).trans (cell_of HQB.out.2 4)
      have y5 : ∀ z : Wd S, z.w.cell? ⟨qb, 5, none⟩ = some (.bool false) := fun z => ((hto z).cell (p := ⟨qb, 5, none⟩) HQB.out.1).trans (cell_of HQB.out.2 5)
      have z0 : ∀ z : Wd S, z.w.cell? ⟨pb, 0, none⟩ = some (.int .i64 3) := fun z => ((hto z).cell (p := ⟨pb, 0, none⟩) HPB.out.1).trans (cell_of HPB.out.2 0)
      have z1 : ∀ z : Wd S, z.w.cell? ⟨pb, 1, none⟩ = some (.int .i64 0) := fun z => ((hto z).cell (p := ⟨pb, 1, none⟩) HPB.out.1).trans (cell_of HPB.out.2 1)
      have z2 : ∀ z : Wd S, z.w.cell? ⟨pb, 2, none⟩ = some (.int .i64 x) := fun z => ((hto z).cell (p := ⟨pb, 2, none⟩) HPB.out.1).trans (cell_of HPB.out.2 2)
      have z3 : ∀ z : Wd S, z.w.cell? ⟨pb, 3, none⟩ = some (.int .u32 u) := fun z => ((hto z).cell (p := ⟨pb, 3, none⟩) HPB.out.1).trans (cell_of HPB.out.2 3)
      have z4 : ∀ z : Wd S, z.w.cell? ⟨pb, 4, none⟩ = some (.int .u32 0) := fun z => ((hto z).cell (p := ⟨pb, 4, none⟩) HPB.out.1).trans (cell_of HPB.out.2 4)
      have z5 : ∀ z : Wd S, z.w.cell? ⟨pb, 5, none⟩ = some (.bool false) := fun z => ((hto z).cell (p := ⟨pb, 5, none⟩) HPB.out.1).trans (cell_of HPB.out.2 5)
      have Hof := Lib.hid hof
      clear hto hof
      refine lexG_lights 3 (by kernel_rfl) (by kernel_rfl) ?_
      simp only [opsAt, List.take_succ_cons, List.take_zero, List.drop_succ_cons, List.drop_zero, List.filterMap_cons, List.filterMap_nil, List.getElem?_toArray, List.getElem?_cons_succ, List.getElem?_cons_zero]
      change wpQuiet _ _ _ _ (_ :: _ :: _ :: []) _
      repeat (first | go_big_quiet_skip | (go_big_quiet_want; go_big_quiet_op; go_big_quiet_on))
      refine wpQuiet_nil ?_
      clear y0 y1 y2 y3 y4 y5 z0 z1 z2 z3 z4 z5
      have HB0 := Lib.hid (show Below W.heap.size W W.drew from (Below.refl _ _).drew)
      generalize W.drew = W0 at *
      refine lexG_two (k := 0) (m := 5) (R := [0, 2, 6, 7, 8, 9, 10, 11, 12]) (by kernel_rfl) (by kernel_rfl) (by kernel_rfl) (by kernel_rfl) ?_ ?_
      · simp only [opsAt, List.filterMap_cons, List.filterMap_nil, List.getElem?_toArray, List.getElem?_cons_zero]
        change wpList _ _ _ (_ :: []) _ _
        go_wp2_with fail
        obtain ⟨hA, hhA⟩ : ∃ h, h = W0.heap.size := ⟨_, rfl⟩
        have hca : Below W0.heap.size W0 (W0.alloc (.cells #[] 24)) := (Below.refl _ _).alloc (Nat.le_refl _) _
        have hA1 : winRow (W0.alloc (.cells #[] 24)) hA 24 6 (.slice (some ⟨hA, 0, none⟩) 0 0) 0 [] := by rw [hhA]; exact winRow_fresh _ _ _
        have HA := Lib.hid hA1
        have HAB := Lib.hid (show W.heap.size ≤ hA by rw [hhA]; exact HB0.out.size)
        have HAS := Lib.hid (show hA = W0.heap.size ∧ (W0.alloc (.cells #[] 24)).heap.size = W0.heap.size + 1 from ⟨hhA, by simp⟩)
        have HBA := Lib.hid (HB0.out.trans (hca.mono HB0.out.size))
        rw [← hhA]
        refine lexGQ_more (Hof.out _ HBA.out) ?_
        generalize W0.alloc (.cells #[] 24) = WA at *
        clear hca hA1 hhA
        refine lexG_two (k := 2) (m := 5) (R := [2, 6, 7, 8, 9, 10, 11, 12]) (by kernel_rfl) (by kernel_rfl) (by kernel_rfl) (by kernel_rfl) ?_ ?_
        · simp only [opsAt, List.filterMap_cons, List.filterMap_nil, List.getElem?_toArray, List.getElem?_cons_succ, List.getElem?_cons_zero]
          change wpList _ _ _ (_ :: []) _ _
          go_wp2_with (at_builtin; refine wpList_append_slc _ rfl _ _ 26 rfl W.heap.size 24 i0 _ 6 40 Tryd.underlying26 HI.out HZ0.out HZ1.out HZ2.out rfl (by decide) _ _ _ rfl (HA.out.base_le fun q hq => by have := (HA.out.lt q hq).1; have := HAB.out; omega) _ 2 (flatE (comR x y u v)) rfl (HSL.out.below HBA.out) (flatE_one _) (by unfold maxLen; omega) (by omega) HBA.out.size ?_; intro p6 x6 hown hgrow hat; refine halt ?_)
          have HP := Lib.hid (show winRow x6 W.heap.size 24 6 p6 2 (flatE (comR x y u v)) by simpa using hown)
          have HBB := Lib.hid (HBA.out.grown hgrow HBA.out.size fun q hq => by have := (HA.out.lt q hq).1; have := HAB.out; omega)
          obtain ⟨ad6, cp6, hp6⟩ := hown.len
          have HP6 := Lib.hid hp6
          clear hown hgrow hat hp6
          unfold Halt
          refine lexGQ_more (Hof.out _ HBB.out) ?_
          generalize x6 = WB at *
          generalize p6 = pB at *
          refine lexG_one (by kernel_rfl) (by kernel_rfl) ?_
          simp only [opsAt, List.filterMap_cons, List.filterMap_nil, List.getElem?_toArray, List.getElem?_cons_succ, List.getElem?_cons_zero]
          change wpList _ _ _ (_ :: []) _ _
          go_wp2_with fail
          obtain ⟨hC, hhC⟩ : ∃ h, h = WB.heap.size := ⟨_, rfl⟩
          have hcc : Below WB.heap.size WB (WB.alloc (.cells (flatE [(comQ y v), (comP x u)]).toArray 24)) := (Below.refl _ _).alloc (Nat.le_refl _) _
          have hC1 : slc (WB.alloc (.cells (flatE [(comQ y v), (comP x u)]).toArray 24)) 6 (.slice (some ⟨hC, 0, none⟩) 2 2) 2 (flatE [(comQ y v), (comP x u)]) := by rw [hhC]; exact slc_built _ _ 6 2 _ rfl
          have HC := Lib.hid hC1
          have HCS := Lib.hid (show hC = WB.heap.size ∧ (WB.alloc (.cells (flatE [(comQ y v), (comP x u)]).toArray 24)).heap.size = WB.heap.size + 1 from ⟨hhC, by simp⟩)
          have HBC := Lib.hid (HBB.out.trans (hcc.mono HBB.out.size))
          have HP := Lib.hid (HP.out.below hcc)
          rw [← hhC]
          refine lexGQ_more (Hof.out _ HBC.out) ?_
          change lexG _ _ _ _ _ _ _ _ _ (WB.alloc (.cells (flatE [(comQ y v), (comP x u)]).toArray 24))
          generalize WB.alloc (.cells (flatE [(comQ y v), (comP x u)]).toArray 24) = WC at *
          clear hcc hC1 hhC
          refine lexG_one (by kernel_rfl) (by kernel_rfl) ?_
          simp only [opsAt, List.filterMap_cons, List.filterMap_nil, List.getElem?_toArray, List.getElem?_cons_succ, List.getElem?_cons_zero]
          change wpList _ _ _ (_ :: []) _ _
          go_wp2_with (at_builtin; refine wpList_append_slc _ rfl _ _ 26 rfl W.heap.size 24 i0 _ 6 40 Tryd.underlying26 HI.out HZ0.out HZ1.out HZ2.out rfl (by decide) _ _ _ rfl (HP.out) _ 2 (flatE [(comQ y v), (comP x u)]) rfl HC.out (flatE_one _) (by unfold maxLen; omega) (by omega) HBC.out.size ?_; intro p6 x6 hown hgrow hat; refine halt ?_)
          have HBD := Lib.hid (HBC.out.grown hgrow HBC.out.size fun q hq => (HP.out.lt q hq).1)
          have hsl : slc x6 6 p6 ((comR x y u v) ++ [(comQ y v), (comP x u)]).length (flatE ((comR x y u v) ++ [(comQ y v), (comP x u)])) := by
            rw [flatE_append]
            exact hown.slc
          have HSD := Lib.hid hsl
          clear hown hgrow hat hsl HC HP
          unfold Halt
          refine lexGQ_more (Hof.out _ HBD.out) ?_
          generalize x6 = WD at *
          refine lexG_one (by kernel_rfl) (by kernel_rfl) ?_
          simp only [opsAt, List.filterMap_cons, List.filterMap_nil, List.getElem?_toArray, List.getElem?_cons_succ, List.getElem?_cons_zero]
          change wpList _ _ _ (_ :: []) _ _
          go_wp2_with fail
          refine (replay_c A 2 4 _ ((comR x y u v) ++ [(comQ y v), (comP x u)]) WD (HS.out.below (HBW.out.trans (HBD.out.mono HBW.out.size))) (by omega) (by omega) (by omega) (by omega) HSD.out (by simp [comR])).mono ?_
          rintro ev wz ⟨u5, rfl, hu, hb⟩
          rw [(com_two HX4.out HY4.out u v).1, (com_two HX4.out HY4.out u v).2] at hu
          rw [(com_two HX4.out HY4.out u v).1, show ErrT.nil.val A = .nilIface from rfl]
          have hu : winRow wz WD.heap.size 22 1 u5 4 (u32V _) := hu
          have HU := Lib.hid (hu.base_le fun q hq => Nat.le_trans HBD.out.size (hu.lt q hq).1)
          have HBZ := Lib.hid (HBD.out.trans (hb.mono HBD.out.size))
          clear hu hb
          go_wp2_with fail
          refine lexGQ_more (Hof.out _ HBZ.out) ?_
          refine lexG_lights 5 (by kernel_rfl) (by kernel_rfl) ?_
          simp only [opsAt, List.take_succ_cons, List.take_zero, List.drop_succ_cons, List.drop_zero, List.filterMap_cons, List.filterMap_nil, List.getElem?_toArray, List.getElem?_cons_succ, List.getElem?_cons_zero]
          change wpQuiet _ _ _ _ (_ :: _ :: _ :: _ :: _ :: []) _
          repeat (first | go_big_quiet_skip | (go_big_quiet_want; go_big_quiet_op; go_big_quiet_on))
          refine wpQuiet_nil ?_
          refine lexG_done ?_
          go_wp2_with fail
          go_meet
          case rel => exact ⟨u5, rfl, rfl, HU.out, HBZ.out⟩
        · simp only [opsAt, List.filterMap_cons, List.filterMap_nil, List.getElem?_toArray, List.getElem?_cons_succ, List.getElem?_cons_zero]
          change wpList _ _ _ (_ :: []) _ _
          go_wp2_with fail
          obtain ⟨hC, hhC⟩ : ∃ h, h = WA.heap.size := ⟨_, rfl⟩
          have hcc : Below WA.heap.size WA (WA.alloc (.cells (flatE [(comQ y v), (comP x u)]).toArray 24)) := (Below.refl _ _).alloc (Nat.le_refl _) _
          have hC1 : slc (WA.alloc (.cells (flatE [(comQ y v), (comP x u)]).toArray 24)) 6 (.slice (some ⟨hC, 0, none⟩) 2 2) 2 (flatE [(comQ y v), (comP x u)]) := by rw [hhC]; exact slc_built _ _ 6 2 _ rfl
          have HC := Lib.hid hC1
          have HCS := Lib.hid (show hC = WA.heap.size ∧ (WA.alloc (.cells (flatE [(comQ y v), (comP x u)]).toArray 24)).heap.size = WA.heap.size + 1 from ⟨hhC, by simp⟩)
          have HBC := Lib.hid (HBA.out.trans (hcc.mono HBA.out.size))
          have HA := Lib.hid (HA.out.below hcc)
          have HNE := Lib.hid (show hC ≠ hA by have := HCS.out; have := HAS.out; omega)
          rw [← hhC]
          refine lexGQ_more (Hof.out _ HBC.out) ?_
          change lexG _ _ _ _ _ _ _ _ _ (WA.alloc (.cells (flatE [(comQ y v), (comP x u)]).toArray 24))
          generalize WA.alloc (.cells (flatE [(comQ y v), (comP x u)]).toArray 24) = WC at *
          clear hcc hC1 hhC
          refine lexG_one (by kernel_rfl) (by kernel_rfl) ?_
          simp only [opsAt, List.filterMap_cons, List.filterMap_nil, List.getElem?_toArray, List.getElem?_cons_succ, List.getElem?_cons_zero]
          change wpList _ _ _ (_ :: []) _ _
          go_wp2_with (at_builtin; refine wpList_append_slc _ rfl _ _ 26 rfl W.heap.size 24 i0 _ 6 40 Tryd.underlying26 HI.out HZ0.out HZ1.out HZ2.out rfl (by decide) _ _ _ rfl (HA.out.base_le fun q hq => by have := (HA.out.lt q hq).1; have := HAB.out; omega) _ 2 (flatE (comR x y u v)) rfl (HSL.out.below HBC.out) (flatE_one _) (by unfold maxLen; omega) (by omega) HBC.out.size ?_; intro p6 x6 hown hgrow hat; refine halt ?_)
          have HP := Lib.hid (show winRow x6 W.heap.size 24 6 p6 2 (flatE (comR x y u v)) by simpa using hown)
          have HBB := Lib.hid (HBC.out.grown hgrow HBC.out.size fun q hq => by have := (HA.out.lt q hq).1; have := HAB.out; omega)
          have HC := Lib.hid (HC.out.keep (S := fun q => some hA = some q) (Mods.grown hgrow fun q hq => hq) fun q hq e => HNE.out (by rw [Option.some.inj e]; exact (Option.some.inj hq)))
          obtain ⟨ad6, cp6, hp6⟩ := hown.len
          have HP6 := Lib.hid hp6
          clear hown hgrow hat hp6
          unfold Halt
          refine lexGQ_more (Hof.out _ HBB.out) ?_
          generalize x6 = WB at *
          generalize p6 = pB at *
          refine lexG_one (by kernel_rfl) (by kernel_rfl) ?_
          simp only [opsAt, List.filterMap_cons, List.filterMap_nil, List.getElem?_toArray, List.getElem?_cons_succ, List.getElem?_cons_zero]
          change wpList _ _ _ (_ :: []) _ _
          go_wp2_with (at_builtin; refine wpList_append_slc _ rfl _ _ 26 rfl W.heap.size 24 i0 _ 6 40 Tryd.underlying26 HI.out HZ0.out HZ1.out HZ2.out rfl (by decide) _ _ _ rfl (HP.out) _ 2 (flatE [(comQ y v), (comP x u)]) rfl HC.out (flatE_one _) (by unfold maxLen; omega) (by omega) HBB.out.size ?_; intro p6 x6 hown hgrow hat; refine halt ?_)
          have HBD := Lib.hid (HBB.out.grown hgrow HBB.out.size fun q hq => (HP.out.lt q hq).1)
          have hsl : slc x6 6 p6 ((comR x y u v) ++ [(comQ y v), (comP x u)]).length (flatE ((comR x y u v) ++ [(comQ y v), (comP x u)])) := by
            rw [flatE_append]
            exact hown.slc
          have HSD := Lib.hid hsl
          clear hown hgrow hat hsl HC HP
          unfold Halt
          refine lexGQ_more (Hof.out _ HBD.out) ?_
          generalize x6 = WD at *
          refine lexG_one (by kernel_rfl) (by kernel_rfl) ?_
          simp only [opsAt, List.filterMap_cons, List.filterMap_nil, List.getElem?_toArray, List.getElem?_cons_succ, List.getElem?_cons_zero]
          change wpList _ _ _ (_ :: []) _ _
          go_wp2_with fail
          refine (replay_c A 2 4 _ ((comR x y u v) ++ [(comQ y v), (comP x u)]) WD (HS.out.below (HBW.out.trans (HBD.out.mono HBW.out.size))) (by omega) (by omega) (by omega) (by omega) HSD.out (by simp [comR])).mono ?_
          rintro ev wz ⟨u5, rfl, hu, hb⟩
          rw [(com_two HX4.out HY4.out u v).1, (com_two HX4.out HY4.out u v).2] at hu
          rw [(com_two HX4.out HY4.out u v).1, show ErrT.nil.val A = .nilIface from rfl]
          have hu : winRow wz WD.heap.size 22 1 u5 4 (u32V _) := hu
          have HU := Lib.hid (hu.base_le fun q hq => Nat.le_trans HBD.out.size (hu.lt q hq).1)
          have HBZ := Lib.hid (HBD.out.trans (hb.mono HBD.out.size))
          clear hu hb
          go_wp2_with fail
          refine lexGQ_more (Hof.out _ HBZ.out) ?_
          refine lexG_lights 5 (by kernel_rfl) (by kernel_rfl) ?_
          simp only [opsAt, List.take_succ_cons, List.take_zero, List.drop_succ_cons, List.drop_zero, List.filterMap_cons, List.filterMap_nil, List.getElem?_toArray, List.getElem?_cons_succ, List.getElem?_cons_zero]
          change wpQuiet _ _ _ _ (_ :: _ :: _ :: _ :: _ :: []) _
          repeat (first | go_big_quiet_skip | (go_big_quiet_want; go_big_quiet_op; go_big_quiet_on))
          refine wpQuiet_nil ?_
          refine lexG_done ?_
          go_wp2_with fail
          go_meet
          case rel => exact ⟨u5, rfl, rfl, HU.out, HBZ.out⟩
      · simp only [opsAt, List.filterMap_cons, List.filterMap_nil, List.getElem?_toArray, List.getElem?_cons_succ, List.getElem?_cons_zero]
        change wpList _ _ _ (_ :: []) _ _
        go_wp2_with fail
        obtain ⟨hC, hhC⟩ : ∃ h, h = W0.heap.size := ⟨_, rfl⟩
        have hcc : Below W0.heap.size W0 (W0.alloc (.cells (flatE [(comQ y v), (comP x u)]).toArray 24)) := (Below.refl _ _).alloc (Nat.le_refl _) _
        have hC1 : slc (W0.alloc (.cells (flatE [(comQ y v), (comP x u)]).toArray 24)) 6 (.slice (some ⟨hC, 0, none⟩) 2 2) 2 (flatE [(comQ y v), (comP x u)]) := by rw [hhC]; exact slc_built _ _ 6 2 _ rfl
        have HC := Lib.hid hC1
        have HCS := Lib.hid (show hC = W0.heap.size ∧ (W0.alloc (.cells (flatE [(comQ y v), (comP x u)]).toArray 24)).heap.size = W0.heap.size + 1 from ⟨hhC, by simp⟩)
        have HBC := Lib.hid (HB0.out.trans (hcc.mono HB0.out.size))
        rw [← hhC]
        refine lexGQ_more (Hof.out _ HBC.out) ?_
        change lexG _ _ _ _ _ _ _ _ _ (W0.alloc (.cells (flatE [(comQ y v), (comP x u)]).toArray 24))
        generalize W0.alloc (.cells (flatE [(comQ y v), (comP x u)]).toArray 24) = WC at *
        clear hcc hC1 hhC
        refine lexG_one (by kernel_rfl) (by kernel_rfl) ?_
        simp only [opsAt, List.filterMap_cons, List.filterMap_nil, List.getElem?_toArray, List.getElem?_cons_zero]
        change wpList _ _ _ (_ :: []) _ _
        go_wp2_with fail
        obtain ⟨hA, hhA⟩ : ∃ h, h = WC.heap.size := ⟨_, rfl⟩
        have hca : Below WC.heap.size WC (WC.alloc (.cells #[] 24)) := (Below.refl _ _).alloc (Nat.le_refl _) _
        have hA1 : winRow (WC.alloc (.cells #[] 24)) hA 24 6 (.slice (some ⟨hA, 0, none⟩) 0 0) 0 [] := by rw [hhA]; exact winRow_fresh _ _ _
        have HA := Lib.hid hA1
        have HAB := Lib.hid (show W.heap.size ≤ hA by rw [hhA]; exact HBC.out.size)
        have HAS := Lib.hid (show hA = WC.heap.size ∧ (WC.alloc (.cells #[] 24)).heap.size = WC.heap.size + 1 from ⟨hhA, by simp⟩)
        have HBA := Lib.hid (HBC.out.trans (hca.mono HBC.out.size))
        have HC := Lib.hid (HC.out.below hca)
        have HNE := Lib.hid (show hC ≠ hA by have := HCS.out; have := HAS.out; omega)
        rw [← hhA]
        refine lexGQ_more (Hof.out _ HBA.out) ?_
        generalize WC.alloc (.cells #[] 24) = WA at *
        clear hca hA1 hhA
        refine lexG_one (by kernel_rfl) (by kernel_rfl) ?_
        simp only [opsAt, List.filterMap_cons, List.filterMap_nil, List.getElem?_toArray, List.getElem?_cons_succ, List.getElem?_cons_zero]
        change wpList _ _ _ (_ :: []) _ _
        go_wp2_with (at_builtin; refine wpList_append_slc _ rfl _ _ 26 rfl W.heap.size 24 i0 _ 6 40 Tryd.underlying26 HI.out HZ0.out HZ1.out HZ2.out rfl (by decide) _ _ _ rfl (HA.out.base_le fun q hq => by have := (HA.out.lt q hq).1; have := HAB.out; omega) _ 2 (flatE (comR x y u v)) rfl (HSL.out.below HBA.out) (flatE_one _) (by unfold maxLen; omega) (by omega) HBA.out.size ?_; intro p6 x6 hown hgrow hat; refine halt ?_)
        have HP := Lib.hid (show winRow x6 W.heap.size 24 6 p6 2 (flatE (comR x y u v)) by simpa using hown)
        have HBB := Lib.hid (HBA.out.grown hgrow HBA.out.size fun q hq => by have := (HA.out.lt q hq).1; have := HAB.out; omega)
        have HC := Lib.hid (HC.out.keep (S := fun q => some hA = some q) (Mods.grown hgrow fun q hq => hq) fun q hq e => HNE.out (by rw [Option.some.inj e]; exact (Option.some.inj hq)))
        obtain ⟨ad6, cp6, hp6⟩ := hown.len
        have HP6 := Lib.hid hp6
        clear hown hgrow hat hp6
        unfold Halt
        refine lexGQ_more (Hof.out _ HBB.out) ?_
        generalize x6 = WB at *
        generalize p6 = pB at *
        refine lexG_one (by kernel_rfl) (by kernel_rfl) ?_
        simp only [opsAt, List.filterMap_cons, List.filterMap_nil, List.getElem?_toArray, List.getElem?_cons_succ, List.getElem?_cons_zero]
        change wpList _ _ _ (_ :: []) _ _
        go_wp2_with (at_builtin; refine wpList_append_slc _ rfl _ _ 26 rfl W.heap.size 24 i0 _ 6 40 Tryd.underlying26 HI.out HZ0.out HZ1.out HZ2.out rfl (by decide) _ _ _ rfl (HP.out) _ 2 (flatE [(comQ y v), (comP x u)]) rfl HC.out (flatE_one _) (by unfold maxLen; omega) (by omega) HBB.out.size ?_; intro p6 x6 hown hgrow hat; refine halt ?_)
        have HBD := Lib.hid (HBB.out.grown hgrow HBB.out.size fun q hq => (HP.out.lt q hq).1)
        have hsl : slc x6 6 p6 ((comR x y u v) ++ [(comQ y v), (comP x u)]).length (flatE ((comR x y u v) ++ [(comQ y v), (comP x u)])) := by
          rw [flatE_append]
          exact hown.slc
        have HSD := Lib.hid hsl
        clear hown hgrow hat hsl HC HP
        unfold Halt
        refine lexGQ_more (Hof.out _ HBD.out) ?_
        generalize x6 = WD at *
        refine lexG_one (by kernel_rfl) (by kernel_rfl) ?_
        simp only [opsAt, List.filterMap_cons, List.filterMap_nil, List.getElem?_toArray, List.getElem?_cons_succ, List.getElem?_cons_zero]
        change wpList _ _ _ (_ :: []) _ _
        go_wp2_with fail
        refine (replay_c A 2 4 _ ((comR x y u v) ++ [(comQ y v), (comP x u)]) WD (HS.out.below (HBW.out.trans (HBD.out.mono HBW.out.size))) (by omega) (by omega) (by omega) (by omega) HSD.out (by simp [comR])).mono ?_
        rintro ev wz ⟨u5, rfl, hu, hb⟩
        rw [(com_two HX4.out HY4.out u v).1, (com_two HX4.out HY4.out u v).2] at hu
        rw [(com_two HX4.out HY4.out u v).1, show ErrT.nil.val A = .nilIface from rfl]
        have hu : winRow wz WD.heap.size 22 1 u5 4 (u32V _) := hu
        have HU := Lib.hid (hu.base_le fun q hq => Nat.le_trans HBD.out.size (hu.lt q hq).1)
        have HBZ := Lib.hid (HBD.out.trans (hb.mono HBD.out.size))
        clear hu hb
        go_wp2_with fail
        refine lexGQ_more (Hof.out _ HBZ.out) ?_
        refine lexG_lights 5 (by kernel_rfl) (by kernel_rfl) ?_
        simp only [opsAt, List.take_succ_cons, List.take_zero, List.drop_succ_cons, List.drop_zero, List.filterMap_cons, List.filterMap_nil, List.getElem?_toArray, List.getElem?_cons_succ, List.getElem?_cons_zero]
        change wpQuiet _ _ _ _ (_ :: _ :: _ :: _ :: _ :: []) _
        repeat (first | go_big_quiet_skip | (go_big_quiet_want; go_big_quiet_op; go_big_quiet_on))
        refine wpQuiet_nil ?_
        refine lexG_done ?_
        go_wp2_with fail
        go_meet
        case rel => exact ⟨u5, rfl, rfl, HU.out, HBZ.out⟩
    case rest =>
      obtain ⟨ub, rfl, rfl, hU, hbw⟩ := hcut
      have HU2 := Lib.hid hU
      have HU3 := Lib.hid (HU1.out.below hbw)
      have HBZ := Lib.hid (HBW.out.trans (hbw.mono HBW.out.size))
      have hua := HUA.out
      obtain ⟨ad2, cp2, rfl⟩ := hU.len
      subst hua
      clear HBW HSL HPB HQB hU hbw HU1 HUA
      generalize wc = W at *
      have gx4 : (x : Int) < 4 := by have := HX4.out; omega
      have gy4 : (y : Int) < 4 := by have := HY4.out; omega
      go_wp2_with fail
      refine (sameU_c ((comM.set x u).set y v) ((comM.set y v).set x u) _ _ W (by rw [show ((comM.set x u).set y v).length = 4 by simp [comM]]; exact HU3.out.slc) (by rw [show ((comM.set y v).set x u).length = 4 by simp [comM]]; exact HU2.out.slc) (by simp [comM]) (by simp [comM])).mono ?_
      rintro ev wz ⟨rfl, hb⟩
      have HBZ2 := Lib.hid (HBZ.out.trans (hb.mono HBZ.out.size))
      have HU4 := Lib.hid (HU3.out.below hb)
      have HU5 := Lib.hid (HU2.out.below hb)
      clear hb HBZ HU2 HU3
      obtain ⟨g1, o1, c1, he1, _, _, hg1, hc1⟩ := HU4.out.form (by omega)
      obtain ⟨g2, o2, c2, he2, _, _, hg2, hc2⟩ := HU5.out.form (by omega)
      simp only [Value.slice.injEq] at he1 he2
      obtain ⟨rfl, _, rfl⟩ := he1
      obtain ⟨rfl, _, rfl⟩ := he2
      have e1 := hc1 y _ (u32V_at (l := (comM.set x u).set y v) (by simpa [comM] using HY4.out))
      have e2 := hc2 x _ (u32V_at (l := (comM.set y v).set x u) (by simpa [comM] using HX4.out))
      rw [com_at HY4.out] at e1
      rw [com_at HX4.out] at e2
      have HSM := Lib.hid (com_same HX4.out HY4.out u v)
      clear hc1 hc2 HU4 HU5
      have gv : (v == v) = true := by simp
      have gu : (u == u) = true := by simp
      by_cases hxy : x = y
      · have HXY := Lib.hid hxy
        have gxy : ((x : Int) != (y : Int)) = false := by simp [hxy]
        by_cases huv : u = v
        · have guv : (u == v) = true := by simpa using huv
          rw [decide_eq_true (HSM.out.2 (.inr huv))]
          clear hxy huv
          go_wp2_with fail
          refine (tsoRuns A _ (HS.out.below HBZ2.out)).mono ?_
          rintro ev w4 ⟨rfl, hb4⟩
          go_wp2_with fail
          go_ret
          exact ⟨rfl, HBZ2.out.trans (hb4.mono HBZ2.out.size)⟩
        · have guv : (u == v) = false := by simpa using huv
          rw [decide_eq_false (fun h => (HSM.out.1 h).elim (fun h => h hxy) huv)]
          clear hxy huv
          go_wp2_with fail
          refine (tsoRuns A _ (HS.out.below HBZ2.out)).mono ?_
          rintro ev w4 ⟨rfl, hb4⟩
          go_wp2_with fail
          go_ret
          exact ⟨rfl, HBZ2.out.trans (hb4.mono HBZ2.out.size)⟩
      · have gxy : ((x : Int) != (y : Int)) = true := by
          simp only [bne_iff_ne, ne_eq]
          omega
        rw [decide_eq_true (HSM.out.2 (.inl hxy))]
        clear hxy
        go_wp2_with fail
        refine (tsoRuns A _ (HS.out.below HBZ2.out)).mono ?_
        rintro ev w4 ⟨rfl, hb4⟩
        go_wp2_with fail
        go_ret
        exact ⟨rfl, HBZ2.out.trans (hb4.mono HBZ2.out.size)⟩

end Go.Proofs.YtamklohnmbgklaaDoor
