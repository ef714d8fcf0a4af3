/- A program out of a reader. -/
import Derived.Test.YtpljdbcifaeblaaDoorPg2
import Derived.Test.YtpljdbcifaeblaaDoorRd4
import Derived.Test.YtpljdbcifaeblaaDoorPk5
import Derived.Test.YtpljdbcifaeblaaDoorCpy
import Derived.Deep.Cut
namespace Go.Proofs.YtpljdbcifaeblaaDoor
open Go.RowKit Go.Extern.Stop Go.Stop Go.Extern

theorem nInfoP : (Tryd.prog.info? 29).map (fun i => (i.zero, i.size, i.bytes)) = some (some (.agg #[.int .i64 0, .int .i64 0, .int .u32 0, .int .u32 0]), 4, 24) := by kernel_rfl
theorem cells_new (w : World) (cs : List Value) (ty : TypeId) : ∀ j u, cs[j]? = some u → (w.alloc (.cells cs.toArray ty)).cell? ((⟨w.heap.size, 0, none⟩ : Addr).add j) = some u := fun j u h => by
  rw [Addr.add_lit, Nat.zero_add, World.cell?_alloc_new]
  simpa using h
theorem step_in (L : List Nat) (at_ : Nat) (e : ErrT) (lo hi : Int) : (stepR L at_ e (inOk lo hi)).1 = 0 ∨ (lo ≤ (stepR L at_ e (inOk lo hi)).1 ∧ (stepR L at_ e (inOk lo hi)).1 ≤ hi) := by
  unfold stepR
  split
  · split
    · split
      · next h =>
        simp only [inOk, Bool.and_eq_true, decide_eq_true_eq] at h
        exact .inr h
      · exact .inl rfl
    · exact .inl rfl
    · exact .inl rfl
  · exact .inl rfl
/-- A number, if it is told. -/
def rdF (L : List Nat) (s : Nat × ErrT) (on : Bool) (lo hi : Int) : Int × Nat × ErrT := if on then stepR L s.1 s.2 (inOk lo hi) else (0, s)
/-- The next operation. -/
def getOp (W : Int) (L : List Nat) (s : Nat × ErrT) : OpV × Nat × ErrT :=
  let k := rdF L s true 1 4
  let a := rdF L k.2 (nmA k.1) 0 (W - 1)
  let v := rdF L a.2 (nmV k.1) 0 4294967295
  let o := rdF L v.2 (nmO k.1) 0 4294967295
  (⟨k.1, a.1, v.1, o.1⟩, o.2)
/-- So many operations, while nothing is wrong. -/
def getN (W : Int) (L : List Nat) : Nat → Nat × ErrT → List OpV × Nat × ErrT
  | 0, s => ([], s)
  | n + 1, s => if s.2.isNil then ((getOp W L s).1 :: (getN W L n (getOp W L s).2).1, (getN W L n (getOp W L s).2).2) else ([], s)
def getP (W : Int) (L : List Nat) (s : Nat × ErrT) : List OpV × Nat × ErrT := getN W L (stepR L s.1 s.2 (inOk 0 64)).1.toNat (stepR L s.1 s.2 (inOk 0 64)).2
theorem getN_more {W : Int} {L : List Nat} {k at_ : Nat} {o : OpV} {s : Nat × ErrT} (h : getOp W L (at_, .nil) = (o, s)) (acc : List OpV) : (acc ++ (getN W L (k + 1) (at_, .nil)).1, (getN W L (k + 1) (at_, .nil)).2) = ((acc ++ [o]) ++ (getN W L k s).1, (getN W L k s).2) := by
  rw [getN]
  simp [h, ErrT.isNil]
theorem getN_none {W : Int} {L : List Nat} {k at_ : Nat} {e : ErrT} (h : e.isNil = false) (acc : List OpV) : (acc ++ (getN W L k (at_, e)).1, (getN W L k (at_, e)).2) = (acc, at_, e) := by
  cases k with
  | zero => simp [getN]
  | succ k => rw [getN, if_neg (by simp [h])]; simp
/-- What Get answers. -/
def GetP (A : Nat → Addr) (w : World) (b : Nat) (v : Value) (L : List Nat) (R : List OpV × Nat × ErrT) (ev : Ending) (w' : World) : Prop :=
  ∃ u, ev = .returned u ∧ RdAt w' A b v L R.2.1 R.2.2 ∧ (if R.2.2.isNil then winRow w' w.heap.size 29 4 u R.1.length (flatP R.1) else u = .slice none 0 0) ∧ Mods (onlyS b) w w'

theorem slc.keepQ {S : Nat → Prop} {w w' : World} {size : Nat} {v : Value} {n : Nat} {xs : List Value} (h : slc w size v n xs) (hm : Mods S w w') (hs : 0 < n → ∀ g, v.ownBlock = some g → ¬ S g) : slc w' size v n xs := by
  obtain ⟨h1, a, cap, hv, h2⟩ := h
  refine ⟨h1, a, cap, hv, fun hn => ?_⟩
  obtain ⟨g, off, ha, hg, hc⟩ := h2 hn
  refine ⟨g, off, ha, Nat.lt_of_lt_of_le hg hm.size, fun j u hu => ?_⟩
  rw [hm.cell (p := ⟨g, off + j, none⟩) hg (hs hn g (by rw [hv, ha]; rfl))]
  exact hc j u hu
theorem slc.own_lt {w : World} {size : Nat} {v : Value} {n : Nat} {xs : List Value} (h : slc w size v n xs) (hn : 0 < n) : ∀ g, v.ownBlock = some g → g < w.heap.size := by
  obtain ⟨h1, a, cap, hv, h2⟩ := h
  obtain ⟨g, off, ha, hg, hc⟩ := h2 hn
  intro q hq
  rw [hv, ha] at hq
  obtain rfl := Option.some.inj hq
  exact hg
theorem RdAt.keepQ {S : Nat → Prop} {w w' : World} {A : Nat → Addr} {b : Nat} {v : Value} {L : List Nat} {at_ : Nat} {e : ErrT} (h : RdAt w A b v L at_ e) (hm : Mods S w w') (hb : ¬ S b) (hv : 0 < L.length → ∀ g, v.ownBlock = some g → ¬ S g) : RdAt w' A b v L at_ e :=
  ⟨(hm.block b h.lt hb).trans h.blk, h.row.keepQ hm hv, h.own, h.le, h.big, h.byt, h.cap⟩
/-- The reader, and the operations read so far. -/
structure GtL (w wr : World) (A : Nat → Addr) (b : Nat) (v : Value) (L : List Nat) (s : Value) (acc : List OpV) (at_ : Nat) (e : ErrT) : Prop where
  row : winRow wr w.heap.size 29 4 s acc.length (flatP acc)
  rd : RdAt wr A b v L at_ e
  mods : Mods (onlyS b) w wr
  lt : b < w.heap.size
  vl : 0 < L.length → ∀ g, v.ownBlock = some g → g < w.heap.size
section
variable {w wr : World} {A : Nat → Addr} {b : Nat} {v : Value} {L : List Nat} {s : Value} {acc : List OpV} {at_ : Nat} {e : ErrT}
theorem GtL.read {w1 : World} {at2 : Nat} {e2 : ErrT} (h : GtL w wr A b v L s acc at_ e) (hr : RdAt w1 A b v L at2 e2) (hm : Mods (onlyS b) wr w1) : GtL w w1 A b v L s acc at2 e2 :=
  ⟨h.row.keep fun q hq => hm.block q (h.row.lt q hq).2 fun (x : q = b) => by have := (h.row.lt q hq).1; have := h.lt; omega, hr, h.mods.trans hm fun _ _ x => x, h.lt, h.vl⟩
theorem GtL.below {wq : World} (h : GtL w wr A b v L s acc at_ e) (hb : Below wr.heap.size wr wq) : GtL w wq A b v L s acc at_ e :=
  ⟨h.row.below hb, h.rd.below hb, h.mods.trans (Mods.of_below (S := onlyS b) hb) fun _ _ x => x, h.lt, h.vl⟩
theorem GtL.setX {wz : World} {hE : Nat} (h : GtL w wr A b v L s acc at_ e) (hM : Mods (fun q => q = hE) wr wz) (h1 : w.heap.size ≤ hE) (h2 : s.ownBlock ≠ some hE) : GtL w wz A b v L s acc at_ e :=
  ⟨h.row.keep fun q hq => hM.block q (h.row.lt q hq).2 fun (x : q = hE) => h2 (x ▸ hq), h.rd.keepQ hM (fun (x : b = hE) => by have := h.lt; omega) fun hL g hg (x : g = hE) => by have := h.vl hL g hg; omega, h.mods.trans hM fun i hi (x : i = hE) => by omega, h.lt, h.vl⟩
theorem GtL.more {wq wz : World} {g off cap : Nat} {o : OpV} (h : GtL w wr A b v L s acc at_ e) (hall : Below wr.heap.size wr wq) (hrow : winRow wz w.heap.size 29 4 (.slice (some ⟨g, off, none⟩) (acc.length + 1) cap) (acc.length + 1) (flatP acc ++ flatP [o]))
    (hgrow : wq.grownBy wz s.ownBlock) : GtL w wz A b v L (.slice (some ⟨g, off, none⟩) (acc.length + 1) cap) (acc ++ [o]) at_ e := by
  have h2 := h.below hall
  have hM : Mods (fun k => s.ownBlock = some k) wq wz := Mods.grown hgrow fun k hk => hk
  have hlen : (acc ++ [o]).length = acc.length + 1 := by simp
  refine ⟨by rw [hlen, flatP_append]; exact hrow, h2.rd.keepQ hM (fun hx => by have := (h2.row.lt b hx).1; have := h.lt; omega) (fun hL g hg hx => by have := (h2.row.lt g hx).1; have := h.vl hL g hg; omega), h2.mods.trans hM fun i hi hx => by have := (h2.row.lt i hx).1; omega, h.lt, h.vl⟩
end

set_option maxRecDepth 100000 in
set_option maxHeartbeats 8000000 in
theorem get_c (A : Nat → Addr) (b : Nat) (v : Value) (L : List Nat) (at_ : Nat) (e : ErrT) (W : Int) (w : World) (hs : ∀ w', Mods (onlyS b) w w' → SentAt w' A) (h : RdAt w A b v L at_ e) (hW : 1 ≤ W ∧ W ≤ 128) :
    Calls Tryd.prog 44 #[.pointer (some ⟨b, 0, none⟩), .int .i64 W] w (GetP A w b v L (getP W L (at_, e))) := by
  obtain ⟨i0, hi0, hi1⟩ := Option.map_eq_some_iff.1 nInfoP
  simp only [Prod.mk.injEq] at hi1
  obtain ⟨hz0, hz1, hz2⟩ := hi1
  have HI := Lib.hid hi0
  have HZ0 := Lib.hid hz0
  have HZ1 := Lib.hid hz1
  have HZ2 := Lib.hid hz2
  have HS := Lib.hid hs
  have HR := Lib.hid h
  have HWB := Lib.hid hW
  have hm0 : max W 0 = W := by omega
  have hm1 : min W 128 = W := by omega
  obtain ⟨RES, hRES⟩ : ∃ R, getP W L (at_, e) = R := ⟨_, rfl⟩
  rw [hRES]
  unfold getP at hRES
  simp only at hRES
  clear hs h hi0 hz0 hz1 hz2
  go_enter Tryd.func44, Tryd.ntmps44
  go_wp2_with fail
  refine (rin_c A b v L at_ e 0 64 w (HS.out _ (Mods.refl _ _)) HR.out).mono ?_
  rintro ev w1 ⟨rfl, hr1, hm1'⟩
  have hN := step_in L at_ e 0 64
  generalize stepR L at_ e (inOk 0 64) = st at *
  obtain ⟨nn, at1, e1⟩ := st
  simp only at hr1 hN hRES ⊢
  obtain ⟨m, rfl⟩ := Int.eq_ofNat_of_zero_le (show 0 ≤ nn by omega)
  have HM64 := Lib.hid (show m ≤ 64 by omega)
  rw [Int.toNat_natCast] at hRES
  have HRE0 := Lib.hid hRES
  have HG := Lib.hid (show GtL w w1 A b v L (.slice none 0 0) [] at1 e1 from ⟨winRow_nil .., hr1, hm1', HR.out.lt, fun hL => HR.out.row.own_lt hL⟩)
  clear hr1 hm1' hN HR hRES
  go_wp2_with fail
  go_loopw [5, 6] (fun s5 s6 wr => ∃ (k : Nat) (acc : List OpV) (at_ : Nat) (e : ErrT), k ≤ 64 ∧ acc.length + k ≤ 64 ∧ s6 = .int .i64 k ∧ RES = (acc ++ (getN W L k (at_, e)).1, (getN W L k (at_, e)).2) ∧ GtL w wr A b v L s5 acc at_ e) (fun _ s6 _ => (intOf s6).toNat)
  case atStart => exact ⟨m, [], at1, e1, HM64.out, by have := HM64.out; simp; omega, rfl, by rw [HRE0.out]; rfl, HG.out⟩
  case round =>
    clear HG
    obtain ⟨k, acc, at_, e, hk, hak, rfl, hres, hG⟩ := hrel
    have HG := Lib.hid hG
    have HRES := Lib.hid hres
    have HACC := Lib.hid hak
    obtain ⟨ar, cr, rfl⟩ := hG.row.len
    clear hres hG hak
    cases hn : e.isNil with
    | false =>
      obtain ⟨t2, u2, hev⟩ := e.val_iface A hn
      have hne := fun w => run_neq_iface_nil (P := Tryd.prog) (w := w) 24 (by kernel_rfl) t2 u2
      have heq := fun w => run_eql_iface_nil (P := Tryd.prog) (w := w) 24 (by kernel_rfl) t2 u2
      have HN := Lib.hid hn
      have HEV := Lib.hid hev
      clear hn
      cases k with
      | zero =>
        clear hev
        go_wp2_with fail
        refine (wrong_c A b v L at_ e wr HG.out.rd).mono ?_
        rintro ev w' ⟨rfl, hww⟩
        obtain rfl := hww
        rw [HEV.out]
        go_wp2_with fail
        go_ret
        unfold GetP
        rw [HRES.out, getN_none HN.out acc]
        exact ⟨_, rfl, HG.out.rd, by simp only [HN.out]; rfl, HG.out.mods⟩
      | succ k =>
        have g1 : decide (((k + 1 : Nat) : Int) > 0) = true := by simp <;> omega
        clear hev
        go_wp2_with fail
        refine (wrong_c A b v L at_ e wr HG.out.rd).mono ?_
        rintro ev w' ⟨rfl, hww⟩
        obtain rfl := hww
        rw [HEV.out]
        go_wp2_with fail
        refine (wrong_c A b v L at_ e wr HG.out.rd).mono ?_
        rintro ev w' ⟨rfl, hww⟩
        obtain rfl := hww
        rw [HEV.out]
        go_wp2_with fail
        go_ret
        unfold GetP
        rw [HRES.out, getN_none HN.out acc]
        exact ⟨_, rfl, HG.out.rd, by simp only [HN.out]; rfl, HG.out.mods⟩
    | true =>
      obtain rfl : e = .nil := by cases e <;> first | rfl | cases hn
      clear hn
      cases k with
      | zero =>
        go_wp2_with fail
        refine (wrong_c A b v L at_ .nil wr HG.out.rd).mono ?_
        rintro ev w' ⟨rfl, hww⟩
        obtain rfl := hww
        rw [show ErrT.nil.val A = .nilIface from rfl]
        go_wp2_with fail
        go_ret
        unfold GetP
        rw [HRES.out, show (acc ++ (getN W L 0 (at_, .nil)).1, (getN W L 0 (at_, .nil)).2) = (acc, at_, ErrT.nil) by simp [getN]]
        exact ⟨_, rfl, HG.out.rd, HG.out.row, HG.out.mods⟩
      | succ k =>
        have g1 : decide (((k + 1 : Nat) : Int) > 0) = true := by simp <;> omega
        go_wp2_with fail
        refine (wrong_c A b v L at_ .nil wr HG.out.rd).mono ?_
        rintro ev w' ⟨rfl, hww⟩
        obtain rfl := hww
        rw [show ErrT.nil.val A = .nilIface from rfl]
        go_wp2_with fail
        refine (rin_c A b v L at_ .nil 1 4 wr (HS.out _ HG.out.mods) HG.out.rd).mono ?_
        rintro ev w1 ⟨rfl, hr1, hm1⟩
        have hK := step_in L at_ .nil 1 4
        generalize hst : stepR L at_ .nil (inOk 1 4) = st at *
        obtain ⟨K, at1, e1⟩ := st
        simp only at hr1 hK ⊢
        have H1 := Lib.hid hst
        have HG1 := Lib.hid (HG.out.read hr1 hm1)
        have hK5 : K = 0 ∨ K = 1 ∨ K = 2 ∨ K = 3 ∨ K = 4 := by omega
        clear hst hr1 hm1 hK HG
        rcases hK5 with rfl | rfl | rfl | rfl | rfl
        · have hX := heap_alloc_new w1 (.cells #[.int .i64 (0 : Int), .int .i64 0, .int .u32 0, .int .u32 0] 29)
          have hba : Below w1.heap.size w1 (w1.alloc (.cells #[.int .i64 (0 : Int), .int .i64 0, .int .u32 0, .int .u32 0] 29)) := (Below.refl _ _).alloc (Nat.le_refl _) _
          have HGA := Lib.hid (HG1.out.below hba)
          have HSZ := Lib.hid (show (∀ g, (Value.slice ar acc.length cr).ownBlock = some g → g < w1.heap.size) ∧ w.heap.size ≤ w1.heap.size from ⟨fun g hg => (HG1.out.row.lt g hg).2, HG1.out.mods.size⟩)
          have HXA := Lib.hid hX
          clear hX hba HG1
          go_wp2_with fail
          refine (named_c (0 : Int) (w1.alloc (.cells #[.int .i64 (0 : Int), .int .i64 0, .int .u32 0, .int .u32 0] 29))).mono ?_
          rintro ev w2 ⟨rfl, hb2⟩
          rw [show nmA (0 : Int) = false from rfl, show nmV (0 : Int) = false from rfl, show nmO (0 : Int) = false from rfl]
          have hbf : Below w2.heap.size w2 (w2.alloc (.cells #[.bool false, .bool false, .bool false] 73)) := (Below.refl _ _).alloc (Nat.le_refl _) _
          have hb3 := hb2.trans (hbf.mono hb2.size)
          have hF := heap_alloc_new w2 (.cells #[.bool false, .bool false, .bool false] 73)
          have HF3 := Lib.hid hF
          have HX3 := Lib.hid ((hb3.block w1.heap.size (by simp)).trans HXA.out)
          have HG3 := Lib.hid (HGA.out.below hb3)
          have hEG : w1.heap.size < w2.heap.size := by have := hb2.size; simp at this; omega
          obtain ⟨hE, hhE⟩ : ∃ hE, hE = w1.heap.size := ⟨_, rfl⟩
          rw [← hhE] at HX3 HSZ hEG ⊢
          have HEG := Lib.hid hEG
          clear hb2 hbf hb3 hF hEG HXA HGA hhE
          have q0 := cell_of HX3.out 0
          have q1 := cell_of HX3.out 1
          have q2 := cell_of HX3.out 2
          have q3 := cell_of HX3.out 3
          simp only [List.getElem?_toArray, List.getElem?_cons_zero, List.getElem?_cons_succ] at q0 q1 q2 q3
          have hlx := (Array.getElem?_eq_some_iff.1 HX3.out).1
          have f0 := cell_of HF3.out 0
          clear f0
          go_upto_region 14 with fail
          obtain ⟨hG, hhG⟩ : ∃ hG, hG = w2.heap.size := ⟨_, rfl⟩
          rw [← hhG] at HF3 HEG ⊢
          generalize w2.alloc (.cells #[.bool false, .bool false, .bool false] 73) = w3 at *
          clear hhG hlx q0 q1 q2 q3
          have q0 := cell_of HX3.out 0
          have q1 := cell_of HX3.out 1
          have q2 := cell_of HX3.out 2
          have q3 := cell_of HX3.out 3
          simp only [List.getElem?_toArray, List.getElem?_cons_zero, List.getElem?_cons_succ] at q0 q1 q2 q3
          have hlx := (Array.getElem?_eq_some_iff.1 HX3.out).1
          have g77 : acc.length ≤ 64 := by have := HACC.out; omega
          go_wp2_with (at_builtin; refine wpList_append_win _ rfl _ _ 30 rfl w.heap.size 29 i0 _ 4 24 Tryd.underlying30 HI.out HZ0.out HZ1.out HZ2.out rfl (by decide) _ _ _ rfl (HG3.out.row.below ((Below.refl _ _).alloc (Nat.le_refl _) _)) ⟨w3.heap.size, 0, none⟩ 1 1 (flatP [⟨(0 : Int), 0, 0, 0⟩]) rfl rfl (by exact cells_new w3 [_, _, _, _] _) (flatP_one _) (by omega) (by unfold maxLen; omega) (by omega) (by have := HG3.out.mods.size; simp; omega) ?_; intro g8 off8 cap8 w8 hrow8 hgrow8 hat8 hlt8)
          have HGN := Lib.hid (HG3.out.more (o := ⟨(0 : Int), 0, 0, 0⟩) ((Below.refl _ _).alloc (Nat.le_refl _) _) hrow8 hgrow8)
          clear hrow8 hgrow8 hat8 hlt8 q0 q1 q2 q3 hlx
          go_roundw
          case measure => simp [intOf] <;> omega
          case rel =>
            refine ⟨k, acc ++ [⟨(0 : Int), 0, 0, 0⟩], at1, e1, by omega, by have := HACC.out; simp; omega, by go_num, ?_, HGN.out⟩
            rw [HRES.out]
            exact getN_more (by simp [getOp, rdF, H1.out, show nmA (0 : Int) = false from rfl, show nmV (0 : Int) = false from rfl, show nmO (0 : Int) = false from rfl]) acc
        · have hX := heap_alloc_new w1 (.cells #[.int .i64 (1 : Int), .int .i64 0, .int .u32 0, .int .u32 0] 29)
          have hba : Below w1.heap.size w1 (w1.alloc (.cells #[.int .i64 (1 : Int), .int .i64 0, .int .u32 0, .int .u32 0] 29)) := (Below.refl _ _).alloc (Nat.le_refl _) _
          have HGA := Lib.hid (HG1.out.below hba)
          have HSZ := Lib.hid (show (∀ g, (Value.slice ar acc.length cr).ownBlock = some g → g < w1.heap.size) ∧ w.heap.size ≤ w1.heap.size from ⟨fun g hg => (HG1.out.row.lt g hg).2, HG1.out.mods.size⟩)
          have HXA := Lib.hid hX
          clear hX hba HG1
          go_wp2_with fail
          refine (named_c (1 : Int) (w1.alloc (.cells #[.int .i64 (1 : Int), .int .i64 0, .int .u32 0, .int .u32 0] 29))).mono ?_
          rintro ev w2 ⟨rfl, hb2⟩
          rw [show nmA (1 : Int) = true from rfl, show nmV (1 : Int) = false from rfl, show nmO (1 : Int) = false from rfl]
          have hbf : Below w2.heap.size w2 (w2.alloc (.cells #[.bool true, .bool false, .bool false] 73)) := (Below.refl _ _).alloc (Nat.le_refl _) _
          have hb3 := hb2.trans (hbf.mono hb2.size)
          have hF := heap_alloc_new w2 (.cells #[.bool true, .bool false, .bool false] 73)
          have HF3 := Lib.hid hF
          have HX3 := Lib.hid ((hb3.block w1.heap.size (by simp)).trans HXA.out)
          have HG3 := Lib.hid (HGA.out.below hb3)
          have hEG : w1.heap.size < w2.heap.size := by have := hb2.size; simp at this; omega
          obtain ⟨hE, hhE⟩ : ∃ hE, hE = w1.heap.size := ⟨_, rfl⟩
          rw [← hhE] at HX3 HSZ hEG ⊢
          have HEG := Lib.hid hEG
          clear hb2 hbf hb3 hF hEG HXA HGA hhE
          have q0 := cell_of HX3.out 0
          have q1 := cell_of HX3.out 1
          have q2 := cell_of HX3.out 2
          have q3 := cell_of HX3.out 3
          simp only [List.getElem?_toArray, List.getElem?_cons_zero, List.getElem?_cons_succ] at q0 q1 q2 q3
          have hlx := (Array.getElem?_eq_some_iff.1 HX3.out).1
          have f0 := cell_of HF3.out 0
          clear f0
          go_wp2_with fail
          obtain ⟨hG, hhG⟩ : ∃ hG, hG = w2.heap.size := ⟨_, rfl⟩
          rw [← hhG] at HF3 HEG ⊢
          generalize w2.alloc (.cells #[.bool true, .bool false, .bool false] 73) = w3 at *
          clear hhG hlx q0 q1 q2 q3
          refine (rin_c A b v L at1 e1 0 (W - 1) w3 (HS.out _ HG3.out.mods) HG3.out.rd).mono ?_
          rintro ev w4 ⟨rfl, hr, hm⟩
          have hV := step_in L at1 e1 0 (W - 1)
          generalize hst : stepR L at1 e1 (inOk 0 (W - 1)) = st at *
          obtain ⟨ad, at2, e2⟩ := st
          simp only at hr hV ⊢
          have H2 := Lib.hid hst
          have HG4 := Lib.hid (HG3.out.read hr hm)
          have hX4 := (hm.block hE (Array.getElem?_eq_some_iff.1 HX3.out).1 (fun (x : hE = b) => by have := HG3.out.lt; have := HSZ.out.2; omega)).trans HX3.out
          have hF4 := (hm.block hG (Array.getElem?_eq_some_iff.1 HF3.out).1 (fun (x : hG = b) => by have := HG3.out.lt; have := HSZ.out.2; have := HEG.out; omega)).trans HF3.out
          have hv1 : 0 ≤ ad := by omega
          have hv2 : ad ≤ (W - 1) := by have := HWB.out; omega
          have q0 := cell_of hX4 0
          have q1 := cell_of hX4 1
          have q2 := cell_of hX4 2
          have q3 := cell_of hX4 3
          simp only [List.getElem?_toArray, List.getElem?_cons_zero, List.getElem?_cons_succ] at q0 q1 q2 q3
          have hlx := (Array.getElem?_eq_some_iff.1 hX4).1
          have z1 := frozen_of hX4 1
          have f0 := cell_of hF4 0
          have f1 := cell_of hF4 1
          have f2 := cell_of hF4 2
          simp only [List.getElem?_toArray, List.getElem?_cons_zero, List.getElem?_cons_succ] at f0 f1 f2
          have hlf := (Array.getElem?_eq_some_iff.1 hF4).1
          have hX5 : (w4.setCell ⟨hE, 1, none⟩ (.int .i64 ad)).heap[hE]? = some (.cells #[.int .i64 (1 : Int), .int .i64 ad, .int .u32 0, .int .u32 0] 29 (0, 0)) := (heap_setCell_at (k := 1) hX4 _).trans rfl
          have hM5 : Mods (fun q => q = hE) w4 (w4.setCell ⟨hE, 1, none⟩ (.int .i64 ad)) := (Mods.refl (fun q => q = hE) w4).setCell (p := ⟨hE, 1, none⟩) rfl _
          have HX5 := Lib.hid hX5
          have HG5 := Lib.hid (HG4.out.setX hM5 HSZ.out.2 (fun h => by have := HSZ.out.1 _ h; omega))
          have HF5 := Lib.hid ((hM5.block hG hlf (fun (x : hG = hE) => by have := HEG.out; omega)).trans hF4)
          clear hst hr hm hV hX4 hF4 hX5 hM5
          go_upto_region 10 with fail
          generalize w4.setCell ⟨hE, 1, none⟩ (.int .i64 ad) = w5 at *
          clear hlx hlf q0 q1 q2 q3 z1 f0 f1 f2
          have q0 := cell_of HX5.out 0
          have q1 := cell_of HX5.out 1
          have q2 := cell_of HX5.out 2
          have q3 := cell_of HX5.out 3
          simp only [List.getElem?_toArray, List.getElem?_cons_zero, List.getElem?_cons_succ] at q0 q1 q2 q3
          have hlx := (Array.getElem?_eq_some_iff.1 HX5.out).1
          have f0 := cell_of HF5.out 0
          have f1 := cell_of HF5.out 1
          have f2 := cell_of HF5.out 2
          simp only [List.getElem?_toArray, List.getElem?_cons_zero, List.getElem?_cons_succ] at f0 f1 f2
          have hlf := (Array.getElem?_eq_some_iff.1 HF5.out).1
          go_upto_region 14 with fail
          clear hlx hlf q0 q1 q2 q3 f0 f1 f2
          have q0 := cell_of HX5.out 0
          have q1 := cell_of HX5.out 1
          have q2 := cell_of HX5.out 2
          have q3 := cell_of HX5.out 3
          simp only [List.getElem?_toArray, List.getElem?_cons_zero, List.getElem?_cons_succ] at q0 q1 q2 q3
          have hlx := (Array.getElem?_eq_some_iff.1 HX5.out).1
          have g77 : acc.length ≤ 64 := by have := HACC.out; omega
          go_wp2_with (at_builtin; refine wpList_append_win _ rfl _ _ 30 rfl w.heap.size 29 i0 _ 4 24 Tryd.underlying30 HI.out HZ0.out HZ1.out HZ2.out rfl (by decide) _ _ _ rfl (HG5.out.row.below ((Below.refl _ _).alloc (Nat.le_refl _) _)) ⟨w5.heap.size, 0, none⟩ 1 1 (flatP [⟨(1 : Int), ad, 0, 0⟩]) rfl rfl (by exact cells_new w5 [_, _, _, _] _) (flatP_one _) (by omega) (by unfold maxLen; omega) (by omega) (by have := HG5.out.mods.size; simp; omega) ?_; intro g8 off8 cap8 w8 hrow8 hgrow8 hat8 hlt8)
          have HGN := Lib.hid (HG5.out.more (o := ⟨(1 : Int), ad, 0, 0⟩) ((Below.refl _ _).alloc (Nat.le_refl _) _) hrow8 hgrow8)
          clear hrow8 hgrow8 hat8 hlt8 q0 q1 q2 q3 hlx
          go_roundw
          case measure => simp [intOf] <;> omega
          case rel =>
            refine ⟨k, acc ++ [⟨(1 : Int), ad, 0, 0⟩], at2, e2, by omega, by have := HACC.out; simp; omega, by go_num, ?_, HGN.out⟩
            rw [HRES.out]
            exact getN_more (by simp [getOp, rdF, H1.out, H2.out, show nmA (1 : Int) = true from rfl, show nmV (1 : Int) = false from rfl, show nmO (1 : Int) = false from rfl]) acc
        · have hX := heap_alloc_new w1 (.cells #[.int .i64 (2 : Int), .int .i64 0, .int .u32 0, .int .u32 0] 29)
          have hba : Below w1.heap.size w1 (w1.alloc (.cells #[.int .i64 (2 : Int), .int .i64 0, .int .u32 0, .int .u32 0] 29)) := (Below.refl _ _).alloc (Nat.le_refl _) _
          have HGA := Lib.hid (HG1.out.below hba)
          have HSZ := Lib.hid (show (∀ g, (Value.slice ar acc.length cr).ownBlock = some g → g < w1.heap.size) ∧ w.heap.size ≤ w1.heap.size from ⟨fun g hg => (HG1.out.row.lt g hg).2, HG1.out.mods.size⟩)
          have HXA := Lib.hid hX
          clear hX hba HG1
          go_wp2_with fail
          refine (named_c (2 : Int) (w1.alloc (.cells #[.int .i64 (2 : Int), .int .i64 0, .int .u32 0, .int .u32 0] 29))).mono ?_
          rintro ev w2 ⟨rfl, hb2⟩
          rw [show nmA (2 : Int) = true from rfl, show nmV (2 : Int) = true from rfl, show nmO (2 : Int) = false from rfl]
          have hbf : Below w2.heap.size w2 (w2.alloc (.cells #[.bool true, .bool true, .bool false] 73)) := (Below.refl _ _).alloc (Nat.le_refl _) _
          have hb3 := hb2.trans (hbf.mono hb2.size)
          have hF := heap_alloc_new w2 (.cells #[.bool true, .bool true, .bool false] 73)
          have HF3 := Lib.hid hF
          have HX3 := Lib.hid ((hb3.block w1.heap.size (by simp)).trans HXA.out)
          have HG3 := Lib.hid (HGA.out.below hb3)
          have hEG : w1.heap.size < w2.heap.size := by have := hb2.size; simp at this; omega
          obtain ⟨hE, hhE⟩ : ∃ hE, hE = w1.heap.size := ⟨_, rfl⟩
          rw [← hhE] at HX3 HSZ hEG ⊢
          have HEG := Lib.hid hEG
          clear hb2 hbf hb3 hF hEG HXA HGA hhE
          have q0 := cell_of HX3.out 0
          have q1 := cell_of HX3.out 1
          have q2 := cell_of HX3.out 2
          have q3 := cell_of HX3.out 3
          simp only [List.getElem?_toArray, List.getElem?_cons_zero, List.getElem?_cons_succ] at q0 q1 q2 q3
          have hlx := (Array.getElem?_eq_some_iff.1 HX3.out).1
          have f0 := cell_of HF3.out 0
          clear f0
          go_wp2_with fail
          obtain ⟨hG, hhG⟩ : ∃ hG, hG = w2.heap.size := ⟨_, rfl⟩
          rw [← hhG] at HF3 HEG ⊢
          generalize w2.alloc (.cells #[.bool true, .bool true, .bool false] 73) = w3 at *
          clear hhG hlx q0 q1 q2 q3
          refine (rin_c A b v L at1 e1 0 (W - 1) w3 (HS.out _ HG3.out.mods) HG3.out.rd).mono ?_
          rintro ev w4 ⟨rfl, hr, hm⟩
          have hV := step_in L at1 e1 0 (W - 1)
          generalize hst : stepR L at1 e1 (inOk 0 (W - 1)) = st at *
          obtain ⟨ad, at2, e2⟩ := st
          simp only at hr hV ⊢
          have H2 := Lib.hid hst
          have HG4 := Lib.hid (HG3.out.read hr hm)
          have hX4 := (hm.block hE (Array.getElem?_eq_some_iff.1 HX3.out).1 (fun (x : hE = b) => by have := HG3.out.lt; have := HSZ.out.2; omega)).trans HX3.out
          have hF4 := (hm.block hG (Array.getElem?_eq_some_iff.1 HF3.out).1 (fun (x : hG = b) => by have := HG3.out.lt; have := HSZ.out.2; have := HEG.out; omega)).trans HF3.out
          have hv1 : 0 ≤ ad := by omega
          have hv2 : ad ≤ (W - 1) := by have := HWB.out; omega
          have q0 := cell_of hX4 0
          have q1 := cell_of hX4 1
          have q2 := cell_of hX4 2
          have q3 := cell_of hX4 3
          simp only [List.getElem?_toArray, List.getElem?_cons_zero, List.getElem?_cons_succ] at q0 q1 q2 q3
          have hlx := (Array.getElem?_eq_some_iff.1 hX4).1
          have z1 := frozen_of hX4 1
          have f0 := cell_of hF4 0
          have f1 := cell_of hF4 1
          have f2 := cell_of hF4 2
          simp only [List.getElem?_toArray, List.getElem?_cons_zero, List.getElem?_cons_succ] at f0 f1 f2
          have hlf := (Array.getElem?_eq_some_iff.1 hF4).1
          have hX5 : (w4.setCell ⟨hE, 1, none⟩ (.int .i64 ad)).heap[hE]? = some (.cells #[.int .i64 (2 : Int), .int .i64 ad, .int .u32 0, .int .u32 0] 29 (0, 0)) := (heap_setCell_at (k := 1) hX4 _).trans rfl
          have hM5 : Mods (fun q => q = hE) w4 (w4.setCell ⟨hE, 1, none⟩ (.int .i64 ad)) := (Mods.refl (fun q => q = hE) w4).setCell (p := ⟨hE, 1, none⟩) rfl _
          have HX5 := Lib.hid hX5
          have HG5 := Lib.hid (HG4.out.setX hM5 HSZ.out.2 (fun h => by have := HSZ.out.1 _ h; omega))
          have HF5 := Lib.hid ((hM5.block hG hlf (fun (x : hG = hE) => by have := HEG.out; omega)).trans hF4)
          clear hst hr hm hV hX4 hF4 hX5 hM5
          go_upto_region 10 with fail
          generalize w4.setCell ⟨hE, 1, none⟩ (.int .i64 ad) = w5 at *
          clear hlx hlf q0 q1 q2 q3 z1 f0 f1 f2
          have q0 := cell_of HX5.out 0
          have q1 := cell_of HX5.out 1
          have q2 := cell_of HX5.out 2
          have q3 := cell_of HX5.out 3
          simp only [List.getElem?_toArray, List.getElem?_cons_zero, List.getElem?_cons_succ] at q0 q1 q2 q3
          have hlx := (Array.getElem?_eq_some_iff.1 HX5.out).1
          have f0 := cell_of HF5.out 0
          have f1 := cell_of HF5.out 1
          have f2 := cell_of HF5.out 2
          simp only [List.getElem?_toArray, List.getElem?_cons_zero, List.getElem?_cons_succ] at f0 f1 f2
          have hlf := (Array.getElem?_eq_some_iff.1 HF5.out).1
          go_wp2_with fail
          clear hlx hlf q0 q1 q2 q3 f0 f1 f2
          refine (rin_c A b v L at2 e2 0 4294967295 w5 (HS.out _ HG5.out.mods) HG5.out.rd).mono ?_
          rintro ev w6 ⟨rfl, hr, hm⟩
          have hV := step_in L at2 e2 0 4294967295
          generalize hst : stepR L at2 e2 (inOk 0 4294967295) = st at *
          obtain ⟨va, at3, e3⟩ := st
          simp only at hr hV ⊢
          have H3 := Lib.hid hst
          have HG6 := Lib.hid (HG5.out.read hr hm)
          have hX6 := (hm.block hE (Array.getElem?_eq_some_iff.1 HX5.out).1 (fun (x : hE = b) => by have := HG5.out.lt; have := HSZ.out.2; omega)).trans HX5.out
          have hF6 := (hm.block hG (Array.getElem?_eq_some_iff.1 HF5.out).1 (fun (x : hG = b) => by have := HG5.out.lt; have := HSZ.out.2; have := HEG.out; omega)).trans HF5.out
          have hv1 : 0 ≤ va := by omega
          have hv2 : va ≤ 4294967295 := by have := HWB.out; omega
          have q0 := cell_of hX6 0
          have q1 := cell_of hX6 1
          have q2 := cell_of hX6 2
          have q3 := cell_of hX6 3
          simp only [List.getElem?_toArray, List.getElem?_cons_zero, List.getElem?_cons_succ] at q0 q1 q2 q3
          have hlx := (Array.getElem?_eq_some_iff.1 hX6).1
          have z2 := frozen_of hX6 2
          have f0 := cell_of hF6 0
          have f1 := cell_of hF6 1
          have f2 := cell_of hF6 2
          simp only [List.getElem?_toArray, List.getElem?_cons_zero, List.getElem?_cons_succ] at f0 f1 f2
          have hlf := (Array.getElem?_eq_some_iff.1 hF6).1
          have hX7 : (w6.setCell ⟨hE, 2, none⟩ (.int .u32 va)).heap[hE]? = some (.cells #[.int .i64 (2 : Int), .int .i64 ad, .int .u32 va, .int .u32 0] 29 (0, 0)) := (heap_setCell_at (k := 2) hX6 _).trans rfl
          have hM7 : Mods (fun q => q = hE) w6 (w6.setCell ⟨hE, 2, none⟩ (.int .u32 va)) := (Mods.refl (fun q => q = hE) w6).setCell (p := ⟨hE, 2, none⟩) rfl _
          have HX7 := Lib.hid hX7
          have HG7 := Lib.hid (HG6.out.setX hM7 HSZ.out.2 (fun h => by have := HSZ.out.1 _ h; omega))
          have HF7 := Lib.hid ((hM7.block hG hlf (fun (x : hG = hE) => by have := HEG.out; omega)).trans hF6)
          clear hst hr hm hV hX6 hF6 hX7 hM7
          go_upto_region 12 with fail
          generalize w6.setCell ⟨hE, 2, none⟩ (.int .u32 va) = w7 at *
          clear hlx hlf q0 q1 q2 q3 z2 f0 f1 f2
          have q0 := cell_of HX7.out 0
          have q1 := cell_of HX7.out 1
          have q2 := cell_of HX7.out 2
          have q3 := cell_of HX7.out 3
          simp only [List.getElem?_toArray, List.getElem?_cons_zero, List.getElem?_cons_succ] at q0 q1 q2 q3
          have hlx := (Array.getElem?_eq_some_iff.1 HX7.out).1
          have f0 := cell_of HF7.out 0
          have f1 := cell_of HF7.out 1
          have f2 := cell_of HF7.out 2
          simp only [List.getElem?_toArray, List.getElem?_cons_zero, List.getElem?_cons_succ] at f0 f1 f2
          have hlf := (Array.getElem?_eq_some_iff.1 HF7.out).1
          go_upto_region 14 with fail
          clear hlx hlf q0 q1 q2 q3 f0 f1 f2
          have q0 := cell_of HX7.out 0
          have q1 := cell_of HX7.out 1
          have q2 := cell_of HX7.out 2
          have q3 := cell_of HX7.out 3
          simp only [List.getElem?_toArray, List.getElem?_cons_zero, List.getElem?_cons_succ] at q0 q1 q2 q3
          have hlx := (Array.getElem?_eq_some_iff.1 HX7.out).1
          have g77 : acc.length ≤ 64 := by have := HACC.out; omega
          go_wp2_with (at_builtin; refine wpList_append_win _ rfl _ _ 30 rfl w.heap.size 29 i0 _ 4 24 Tryd.underlying30 HI.out HZ0.out HZ1.out HZ2.out rfl (by decide) _ _ _ rfl (HG7.out.row.below ((Below.refl _ _).alloc (Nat.le_refl _) _)) ⟨w7.heap.size, 0, none⟩ 1 1 (flatP [⟨(2 : Int), ad, va, 0⟩]) rfl rfl (by exact cells_new w7 [_, _, _, _] _) (flatP_one _) (by omega) (by unfold maxLen; omega) (by omega) (by have := HG7.out.mods.size; simp; omega) ?_; intro g8 off8 cap8 w8 hrow8 hgrow8 hat8 hlt8)
          have HGN := Lib.hid (HG7.out.more (o := ⟨(2 : Int), ad, va, 0⟩) ((Below.refl _ _).alloc (Nat.le_refl _) _) hrow8 hgrow8)
          clear hrow8 hgrow8 hat8 hlt8 q0 q1 q2 q3 hlx
          go_roundw
          case measure => simp [intOf] <;> omega
          case rel =>
            refine ⟨k, acc ++ [⟨(2 : Int), ad, va, 0⟩], at3, e3, by omega, by have := HACC.out; simp; omega, by go_num, ?_, HGN.out⟩
            rw [HRES.out]
            exact getN_more (by simp [getOp, rdF, H1.out, H2.out, H3.out, show nmA (2 : Int) = true from rfl, show nmV (2 : Int) = true from rfl, show nmO (2 : Int) = false from rfl]) acc
        · have hX := heap_alloc_new w1 (.cells #[.int .i64 (3 : Int), .int .i64 0, .int .u32 0, .int .u32 0] 29)
          have hba : Below w1.heap.size w1 (w1.alloc (.cells #[.int .i64 (3 : Int), .int .i64 0, .int .u32 0, .int .u32 0] 29)) := (Below.refl _ _).alloc (Nat.le_refl _) _
          have HGA := Lib.hid (HG1.out.below hba)
          have HSZ := Lib.hid (show (∀ g, (Value.slice ar acc.length cr).ownBlock = some g → g < w1.heap.size) ∧ w.heap.size ≤ w1.heap.size from ⟨fun g hg => (HG1.out.row.lt g hg).2, HG1.out.mods.size⟩)
          have HXA := Lib.hid hX
          clear hX hba HG1
          go_wp2_with fail
          refine (named_c (3 : Int) (w1.alloc (.cells #[.int .i64 (3 : Int), .int .i64 0, .int .u32 0, .int .u32 0] 29))).mono ?_
          rintro ev w2 ⟨rfl, hb2⟩
          rw [show nmA (3 : Int) = true from rfl, show nmV (3 : Int) = true from rfl, show nmO (3 : Int) = true from rfl]
          have hbf : Below w2.heap.size w2 (w2.alloc (.cells #[.bool true, .bool true, .bool true] 73)) := (Below.refl _ _).alloc (Nat.le_refl _) _
          have hb3 := hb2.trans (hbf.mono hb2.size)
          have hF := heap_alloc_new w2 (.cells #[.bool true, .bool true, .bool true] 73)
          have HF3 := Lib.hid hF
          have HX3 := Lib.hid ((hb3.block w1.heap.size (by simp)).trans HXA.out)
          have HG3 := Lib.hid (HGA.out.below hb3)
          have hEG : w1.heap.size < w2.heap.size := by have := hb2.size; simp at this; omega
          obtain ⟨hE, hhE⟩ : ∃ hE, hE = w1.heap.size := ⟨_, rfl⟩
          rw [← hhE] at HX3 HSZ hEG ⊢
          have HEG := Lib.hid hEG
          clear hb2 hbf hb3 hF hEG HXA HGA hhE
          have q0 := cell_of HX3.out 0
          have q1 := cell_of HX3.out 1
          have q2 := cell_of HX3.out 2
          have q3 := cell_of HX3.out 3
          simp only [List.getElem?_toArray, List.getElem?_cons_zero, List.getElem?_cons_succ] at q0 q1 q2 q3
          have hlx := (Array.getElem?_eq_some_iff.1 HX3.out).1
          have f0 := cell_of HF3.out 0
          clear f0
          go_wp2_with fail
          obtain ⟨hG, hhG⟩ : ∃ hG, hG = w2.heap.size := ⟨_, rfl⟩
          rw [← hhG] at HF3 HEG ⊢
          generalize w2.alloc (.cells #[.bool true, .bool true, .bool true] 73) = w3 at *
          clear hhG hlx q0 q1 q2 q3
          refine (rin_c A b v L at1 e1 0 (W - 1) w3 (HS.out _ HG3.out.mods) HG3.out.rd).mono ?_
          rintro ev w4 ⟨rfl, hr, hm⟩
          have hV := step_in L at1 e1 0 (W - 1)
          generalize hst : stepR L at1 e1 (inOk 0 (W - 1)) = st at *
          obtain ⟨ad, at2, e2⟩ := st
          simp only at hr hV ⊢
          have H2 := Lib.hid hst
          have HG4 := Lib.hid (HG3.out.read hr hm)
          have hX4 := (hm.block hE (Array.getElem?_eq_some_iff.1 HX3.out).1 (fun (x : hE = b) => by have := HG3.out.lt; have := HSZ.out.2; omega)).trans HX3.out
          have hF4 := (hm.block hG (Array.getElem?_eq_some_iff.1 HF3.out).1 (fun (x : hG = b) => by have := HG3.out.lt; have := HSZ.out.2; have := HEG.out; omega)).trans HF3.out
          have hv1 : 0 ≤ ad := by omega
          have hv2 : ad ≤ (W - 1) := by have := HWB.out; omega
          have q0 := cell_of hX4 0
          have q1 := cell_of hX4 1
          have q2 := cell_of hX4 2
          have q3 := cell_of hX4 3
          simp only [List.getElem?_toArray, List.getElem?_cons_zero, List.getElem?_cons_succ] at q0 q1 q2 q3
          have hlx := (Array.getElem?_eq_some_iff.1 hX4).1
          have z1 := frozen_of hX4 1
          have f0 := cell_of hF4 0
          have f1 := cell_of hF4 1
          have f2 := cell_of hF4 2
          simp only [List.getElem?_toArray, List.getElem?_cons_zero, List.getElem?_cons_succ] at f0 f1 f2
          have hlf := (Array.getElem?_eq_some_iff.1 hF4).1
          have hX5 : (w4.setCell ⟨hE, 1, none⟩ (.int .i64 ad)).heap[hE]? = some (.cells #[.int .i64 (3 : Int), .int .i64 ad, .int .u32 0, .int .u32 0] 29 (0, 0)) := (heap_setCell_at (k := 1) hX4 _).trans rfl
          have hM5 : Mods (fun q => q = hE) w4 (w4.setCell ⟨hE, 1, none⟩ (.int .i64 ad)) := (Mods.refl (fun q => q = hE) w4).setCell (p := ⟨hE, 1, none⟩) rfl _
          have HX5 := Lib.hid hX5
          have HG5 := Lib.hid (HG4.out.setX hM5 HSZ.out.2 (fun h => by have := HSZ.out.1 _ h; omega))
          have HF5 := Lib.hid ((hM5.block hG hlf (fun (x : hG = hE) => by have := HEG.out; omega)).trans hF4)
          clear hst hr hm hV hX4 hF4 hX5 hM5
          go_upto_region 10 with fail
          generalize w4.setCell ⟨hE, 1, none⟩ (.int .i64 ad) = w5 at *
          clear hlx hlf q0 q1 q2 q3 z1 f0 f1 f2
          have q0 := cell_of HX5.out 0
          have q1 := cell_of HX5.out 1
          have q2 := cell_of HX5.out 2
          have q3 := cell_of HX5.out 3
          simp only [List.getElem?_toArray, List.getElem?_cons_zero, List.getElem?_cons_succ] at q0 q1 q2 q3
          have hlx := (Array.getElem?_eq_some_iff.1 HX5.out).1
          have f0 := cell_of HF5.out 0
          have f1 := cell_of HF5.out 1
          have f2 := cell_of HF5.out 2
          simp only [List.getElem?_toArray, List.getElem?_cons_zero, List.getElem?_cons_succ] at f0 f1 f2
          have hlf := (Array.getElem?_eq_some_iff.1 HF5.out).1
          go_wp2_with fail
          clear hlx hlf q0 q1 q2 q3 f0 f1 f2
          refine (rin_c A b v L at2 e2 0 4294967295 w5 (HS.out _ HG5.out.mods) HG5.out.rd).mono ?_
          rintro ev w6 ⟨rfl, hr, hm⟩
          have hV := step_in L at2 e2 0 4294967295
          generalize hst : stepR L at2 e2 (inOk 0 4294967295) = st at *
          obtain ⟨va, at3, e3⟩ := st
          simp only at hr hV ⊢
          have H3 := Lib.hid hst
          have HG6 := Lib.hid (HG5.out.read hr hm)
          have hX6 := (hm.block hE (Array.getElem?_eq_some_iff.1 HX5.out).1 (fun (x : hE = b) => by have := HG5.out.lt; have := HSZ.out.2; omega)).trans HX5.out
          have hF6 := (hm.block hG (Array.getElem?_eq_some_iff.1 HF5.out).1 (fun (x : hG = b) => by have := HG5.out.lt; have := HSZ.out.2; have := HEG.out; omega)).trans HF5.out
          have hv1 : 0 ≤ va := by omega
          have hv2 : va ≤ 4294967295 := by have := HWB.out; omega
          have q0 := cell_of hX6 0
          have q1 := cell_of hX6 1
          have q2 := cell_of hX6 2
          have q3 := cell_of hX6 3
          simp only [List.getElem?_toArray, List.getElem?_cons_zero, List.getElem?_cons_succ] at q0 q1 q2 q3
          have hlx := (Array.getElem?_eq_some_iff.1 hX6).1
          have z2 := frozen_of hX6 2
          have f0 := cell_of hF6 0
          have f1 := cell_of hF6 1
          have f2 := cell_of hF6 2
          simp only [List.getElem?_toArray, List.getElem?_cons_zero, List.getElem?_cons_succ] at f0 f1 f2
          have hlf := (Array.getElem?_eq_some_iff.1 hF6).1
          have hX7 : (w6.setCell ⟨hE, 2, none⟩ (.int .u32 va)).heap[hE]? = some (.cells #[.int .i64 (3 : Int), .int .i64 ad, .int .u32 va, .int .u32 0] 29 (0, 0)) := (heap_setCell_at (k := 2) hX6 _).trans rfl
          have hM7 : Mods (fun q => q = hE) w6 (w6.setCell ⟨hE, 2, none⟩ (.int .u32 va)) := (Mods.refl (fun q => q = hE) w6).setCell (p := ⟨hE, 2, none⟩) rfl _
          have HX7 := Lib.hid hX7
          have HG7 := Lib.hid (HG6.out.setX hM7 HSZ.out.2 (fun h => by have := HSZ.out.1 _ h; omega))
          have HF7 := Lib.hid ((hM7.block hG hlf (fun (x : hG = hE) => by have := HEG.out; omega)).trans hF6)
          clear hst hr hm hV hX6 hF6 hX7 hM7
          go_upto_region 12 with fail
          generalize w6.setCell ⟨hE, 2, none⟩ (.int .u32 va) = w7 at *
          clear hlx hlf q0 q1 q2 q3 z2 f0 f1 f2
          have q0 := cell_of HX7.out 0
          have q1 := cell_of HX7.out 1
          have q2 := cell_of HX7.out 2
          have q3 := cell_of HX7.out 3
          simp only [List.getElem?_toArray, List.getElem?_cons_zero, List.getElem?_cons_succ] at q0 q1 q2 q3
          have hlx := (Array.getElem?_eq_some_iff.1 HX7.out).1
          have f0 := cell_of HF7.out 0
          have f1 := cell_of HF7.out 1
          have f2 := cell_of HF7.out 2
          simp only [List.getElem?_toArray, List.getElem?_cons_zero, List.getElem?_cons_succ] at f0 f1 f2
          have hlf := (Array.getElem?_eq_some_iff.1 HF7.out).1
          go_wp2_with fail
          clear hlx hlf q0 q1 q2 q3 f0 f1 f2
          refine (rin_c A b v L at3 e3 0 4294967295 w7 (HS.out _ HG7.out.mods) HG7.out.rd).mono ?_
          rintro ev w8 ⟨rfl, hr, hm⟩
          have hV := step_in L at3 e3 0 4294967295
          generalize hst : stepR L at3 e3 (inOk 0 4294967295) = st at *
          obtain ⟨ol, at4, e4⟩ := st
          simp only at hr hV ⊢
          have H4 := Lib.hid hst
          have HG8 := Lib.hid (HG7.out.read hr hm)
          have hX8 := (hm.block hE (Array.getElem?_eq_some_iff.1 HX7.out).1 (fun (x : hE = b) => by have := HG7.out.lt; have := HSZ.out.2; omega)).trans HX7.out
          have hF8 := (hm.block hG (Array.getElem?_eq_some_iff.1 HF7.out).1 (fun (x : hG = b) => by have := HG7.out.lt; have := HSZ.out.2; have := HEG.out; omega)).trans HF7.out
          have hv1 : 0 ≤ ol := by omega
          have hv2 : ol ≤ 4294967295 := by have := HWB.out; omega
          have q0 := cell_of hX8 0
          have q1 := cell_of hX8 1
          have q2 := cell_of hX8 2
          have q3 := cell_of hX8 3
          simp only [List.getElem?_toArray, List.getElem?_cons_zero, List.getElem?_cons_succ] at q0 q1 q2 q3
          have hlx := (Array.getElem?_eq_some_iff.1 hX8).1
          have z3 := frozen_of hX8 3
          have f0 := cell_of hF8 0
          have f1 := cell_of hF8 1
          have f2 := cell_of hF8 2
          simp only [List.getElem?_toArray, List.getElem?_cons_zero, List.getElem?_cons_succ] at f0 f1 f2
          have hlf := (Array.getElem?_eq_some_iff.1 hF8).1
          have hX9 : (w8.setCell ⟨hE, 3, none⟩ (.int .u32 ol)).heap[hE]? = some (.cells #[.int .i64 (3 : Int), .int .i64 ad, .int .u32 va, .int .u32 ol] 29 (0, 0)) := (heap_setCell_at (k := 3) hX8 _).trans rfl
          have hM9 : Mods (fun q => q = hE) w8 (w8.setCell ⟨hE, 3, none⟩ (.int .u32 ol)) := (Mods.refl (fun q => q = hE) w8).setCell (p := ⟨hE, 3, none⟩) rfl _
          have HX9 := Lib.hid hX9
          have HG9 := Lib.hid (HG8.out.setX hM9 HSZ.out.2 (fun h => by have := HSZ.out.1 _ h; omega))
          have HF9 := Lib.hid ((hM9.block hG hlf (fun (x : hG = hE) => by have := HEG.out; omega)).trans hF8)
          clear hst hr hm hV hX8 hF8 hX9 hM9
          go_upto_region 14 with fail
          generalize w8.setCell ⟨hE, 3, none⟩ (.int .u32 ol) = w9 at *
          clear hlx hlf q0 q1 q2 q3 z3 f0 f1 f2
          have q0 := cell_of HX9.out 0
          have q1 := cell_of HX9.out 1
          have q2 := cell_of HX9.out 2
          have q3 := cell_of HX9.out 3
          simp only [List.getElem?_toArray, List.getElem?_cons_zero, List.getElem?_cons_succ] at q0 q1 q2 q3
          have hlx := (Array.getElem?_eq_some_iff.1 HX9.out).1
          have g77 : acc.length ≤ 64 := by have := HACC.out; omega
          go_wp2_with (at_builtin; refine wpList_append_win _ rfl _ _ 30 rfl w.heap.size 29 i0 _ 4 24 Tryd.underlying30 HI.out HZ0.out HZ1.out HZ2.out rfl (by decide) _ _ _ rfl (HG9.out.row.below ((Below.refl _ _).alloc (Nat.le_refl _) _)) ⟨w9.heap.size, 0, none⟩ 1 1 (flatP [⟨(3 : Int), ad, va, ol⟩]) rfl rfl (by exact cells_new w9 [_, _, _, _] _) (flatP_one _) (by omega) (by unfold maxLen; omega) (by omega) (by have := HG9.out.mods.size; simp; omega) ?_; intro g8 off8 cap8 w8 hrow8 hgrow8 hat8 hlt8)
          have HGN := Lib.hid (HG9.out.more (o := ⟨(3 : Int), ad, va, ol⟩) ((Below.refl _ _).alloc (Nat.le_refl _) _) hrow8 hgrow8)
          clear hrow8 hgrow8 hat8 hlt8 q0 q1 q2 q3 hlx
          go_roundw
          case measure => simp [intOf] <;> omega
          case rel =>
            refine ⟨k, acc ++ [⟨(3 : Int), ad, va, ol⟩], at4, e4, by omega, by have := HACC.out; simp; omega, by go_num, ?_, HGN.out⟩
            rw [HRES.out]
            exact getN_more (by simp [getOp, rdF, H1.out, H2.out, H3.out, H4.out, show nmA (3 : Int) = true from rfl, show nmV (3 : Int) = true from rfl, show nmO (3 : Int) = true from rfl]) acc
        · have hX := heap_alloc_new w1 (.cells #[.int .i64 (4 : Int), .int .i64 0, .int .u32 0, .int .u32 0] 29)
          have hba : Below w1.heap.size w1 (w1.alloc (.cells #[.int .i64 (4 : Int), .int .i64 0, .int .u32 0, .int .u32 0] 29)) := (Below.refl _ _).alloc (Nat.le_refl _) _
          have HGA := Lib.hid (HG1.out.below hba)
          have HSZ := Lib.hid (show (∀ g, (Value.slice ar acc.length cr).ownBlock = some g → g < w1.heap.size) ∧ w.heap.size ≤ w1.heap.size from ⟨fun g hg => (HG1.out.row.lt g hg).2, HG1.out.mods.size⟩)
          have HXA := Lib.hid hX
          clear hX hba HG1
          go_wp2_with fail
          refine (named_c (4 : Int) (w1.alloc (.cells #[.int .i64 (4 : Int), .int .i64 0, .int .u32 0, .int .u32 0] 29))).mono ?_
          rintro ev w2 ⟨rfl, hb2⟩
          rw [show nmA (4 : Int) = false from rfl, show nmV (4 : Int) = false from rfl, show nmO (4 : Int) = false from rfl]
          have hbf : Below w2.heap.size w2 (w2.alloc (.cells #[.bool false, .bool false, .bool false] 73)) := (Below.refl _ _).alloc (Nat.le_refl _) _
          have hb3 := hb2.trans (hbf.mono hb2.size)
          have hF := heap_alloc_new w2 (.cells #[.bool false, .bool false, .bool false] 73)
          have HF3 := Lib.hid hF
          have HX3 := Lib.hid ((hb3.block w1.heap.size (by simp)).trans HXA.out)
          have HG3 := Lib.hid (HGA.out.below hb3)
          have hEG : w1.heap.size < w2.heap.size := by have := hb2.size; simp at this; omega
          obtain ⟨hE, hhE⟩ : ∃ hE, hE = w1.heap.size := ⟨_, rfl⟩
          rw [← hhE] at HX3 HSZ hEG ⊢
          have HEG := Lib.hid hEG
          clear hb2 hbf hb3 hF hEG HXA HGA hhE
          have q0 := cell_of HX3.out 0
          have q1 := cell_of HX3.out 1
          have q2 := cell_of HX3.out 2
          have q3 := cell_of HX3.out 3
          simp only [List.getElem?_toArray, List.getElem?_cons_zero, List.getElem?_cons_succ] at q0 q1 q2 q3
          have hlx := (Array.getElem?_eq_some_iff.1 HX3.out).1
          have f0 := cell_of HF3.out 0
          clear f0
          go_upto_region 14 with fail
          obtain ⟨hG, hhG⟩ : ∃ hG, hG = w2.heap.size := ⟨_, rfl⟩
          rw [← hhG] at HF3 HEG ⊢
          generalize w2.alloc (.cells #[.bool false, .bool false, .bool false] 73) = w3 at *
          clear hhG hlx q0 q1 q2 q3
          have q0 := cell_of HX3.out 0
          have q1 := cell_of HX3.out 1
          have q2 := cell_of HX3.out 2
          have q3 := cell_of HX3.out 3
          simp only [List.getElem?_toArray, List.getElem?_cons_zero, List.getElem?_cons_succ] at q0 q1 q2 q3
          have hlx := (Array.getElem?_eq_some_iff.1 HX3.out).1
          have g77 : acc.length ≤ 64 := by have := HACC.out; omega
          go_wp2_with (at_builtin; refine wpList_append_win _ rfl _ _ 30 rfl w.heap.size 29 i0 _ 4 24 Tryd.underlying30 HI.out HZ0.out HZ1.out HZ2.out rfl (by decide) _ _ _ rfl (HG3.out.row.below ((Below.refl _ _).alloc (Nat.le_refl _) _)) ⟨w3.heap.size, 0, none⟩ 1 1 (flatP [⟨(4 : Int), 0, 0, 0⟩]) rfl rfl (by exact cells_new w3 [_, _, _, _] _) (flatP_one _) (by omega) (by unfold maxLen; omega) (by omega) (by have := HG3.out.mods.size; simp; omega) ?_; intro g8 off8 cap8 w8 hrow8 hgrow8 hat8 hlt8)
          have HGN := Lib.hid (HG3.out.more (o := ⟨(4 : Int), 0, 0, 0⟩) ((Below.refl _ _).alloc (Nat.le_refl _) _) hrow8 hgrow8)
          clear hrow8 hgrow8 hat8 hlt8 q0 q1 q2 q3 hlx
          go_roundw
          case measure => simp [intOf] <;> omega
          case rel =>
            refine ⟨k, acc ++ [⟨(4 : Int), 0, 0, 0⟩], at1, e1, by omega, by have := HACC.out; simp; omega, by go_num, ?_, HGN.out⟩
            rw [HRES.out]
            exact getN_more (by simp [getOp, rdF, H1.out, show nmA (4 : Int) = false from rfl, show nmV (4 : Int) = false from rfl, show nmO (4 : Int) = false from rfl]) acc

end Go.Proofs.YtpljdbcifaeblaaDoor
