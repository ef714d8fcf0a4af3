/- MsgTells: true; no condition but what a start gives. -/
import Derived.Test.YtpljdbcifaeblaaDoorLMg1
import Derived.Test.YtpljdbcifaeblaaDoorMRf2
import Derived.Test.YtpljdbcifaeblaaDoorMRf3
import Derived.Test.YtpljdbcifaeblaaDoorCpy
import Derived.Test.YtpljdbcifaeblaaDoorPk5
import Derived.Test.YtpljdbcifaeblaaDoorByt
import Derived.Test.YtpljdbcifaeblaaDoorBk
import Derived.Deep.Cut
import Derived.Deep.CutRange
namespace Go.Proofs.YtpljdbcifaeblaaDoor
open Go.RowKit Go.Extern.Stop Go.Stop Go.Extern

theorem fill_step (X Z : List Value) (mk : Value) (j : Nat) (hj : j < Z.length) : (X ++ (List.replicate j mk ++ Z.drop j)).set (X.length + j) mk = X ++ (List.replicate (j + 1) mk ++ Z.drop (j + 1)) := by
  rw [List.set_append_right _ _ (by omega), Nat.add_sub_cancel_left, List.set_append_right _ _ (by simp), List.length_replicate, Nat.sub_self, List.drop_eq_getElem_cons hj, List.set_cons_zero, List.replicate_succ', List.append_assoc]
  rfl
theorem byteV_rep (k c : Nat) : byteV (List.replicate k c) = List.replicate k (.int .u8 (c : Int)) := by simp [byteV]

set_option maxRecDepth 100000 in
set_option maxHeartbeats 2000000 in
theorem roomyB_c (v : Value) (L : List Nat) (c : Nat) (w : World) (hv : slc w 1 v L.length (byteV L)) (hbig : L.length ≤ 140737488351232) :
    Calls Tryd.prog 33 #[v, .int .u8 c] w fun ev w' => ∃ g cap, ev = .returned (.slice (some ⟨g, 0, none⟩) (L.length + 80) cap) ∧ winRow w' w.heap.size 5 1 (.slice (some ⟨g, 0, none⟩) (L.length + 80) cap) (L.length + 80) (byteV (L ++ List.replicate 80 c)) ∧ Below w.heap.size w w' := by
  obtain ⟨i0, hi0, hi1⟩ := Option.map_eq_some_iff.1 nInfoB
  simp only [Prod.mk.injEq] at hi1
  obtain ⟨hz0, hz1, hz2⟩ := hi1
  have HI := Lib.hid hi0
  have HZ0 := Lib.hid hz0
  have HZ1 := Lib.hid hz1
  have HZ2 := Lib.hid hz2
  have HV := Lib.hid hv
  have hb2 := Lib.hid (show i0.bytes * (L.length + 80) ≤ 281474976710656 by rw [hz2]; omega)
  clear hi0 hz0 hz1 hz2
  obtain ⟨_, ad0, cap0, rfl, _⟩ := hv
  go_enter Tryd.func33, Tryd.ntmps33
  go_wp2_with (first
    | (refine wpList_make_win (o := ⟨some 10, _, _, _, _, _⟩) _ rfl _ _ 22 rfl w.heap.size 5 i0 (.int .u8 0) 1 Tryd.underlying22 HI.out HZ0.out HZ1.out (L.length + 80) rfl rfl hb2.out (by unfold maxLen; omega) (Nat.le_refl _) ?_; intro w1 hrow1 hB1)
    | (refine wpList_copy_win (o := ⟨some 13, _, _, _, _, _⟩) rfl _ _ 22 22 rfl w.heap.size 5 i0 1 Tryd.underlying22 HI.out HZ1.out _ _ _ rfl hrow1 _ _ _ rfl (HV.out.below hB1) (byteV_one L) (by omega) ?_; intro w2 hrow2 hgr2))
  have hsz0 : w.heap.size + 1 ≤ w1.heap.size := by
    have := (hrow1.lt w.heap.size rfl).2
    omega
  have hB2 : Below w.heap.size w w2 := hB1.grown hgr2 hB1.size fun k hk => by
    have hk : some w.heap.size = some k := hk
    exact Nat.le_of_eq (Option.some.inj hk)
  have hrow2 : winRow w2 w.heap.size 5 1 (.slice (some ⟨w.heap.size, 0, none⟩) (L.length + 80) (L.length + 80)) (L.length + 80) _ := hrow2
  obtain ⟨Z, hZ⟩ : ∃ Z : List Value, Z = ((madeCells (Value.int .u8 0).cells ((L.length + 80) * 1)).toList.drop (L.length * 1)) := ⟨_, rfl⟩
  have hZl : Z.length = 80 := by
    have := hrow2.1
    rw [← hZ, List.length_append, byteV_length] at this
    omega
  have HZ := Lib.hid hZ
  rw [← hZ] at hrow2
  have HR2 := Lib.hid hrow2
  have HB2 := Lib.hid hB2
  have HZL := Lib.hid hZl
  clear hrow1 hB1 hrow2 hgr2 hB2 hZ hZl hsz0
  go_loopw [6] (fun s6 wr => ∃ j : Nat, j ≤ 80 ∧ s6 = .int .i64 ((L.length + j : Nat) : Int) ∧ winRow wr w.heap.size 5 1 (.slice (some ⟨w.heap.size, 0, none⟩) (L.length + 80) (L.length + 80)) (L.length + 80) (byteV L ++ (List.replicate j (.int .u8 (c : Int)) ++ Z.drop j)) ∧ Below w.heap.size w wr) (fun s6 _ => L.length + 80 - (intOf s6).toNat)
  case atStart => exact ⟨0, by omega, rfl, by simpa using HR2.out, HB2.out⟩
  case round =>
    clear HR2 HB2
    obtain ⟨j, hj, rfl, hrow, hB⟩ := hrel
    have HROW := Lib.hid hrow
    have HB := Lib.hid hB
    by_cases hj80 : j < 80
    · have g1 : decide (((L.length + j : Nat) : Int) < (L.length : Int) + 80) = true := by simp; omega
      have g2 : L.length + j < L.length + 80 := by omega
      obtain ⟨g, off, cap, he, _, _, hg, hc⟩ := hrow.form (by omega)
      simp only [Value.slice.injEq, Option.some.injEq, Addr.mk.injEq] at he
      obtain ⟨⟨rfl, rfl, _⟩, _, rfl⟩ := he
      have hset := fun u => hrow.set (u := u) rfl (L.length + j) (by omega)
      have HSET := Lib.hid hset
      clear hset
      have hl : L.length + j < (byteV L ++ (List.replicate j (Value.int .u8 (c : Int)) ++ Z.drop j)).length := by
        have := HZL.out
        simp only [List.length_append, byteV_length, List.length_replicate, List.length_drop]
        omega
      have c0 := hc (L.length + j) _ (List.getElem?_eq_getElem hl)
      obtain ⟨q, hq⟩ : ∃ q, (byteV L ++ (List.replicate j (Value.int .u8 (c : Int)) ++ Z.drop j))[L.length + j] = q := ⟨_, rfl⟩
      rw [hq, Nat.zero_add] at c0
      have f0 := hrow.frozen rfl (L.length + j)
      rw [Nat.zero_add] at f0
      clear hc hl hq hrow hB
      go_wp2_with fail
      go_roundw
      case rel =>
        refine ⟨j + 1, by omega, by go_num, ?_, HB.out.setCell (Nat.le_refl _) _⟩
        have h := HSET.out (.int .u8 (c : Int))
        rw [Nat.zero_add] at h
        have hf := fill_step (byteV L) Z (.int .u8 (c : Int)) j (by have := HZL.out; omega)
        rw [byteV_length] at hf
        rw [hf] at h
        exact h
      case measure => simp [intOf]; omega
    · have hj' : j = 80 := by omega
      subst hj'
      have g1 : decide (((L.length + 80 : Nat) : Int) < (L.length : Int) + 80) = false := by simp
      have hd : Z.drop 80 = [] := List.drop_eq_nil_of_le (by have := HZL.out; omega)
      clear hrow hB
      go_wp2_with fail
      go_ret
      refine ⟨w.heap.size, L.length + 80, rfl, ?_, HB.out⟩
      have h := HROW.out
      rw [hd, List.append_nil] at h
      rw [byteV_append, byteV_rep]
      exact h

theorem winRow.capn' {w : World} {base size n : Nat} {e : TypeId} {a : Option Addr} {c : Nat} {xs : List Value} (h : winRow w base e size (.slice a n c) n xs) : n ≤ c := by
  rcases h.2 with ⟨h1, _⟩ | ⟨g, off, cap, cur, h1, _, _, hnc, _⟩
  · simp only [Value.slice.injEq] at h1
    omega
  · simp only [Value.slice.injEq] at h1
    omega

set_option maxRecDepth 100000 in
set_option maxHeartbeats 2000000 in
theorem intactB_c (v u : Value) (L : List Nat) (c base : Nat) (w : World) (hv : winRow w base 5 1 v (L.length + 80) (byteV (L ++ List.replicate 80 c))) (hu : slc w 1 u L.length (byteV L)) (hbig : L.length ≤ 140737488351232) :
    Calls Tryd.prog 39 #[v, u, .int .u8 c] w fun ev w' => ev = .returned (.bool true) ∧ Below w.heap.size w w' := by
  obtain ⟨g, off, cap, rfl, hcap, hbg, hg, hc⟩ := hv.form (by omega)
  have HC := Lib.hid hc
  have HU := Lib.hid hu
  obtain ⟨_, ad0, cap0, rfl, _⟩ := hu
  have hsl : slc w 1 (.slice (some ⟨g, off, none⟩) L.length cap) L.length (byteV L) := ⟨by rw [byteV_length, Nat.mul_one], _, cap, rfl, fun _ => ⟨g, off, rfl, hg, fun j x hj => hc j x (by
    rw [byteV_append, List.getElem?_append_left (List.getElem?_eq_some_iff.1 hj).1]
    exact hj)⟩⟩
  have HSL := Lib.hid hsl
  have g0 : L.length ≤ cap := by omega
  clear hv hsl hc
  go_enter Tryd.func39, Tryd.ntmps39
  go_wp2_with fail
  refine (sameG_c L L _ _ w HSL.out HU.out (by omega) (by omega)).mono ?_
  rintro ev w1 ⟨rfl, hB1⟩
  rw [decide_eq_true rfl]
  have HB1 := Lib.hid hB1
  clear hB1
  go_wp2_with fail
  go_loopw [7] (fun s7 wr => ∃ j : Nat, j ≤ 80 ∧ s7 = .int .i64 ((L.length + j : Nat) : Int) ∧ Below w.heap.size w wr) (fun s7 _ => L.length + 80 - (intOf s7).toNat)
  case atStart => exact ⟨0, by omega, rfl, HB1.out⟩
  case round =>
    obtain ⟨j, hj, rfl, hB⟩ := hrel
    have HB := Lib.hid hB
    by_cases hj80 : j < 80
    · have g1 : decide (((L.length + j : Nat) : Int) < (L.length : Int) + 80) = true := by simp; omega
      have g2 : L.length + j < L.length + 80 := by omega
      have c0 := (hB.cell (p := ⟨g, off + (L.length + j), none⟩) hg).trans (HC.out (L.length + j) (.int .u8 (c : Int)) (by
        rw [byteV_append, List.getElem?_append_right (by rw [byteV_length]; omega), byteV_length, Nat.add_sub_cancel_left, byteV_rep, List.getElem?_replicate, if_pos hj80]))
      clear hB
      go_wp2_with fail
      go_roundw
      case rel => exact ⟨j + 1, by omega, by go_num, HB.out⟩
      case measure => simp [intOf]; omega
    · have hj' : j = 80 := by omega
      subst hj'
      have g1 : decide (((L.length + 80 : Nat) : Int) < (L.length : Int) + 80) = false := by simp
      clear hB
      go_wp2_with fail
      go_ret
      exact ⟨rfl, HB.out⟩

/-- A message in a block. -/
def MAt (w : World) (h : Nat) (m : MsgV) : Prop := w.heap[h]? = some (.cells #[.int .i64 m.kind, .int .i64 m.core, .int .i64 m.line, .int .i64 m.state, .int .i64 m.mode, .int .i64 m.epoch, .int .i64 m.word, .int .u32 m.val, .int .u32 m.d0, .int .u32 m.d1, .int .u32 m.d2, .int .u32 m.d3, .bool m.has] 54 (0, 0))
theorem MAt.below {w w' : World} {h : Nat} {m : MsgV} (x : MAt w h m) (hb : Below w.heap.size w w') : MAt w' h m := (hb.block h (Array.getElem?_eq_some_iff.1 x).1).trans x
theorem MAt.lt {w : World} {h : Nat} {m : MsgV} (x : MAt w h m) : h < w.heap.size := (Array.getElem?_eq_some_iff.1 x).1
theorem MAt.new (w : World) (m : MsgV) : MAt (w.alloc (.cells #[.int .i64 m.kind, .int .i64 m.core, .int .i64 m.line, .int .i64 m.state, .int .i64 m.mode, .int .i64 m.epoch, .int .i64 m.word, .int .u32 m.val, .int .u32 m.d0, .int .u32 m.d1, .int .u32 m.d2, .int .u32 m.d3, .bool m.has] 54)) w.heap.size m := heap_alloc_new _ _
theorem slc_take {w : World} {a : Option Addr} {n c k : Nat} {L : List Nat} (h : slc w 1 (.slice a n c) L.length (byteV L)) (hk : k ≤ L.length) : slc w 1 (.slice a k c) (L.take k).length (byteV (L.take k)) := by
  obtain ⟨_, a', c', he, hc⟩ := h
  simp only [Value.slice.injEq] at he
  obtain ⟨rfl, rfl, rfl⟩ := he
  have hl : (L.take k).length = k := by rw [List.length_take]; omega
  refine ⟨by rw [byteV_length, Nat.mul_one], a, c, by rw [hl], fun hpos => ?_⟩
  rw [hl] at hpos
  obtain ⟨g, off, ha, hg, hcc⟩ := hc (by omega)
  refine ⟨g, off, ha, hg, fun j u hj => hcc j u ?_⟩
  have hjk : j < k := by
    have := (List.getElem?_eq_some_iff.1 hj).1
    rw [byteV_length, hl] at this
    exact this
  simp only [byteV, List.getElem?_map, List.getElem?_take, if_pos hjk] at hj ⊢
  exact hj
/-- A reader's state as it is told. -/
def okE (L : List Nat) (s : Nat × ErrT) : Prop := s.1 ≤ L.length ∧ ∃ code place, s.2 = errR code place ∧ code ≤ 10
theorem okE_step {L : List Nat} {s : Nat × ErrT} {ok : Int → Bool} (h : okE L s) : okE L (stepR L s.1 s.2 ok).2 := by
  obtain ⟨at_, e⟩ := s
  obtain ⟨h1, code, place, h2, h3⟩ := h
  simp only at h1 h2
  subst h2
  have hl := (step_link L at_ code place ok h1 h3)
  refine ⟨?_, _, _, congrArg (fun p => p.2.2) hl.1, hl.2⟩
  by_cases hc : code = 0
  · subst hc
    rcases nxt_or L at_ h1 with ⟨n, a, hx, ha⟩ | ⟨s, hx, hs⟩
    · cases hok : ok n <;> simp [stepR, errR, ErrT.isNil, hx, hok] <;> omega
    · simp [stepR, errR, ErrT.isNil, hx]
      omega
  · simp [stepR, errR, ErrT.isNil, hc]
    omega
theorem okE_rdF {L : List Nat} {s : Nat × ErrT} {on : Bool} {lo hi : Int} (h : okE L s) : okE L (rdF L s on lo hi).2 := by
  unfold rdF
  cases on with
  | true => exact okE_step h
  | false => exact h
theorem okE_getM {L : List Nat} {s : Nat × ErrT} (h : okE L s) : okE L (getM L s).2 :=
  okE_rdF (okE_rdF (okE_rdF (okE_rdF (okE_rdF (okE_rdF (okE_rdF (okE_rdF (okE_rdF (okE_rdF (okE_rdF (okE_rdF (okE_rdF (okE_rdF h)))))))))))))
theorem tell_is (L : List Nat) : (tellM L).2.wf ∧ (tellM L).2.code ≤ 10 ∧ isK (tellM L).2 ((tellM L).2.code : Nat) mtT 0 = true ∧ onlyK (tellM L).2 ((tellM L).2.code : Nat) = true := by
  have h0 := okE_getM (L := L) (s := (0, .nil)) ⟨Nat.zero_le _, 0, 0, rfl, by omega⟩
  unfold tellM
  simp only
  generalize getM L (0, .nil) = g at *
  obtain ⟨X, at_, e⟩ := g
  obtain ⟨h1, code, place, h2, h3⟩ := h0
  simp only at h1 h2 ⊢
  subst h2
  have he := end_link L at_ code place h3
  rw [he.1]
  generalize (endQ L at_ code place).1 = c2 at *
  generalize (endQ L at_ code place).2 = p2 at *
  have hc2 := he.2
  by_cases hc : c2 = 0
  · subst hc
    rw [show errR 0 p2 = .nil from rfl]
    simp only [ErrT.isNil, if_true]
    cases rightM X
    · simp only [Bool.false_eq_true, if_false]
      exact ⟨⟨rfl, show 3 < 10 by omega⟩, by decide, by simp [isK, ErrT.code], by decide⟩
    · simp only [if_true]
      exact ⟨trivial, by decide, by simp [isK, ErrT.code, ErrT.isNil], by decide⟩
  · have hn : (errR c2 p2).isNil = false := by unfold errR; rw [if_neg hc]; rfl
    have hco : (ErrT.wrap mtT 0 (errR c2 p2)).code = c2 := errR_code c2 p2
    rw [hn]
    simp only [Bool.false_eq_true, if_false]
    refine ⟨⟨hn, ?_⟩, by rw [hco]; exact hc2, ?_, ?_⟩
    · unfold errR
      rw [if_neg hc]
      exact ⟨rfl, show c2 - 1 < 10 by omega⟩
    · rw [hco]
      unfold isK
      rw [if_neg (by omega)]
      simp [errR_code]
    · rw [hco]
      unfold onlyK
      rw [hco]
      exact beq_self_eq_true _
/-- A message in a block, what lay there is kept. -/
structure MOne (w : World) (h5 : Nat) (m : MsgV) (wx : World) : Prop where
  m : MAt wx h5 m
  below : Below w.heap.size w wx
theorem MOne.bel {w wr wq : World} {h5 : Nat} {m : MsgV} (h : MOne w h5 m wr) (hb : Below wr.heap.size wr wq) : MOne w h5 m wq := ⟨h.m.below hb, h.below.trans (hb.mono h.below.size)⟩
/-- The bytes that are asked. -/
structure OwnB (w : World) (s : Value) (L : List Nat) (wx : World) : Prop where
  row : slc wx 1 s L.length (byteV L)
  len : L.length ≤ 301
  byt : ∀ c ∈ L, c < 256
theorem byteV_at {l : List Nat} {i c : Nat} (h : l[i]? = some c) : (byteV l)[i]? = some (.int .u8 (c : Int)) := by simp [byteV, h]
theorem putM_len {m : MsgV} (hf : m.fit) : (putM m).length ≤ 150 := by
  unfold putM
  split
  · exact encM_len hf
  · simp
theorem byteV_set (L : List Nat) (k c : Nat) : (byteV L).set k (.int .u8 (c : Int)) = byteV (L.set k c) := by simp [byteV, List.map_set]

set_option maxRecDepth 100000 in
set_option maxHeartbeats 16000000 in
theorem msgTells (A : Nat → Addr) (m : MsgV) (vb : Value) (L0 : List Nat) (at_ to' how : Int) (w : World) (hs : SentAt w A) (fm : m.fit) (hby : BytesIn w vb L0) (hat : -9223372036854775808 ≤ at_ ∧ at_ ≤ 9223372036854775807) (hto : 0 ≤ to' ∧ to' ≤ 255) (hhow : -9223372036854775808 ≤ how ∧ how ≤ 9223372036854775807) :
    Calls Tryd.prog 10 #[m.v, vb, .int .i64 at_, .int .u8 to', .int .i64 how] w (TruePost w) := by
  obtain ⟨i0, hi0, hi1⟩ := Option.map_eq_some_iff.1 nInfoB
  simp only [Prod.mk.injEq] at hi1
  obtain ⟨hz0, hz1, hz2⟩ := hi1
  have HI := Lib.hid hi0
  have HZ0 := Lib.hid hz0
  have HZ1 := Lib.hid hz1
  have HZ2 := Lib.hid hz2
  clear hi0 hz0 hz1 hz2
  have HSE := Lib.hid hs
  have HFM := Lib.hid fm
  have HBY := Lib.hid hby
  have HAT := Lib.hid hat
  have HHW := Lib.hid hhow
  obtain ⟨tn, htn⟩ := Int.eq_ofNat_of_zero_le hto.1
  subst htn
  have HTN := Lib.hid (show tn < 256 by omega)
  obtain ⟨_, ab, cb, hvb, _⟩ := hby.row
  subst hvb
  have HCAP := Lib.hid (hby.cap _ _ _ rfl)
  clear hs fm hby hat hto hhow
  have HM0 := Lib.hid (MAt.new w m)
  have hb0 : Below w.heap.size w (w.alloc (.cells #[.int .i64 m.kind, .int .i64 m.core, .int .i64 m.line, .int .i64 m.state, .int .i64 m.mode, .int .i64 m.epoch, .int .i64 m.word, .int .u32 m.val, .int .u32 m.d0, .int .u32 m.d1, .int .u32 m.d2, .int .u32 m.d3, .bool m.has] 54)) := (Below.refl _ _).alloc (Nat.le_refl _) _
  have HS0 := Lib.hid (show MOne w w.heap.size m _ from ⟨HM0.out, hb0⟩)
  clear hb0 HM0
  obtain ⟨a1, a2, a3, a4, a5, a6, a7, a8, a9, a10, a11, a12, a13⟩ := m
  simp only [MsgV.v] at HS0 ⊢
  obtain ⟨h5, hh5⟩ : ∃ h5, h5 = w.heap.size := ⟨_, rfl⟩
  go_enter Tryd.func10, Tryd.ntmps10
  go_upto_region 1 with fail
  have HS1 := Lib.hid (show MOne w h5 ⟨a1, a2, a3, a4, a5, a6, a7, a8, a9, a10, a11, a12, a13⟩ (w.alloc (.cells #[.int .i64 a1, .int .i64 a2, .int .i64 a3, .int .i64 a4, .int .i64 a5, .int .i64 a6, .int .i64 a7, .int .u32 a8, .int .u32 a9, .int .u32 a10, .int .u32 a11, .int .u32 a12, .bool a13] 54)) from by rw [hh5]; exact HS0.out)
  rw [← hh5]
  generalize w.alloc (.cells #[.int .i64 a1, .int .i64 a2, .int .i64 a3, .int .i64 a4, .int .i64 a5, .int .i64 a6, .int .i64 a7, .int .u32 a8, .int .u32 a9, .int .u32 a10, .int .u32 a11, .int .u32 a12, .bool a13] 54) = w1 at *
  clear hh5 HS0
  obtain ⟨nL, hnL⟩ : ∃ n, L0.length = n := ⟨_, rfl⟩
  have HNL := Lib.hid hnL
  rw [hnL] at HCAP ⊢
  clear hnL
  go_upto_if 22 with fail
  go_cut [11] from 23 to 24 (fun s11 wx => ∃ (n c : Nat) (L : List Nat), s11 = .slice ab n c ∧ L.length = n ∧ OwnB w s11 L wx ∧ MOne w h5 ⟨a1, a2, a3, a4, a5, a6, a7, a8, a9, a10, a11, a12, a13⟩ wx)
  case first =>
    have hc := HCAP.out
    by_cases hl : 300 < nL
    · have g1 : decide ((nL : Int) > 300) = true := by simp; omega
      have g2 : decide (300 < nL) = true := by simp; omega
      have g3 : 300 ≤ cb := by omega
      have HL := Lib.hid hl
      clear hc
      go_wp2_with fail
      go_meet
      case rel => exact ⟨300, cb, L0.take 300, rfl, by have := HL.out; have := HNL.out; rw [List.length_take]; omega, ⟨(slc_take (HBY.out.row.below HS1.out.below) (by have := HL.out; have := HNL.out; omega)), by rw [List.length_take]; omega, fun c hc => HBY.out.byt c (List.mem_of_mem_take hc)⟩, HS1.out⟩
    · have g1 : decide ((nL : Int) > 300) = false := by simp; omega
      have g2 : decide (300 < nL) = false := by simp; omega
      have HL := Lib.hid hl
      clear hc
      go_wp2_with fail
      go_meet
      case rel => exact ⟨nL, cb, L0, rfl, HNL.out, ⟨by rw [← HNL.out]; exact HBY.out.row.below HS1.out.below, by have := HL.out; have := HNL.out; omega, HBY.out.byt⟩, HS1.out⟩
  case rest =>
    obtain ⟨n1, c1, L1, rfl, hn1, hO, hS⟩ := hcut
    have HN1 := Lib.hid hn1
    have HO1 := Lib.hid hO
    have HS2 := Lib.hid hS
    clear hn1 hO hS HS1
    generalize wc = w2 at *
    go_upto_region 4 with fail
    go_cut [30] from 25 to 29 (fun s30 wx => s30 = .bool (rightM ⟨a1, a2, a3, a4, a5, a6, a7, a8, a9, a10, a11, a12, a13⟩ && decide (0 ≤ how)) ∧ OwnB w (.slice ab n1 c1) L1 wx ∧ MOne w h5 ⟨a1, a2, a3, a4, a5, a6, a7, a8, a9, a10, a11, a12, a13⟩ wx)
    case first =>
      have hxq := HS2.out.m
      have q0 := cell_of hxq 0
      have q1 := cell_of hxq 1
      have q2 := cell_of hxq 2
      have q3 := cell_of hxq 3
      have q4 := cell_of hxq 4
      have q5 := cell_of hxq 5
      have q6 := cell_of hxq 6
      have q7 := cell_of hxq 7
      have q8 := cell_of hxq 8
      have q9 := cell_of hxq 9
      have q10 := cell_of hxq 10
      have q11 := cell_of hxq 11
      have q12 := cell_of hxq 12
      simp only [List.getElem?_toArray, List.getElem?_cons_zero, List.getElem?_cons_succ] at q0 q1 q2 q3 q4 q5 q6 q7 q8 q9 q10 q11 q12
      have hlq := (Array.getElem?_eq_some_iff.1 hxq).1
      go_wp2_with fail
      refine (rright_c ⟨a1, a2, a3, a4, a5, a6, a7, a8, a9, a10, a11, a12, a13⟩ w2).mono ?_
      rintro ev w3 ⟨rfl, hb3⟩
      have HS3 := Lib.hid (HS2.out.bel hb3)
      have HO3 := Lib.hid (show OwnB w (.slice ab n1 c1) L1 w3 from ⟨HO1.out.row.below hb3, HO1.out.len, HO1.out.byt⟩)
      clear hb3
      clear hxq hlq q0 q1 q2 q3 q4 q5 q6 q7 q8 q9 q10 q11 q12
      cases hr : rightM ⟨a1, a2, a3, a4, a5, a6, a7, a8, a9, a10, a11, a12, a13⟩ with
      | false =>
        go_wp2_with fail
        go_meet
        case rel => exact ⟨by rw [hr]; rfl, HO3.out, HS3.out⟩
      | true =>
        have HR := Lib.hid hr
        clear hr
        by_cases hh : 0 ≤ how
        · have g0 : decide (0 ≤ how) = true := by simpa using hh
          go_wp2_with fail
          go_meet
          case rel => exact ⟨by rw [HR.out, g0]; rfl, HO3.out, HS3.out⟩
        · have g0 : decide (0 ≤ how) = false := by simpa using hh
          go_wp2_with fail
          go_meet
          case rel => exact ⟨by rw [HR.out, g0]; rfl, HO3.out, HS3.out⟩
    case rest =>
      obtain ⟨rfl, hO, hS⟩ := hcut
      have HO3 := Lib.hid hO
      have HS3 := Lib.hid hS
      clear hO hS HO1 HS2
      generalize wc = w3 at *
      obtain ⟨Q, hQ⟩ : ∃ Q, (rightM ⟨a1, a2, a3, a4, a5, a6, a7, a8, a9, a10, a11, a12, a13⟩ && decide (0 ≤ how)) = Q := ⟨_, rfl⟩
      have HQ := Lib.hid hQ
      rw [hQ]
      clear hQ
      go_upto_if 30 with fail
      go_cut [11, 12] from 31 to 56 (fun s11 _ wx => ∃ (ad : Option Addr) (n c : Nat) (L : List Nat), s11 = .slice ad n c ∧ L.length = n ∧ OwnB w s11 L wx ∧ MOne w h5 ⟨a1, a2, a3, a4, a5, a6, a7, a8, a9, a10, a11, a12, a13⟩ wx)
      case first =>
        cases Q with
        | false =>
          go_wp2_with fail
          go_meet
          case rel => exact ⟨ab, n1, c1, L1, rfl, HN1.out, HO3.out, HS3.out⟩
        | true =>
          have HR := Lib.hid (Bool.and_eq_true_iff.1 HQ.out).1
          have HH := Lib.hid (of_decide_eq_true (Bool.and_eq_true_iff.1 HQ.out).2)
          have hxq := HS3.out.m
          have q0 := cell_of hxq 0
          have q1 := cell_of hxq 1
          have q2 := cell_of hxq 2
          have q3 := cell_of hxq 3
          have q4 := cell_of hxq 4
          have q5 := cell_of hxq 5
          have q6 := cell_of hxq 6
          have q7 := cell_of hxq 7
          have q8 := cell_of hxq 8
          have q9 := cell_of hxq 9
          have q10 := cell_of hxq 10
          have q11 := cell_of hxq 11
          have q12 := cell_of hxq 12
          simp only [List.getElem?_toArray, List.getElem?_cons_zero, List.getElem?_cons_succ] at q0 q1 q2 q3 q4 q5 q6 q7 q8 q9 q10 q11 q12
          have hlq := (Array.getElem?_eq_some_iff.1 hxq).1
          go_wp2_with fail
          refine (rput_c ⟨a1, a2, a3, a4, a5, a6, a7, a8, a9, a10, a11, a12, a13⟩ w3 HFM.out).mono ?_
          rintro ev w4 ⟨u4, rfl, hu4, hb4⟩
          rw [putM_right HR.out] at hu4
          have HS4 := Lib.hid (HS3.out.bel hb4)
          have HSZ := Lib.hid (show h5 < w3.heap.size ∧ w.heap.size ≤ w3.heap.size ∧ w3.heap.size ≤ w4.heap.size from ⟨HS3.out.m.lt, HS3.out.below.size, hb4.size⟩)
          have HPB := Lib.hid (encM_byt ⟨a1, a2, a3, a4, a5, a6, a7, a8, a9, a10, a11, a12, a13⟩)
          have HPL := Lib.hid (encM_len HFM.out)
          have HPP := Lib.hid (encM_pos ⟨a1, a2, a3, a4, a5, a6, a7, a8, a9, a10, a11, a12, a13⟩)
          generalize encM ⟨a1, a2, a3, a4, a5, a6, a7, a8, a9, a10, a11, a12, a13⟩ = P at *
          obtain ⟨ap, cp, rfl⟩ := hu4.len
          obtain ⟨nl, hnl⟩ : ∃ nl, P.length = nl := ⟨_, rfl⟩
          have HN := Lib.hid hnl
          have hU : winRow w4 w3.heap.size 5 1 (.slice ap nl cp) nl (byteV P) := by rw [← hnl]; exact hu4
          have HU := Lib.hid hU
          rw [hnl]
          clear hu4 hb4 hnl hU
          clear hxq hlq q0 q1 q2 q3 q4 q5 q6 q7 q8 q9 q10 q11 q12
          have hl150 : nl ≤ 150 := by have := HPL.out; have := HN.out; omega
          have hlp : 0 < nl := by have := HPP.out; have := HN.out; omega
          have hkk := wiF_b (n := at_) (lo := 0) (hi := (nl : Int) - 1) (by omega)
          obtain ⟨k, hk⟩ := Int.eq_ofNat_of_zero_le hkk.1
          have HK := Lib.hid hk
          have hkl : k < nl := by omega
          clear hk hkk
          go_wp2_with fail
          refine (Within_b at_ 0 ((nl : Int) - 1) w4 (by omega) (by omega) (by omega) HAT.out.1 HAT.out.2).mono ?_
          rintro ev w' ⟨rfl, hww⟩
          obtain rfl := hww
          rw [HK.out]
          obtain ⟨r, hr⟩ : ∃ r, how.tmod 4 = r := ⟨_, rfl⟩
          have hr4 : 0 ≤ r ∧ r < 4 := by
            have := HH.out
            rw [Int.tmod_eq_emod_of_nonneg this] at hr
            omega
          have hr5 : r = 0 ∨ r = 1 ∨ r = 2 ∨ r = 3 := by omega
          have HR4 := Lib.hid hr
          clear hr hr4
          rcases hr5 with rfl | rfl | rfl | rfl
          · have hrm := HR4.out
            have HNK := Lib.hid hkl
            obtain ⟨gp, op, cp2, hap, hcp, _, hgp, hcc⟩ := HU.out.form hlp
            simp only [Value.slice.injEq, true_and] at hap
            obtain ⟨rfl, rfl⟩ := hap
            have HSET := Lib.hid (fun u => HU.out.set (u := u) rfl k (by omega))
            have f0 := HU.out.frozen rfl k
            obtain ⟨q, hq⟩ : ∃ q, P[k]? = some q := ⟨_, List.getElem?_eq_getElem (by have := HN.out; omega)⟩
            have c0 := hcc k _ (byteV_at hq)
            have HGE := Lib.hid (HU.out.lt gp rfl)
            clear hcc hq
            go_wp2_with fail
            go_meet
            case rel =>
              have hM : Mods (fun q => q = gp) w4 (w4.setCell ⟨gp, op + k, none⟩ (.int .u8 (tn : Int))) := (Mods.refl (fun q => q = gp) w4).setCell (p := ⟨gp, op + k, none⟩) rfl _
              have hge := HGE.out
              have hlt := HSZ.out
              have hrow := HSET.out (.int .u8 (tn : Int))
              rw [byteV_set] at hrow
              have hlen : (P.set k tn).length = nl := by rw [List.length_set]; exact HN.out
              exact ⟨some ⟨gp, op, none⟩, nl, cp, P.set k tn, rfl, hlen, ⟨by have h := hrow.slc; rw [hlen]; exact h, by omega, fun c hc => (List.mem_or_eq_of_mem_set hc).elim (HPB.out c) fun e => by rw [e]; exact HTN.out⟩,
                ⟨(hM.block h5 HS4.out.m.lt (fun (e : h5 = gp) => by omega)).trans HS4.out.m, HS4.out.below.trans (hM.below HS4.out.below.size fun q (hq : q = gp) => by omega)⟩⟩
          · have hrm := HR4.out
            have hkc : k ≤ cp := by have := HU.out.capn'; omega
            go_wp2_with fail
            go_meet
            case rel =>
              have hus := HU.out.slc
              exact ⟨ap, k, cp, P.take k, rfl, by have := HN.out; rw [List.length_take]; omega, ⟨slc_take (n := nl) (by have := HN.out; rw [this]; exact hus) (by have := HN.out; omega), by have := HN.out; rw [List.length_take]; omega, fun c hc => HPB.out c (List.mem_of_mem_take hc)⟩, HS4.out⟩
          · have hrm := HR4.out
            go_wp2_with (at_builtin; refine wpList_append_win _ rfl _ _ 22 rfl w3.heap.size 5 i0 (.int .u8 0) 1 1 Tryd.underlying22 HI.out HZ0.out HZ1.out HZ2.out rfl (by decide) _ _ _ rfl (HU.out.below ((Below.refl _ _).alloc (Nat.le_refl _) _)) ⟨w4.heap.size, 0, none⟩ 1 1 [.int .u8 (tn : Int)] rfl rfl (by exact cells_new w4 [_] _) (by intro u hu; simp only [List.mem_singleton] at hu; subst hu; rfl) (by omega) (by unfold maxLen; omega) (by omega) (by have := HSZ.out; simp; omega) ?_; intro g9 off9 cap9 w9 hrow9 hgrow9 hat9 hlt9; refine halt ?_)
            have HW9 := Lib.hid (show OwnB w (.slice (some ⟨g9, off9, none⟩) (nl + 1) cap9) (P ++ [tn]) w9 ∧ (P ++ [tn]).length = nl + 1 ∧ MOne w h5 ⟨a1, a2, a3, a4, a5, a6, a7, a8, a9, a10, a11, a12, a13⟩ w9 from by
              have hlen : (P ++ [tn]).length = nl + 1 := by rw [List.length_append, HN.out]; rfl
              have hq : Below w4.heap.size w4 (w4.alloc (.cells #[.int .u8 (tn : Int)] 5)) := (Below.refl _ _).alloc (Nat.le_refl _) _
              have hS := HS4.out.bel hq
              have hM : Mods (fun k => (Value.slice ap nl cp).ownBlock = some k) (w4.alloc (.cells #[.int .u8 (tn : Int)] 5)) w9 := Mods.grown hgrow9 fun k hk => hk
              have hge := HSZ.out
              have hown : ∀ k, (Value.slice ap nl cp).ownBlock = some k → w3.heap.size ≤ k := fun k hk => (HU.out.lt k hk).1
              refine ⟨⟨?_, by omega, fun c hc => ?_⟩, hlen, (hM.block h5 hS.m.lt fun e => by have := hown h5 e; omega).trans hS.m, hS.below.trans (hM.below hS.below.size fun q hq => by have := hown q hq; omega)⟩
              · have h := hrow9.slc
                rw [hlen, byteV_append]
                exact h
              · rcases List.mem_append.1 hc with h | h
                · exact HPB.out c h
                · rw [List.mem_singleton.1 h]
                  exact HTN.out)
            clear hrow9 hgrow9 hat9 hlt9
            unfold Halt
            go_wp2_with fail
            go_meet
            case rel => exact ⟨some ⟨g9, off9, none⟩, nl + 1, cap9, P ++ [tn], rfl, HW9.out.2.1, HW9.out.1, HW9.out.2.2⟩
          · have hrm := HR4.out
            go_wp2_with fail
            go_meet
            case rel => exact ⟨ap, nl, cp, P, rfl, HN.out, ⟨by have := HU.out.slc; have h2 := HN.out; rw [h2]; exact this, by have := HN.out; omega, HPB.out⟩, HS4.out⟩
      case rest =>
        obtain ⟨ad, n, c, L, rfl, hn, hO, hS⟩ := hcut
        have HN := Lib.hid hn
        have HO := Lib.hid hO
        have HS5 := Lib.hid hS
        clear hn hO hS HS3 HO3 HN1
        generalize wc = w5 at *
        obtain rfl := HN.out
        go_wp2_with fail
        refine (roomyB_c _ L 3 w5 HO.out.row (by have := HO.out.len; omega)).mono ?_
        rintro ev w6 ⟨gf, capf, rfl, hF, hb6⟩
        have gcap : L.length ≤ capf := by have := hF.capn'; omega
        have hF0 : slc w6 1 (.slice (some ⟨gf, 0, none⟩) L.length capf) L.length (byteV L) := by
          refine ⟨by rw [byteV_length, Nat.mul_one], _, capf, rfl, fun _ => ?_⟩
          obtain ⟨g2, o2, c2, he, _, _, hg, hc⟩ := hF.form (by omega)
          simp only [Value.slice.injEq, Option.some.injEq, Addr.mk.injEq] at he
          obtain ⟨⟨rfl, rfl, _⟩, _, _⟩ := he
          exact ⟨gf, 0, rfl, hg, fun j x hj => hc j x (by
            rw [byteV_append, List.getElem?_append_left (List.getElem?_eq_some_iff.1 hj).1]
            exact hj)⟩
        have HF0 := Lib.hid hF0
        have HF := Lib.hid hF
        have HS6 := Lib.hid (HS5.out.bel hb6)
        have HO6 := Lib.hid (HO.out.row.below hb6)
        clear hF0 hF hb6 HS5
        go_wp2_with fail
        refine (mget_c A _ L w6 (HSE.out.below HS6.out.below) HF0.out (by have := HO.out.len; omega) HO.out.byt).mono ?_
        rintro ev w7 ⟨rfl, hb7⟩
        have HIS := Lib.hid (tell_is L)
        obtain ⟨TT, hTT⟩ : ∃ T, tellM L = T := ⟨_, rfl⟩
        have HTT := Lib.hid hTT
        rw [hTT] at HIS ⊢
        clear hTT
        obtain ⟨X, E⟩ := TT
        obtain ⟨s1, s2, s3, s4, s5, s6, s7, s8, s9, s10, s11, s12, s13⟩ := X
        simp only [MsgV.v] at HIS ⊢
        obtain ⟨cd, hcd⟩ : ∃ c, E.code = c := ⟨_, rfl⟩
        have HCD := Lib.hid hcd
        rw [hcd] at HIS
        clear hcd
        have hb8 : Below w7.heap.size w7 (w7.alloc (.cells #[.int .i64 s1, .int .i64 s2, .int .i64 s3, .int .i64 s4, .int .i64 s5, .int .i64 s6, .int .i64 s7, .int .u32 s8, .int .u32 s9, .int .u32 s10, .int .u32 s11, .int .u32 s12, .bool s13] 54)) := (Below.refl _ _).alloc (Nat.le_refl _) _
        have HX8 := Lib.hid (MAt.new w7 ⟨s1, s2, s3, s4, s5, s6, s7, s8, s9, s10, s11, s12, s13⟩)
        have HS8 := Lib.hid ((HS6.out.bel hb7).bel hb8)
        have HO8 := Lib.hid ((HO6.out.below hb7).below hb8)
        have HF8 := Lib.hid ((HF.out.below hb7).below hb8)
        simp only at HX8
        clear hb7 hb8 HF0 HS6 HO6 HF
        go_upto_region 16 with fail
        obtain ⟨h14, hh14⟩ : ∃ h, h = w7.heap.size := ⟨_, rfl⟩
        rw [← hh14] at HX8 ⊢
        generalize w7.alloc (.cells #[.int .i64 s1, .int .i64 s2, .int .i64 s3, .int .i64 s4, .int .i64 s5, .int .i64 s6, .int .i64 s7, .int .u32 s8, .int .u32 s9, .int .u32 s10, .int .u32 s11, .int .u32 s12, .bool s13] 54) = w8 at *
        clear hh14
        go_wp2_with fail
        refine (rget_c _ L w8 HO8.out (by have := HO.out.len; omega) HO.out.byt).mono ?_
        rintro ev w9 ⟨⟨pl, rfl⟩, hb9⟩
        rw [HTT.out]
        simp only [MsgV.v]
        rw [HCD.out]
        have hb10 : Below w9.heap.size w9 (w9.alloc (.cells #[.int .i64 s1, .int .i64 s2, .int .i64 s3, .int .i64 s4, .int .i64 s5, .int .i64 s6, .int .i64 s7, .int .u32 s8, .int .u32 s9, .int .u32 s10, .int .u32 s11, .int .u32 s12, .bool s13] 54)) := (Below.refl _ _).alloc (Nat.le_refl _) _
        have HY10 := Lib.hid (MAt.new w9 ⟨s1, s2, s3, s4, s5, s6, s7, s8, s9, s10, s11, s12, s13⟩)
        have HS10 := Lib.hid ((HS8.out.bel hb9).bel hb10)
        have HO10 := Lib.hid ((HO8.out.below hb9).below hb10)
        have HF10 := Lib.hid ((HF8.out.below hb9).below hb10)
        have HX10 := Lib.hid (show MAt _ h14 ⟨s1, s2, s3, s4, s5, s6, s7, s8, s9, s10, s11, s12, s13⟩ from (HX8.out.below hb9).below hb10)
        simp only at HY10
        clear hb9 hb10 HS8 HO8 HF8 HX8
        go_upto_region 17 with fail
        obtain ⟨h16, hh16⟩ : ∃ h, h = w9.heap.size := ⟨_, rfl⟩
        rw [← hh16] at HY10 ⊢
        generalize w9.alloc (.cells #[.int .i64 s1, .int .i64 s2, .int .i64 s3, .int .i64 s4, .int .i64 s5, .int .i64 s6, .int .i64 s7, .int .u32 s8, .int .u32 s9, .int .u32 s10, .int .u32 s11, .int .u32 s12, .bool s13] 54) = w10 at *
        clear hh16 HTT HCD gcap
        have heq := fun w => run_eqMs s1 s2 s3 s4 s5 s6 s7 s8 s9 s10 s11 s12 s1 s2 s3 s4 s5 s6 s7 s8 s9 s10 s11 s12 s13 s13 w
        rw [show eqM ⟨s1, s2, s3, s4, s5, s6, s7, s8, s9, s10, s11, s12, s13⟩ ⟨s1, s2, s3, s4, s5, s6, s7, s8, s9, s10, s11, s12, s13⟩ = true from (eqM_iff _ _).2 rfl] at heq
        refine wp_region_lexA ⟨[35, 36], []⟩ (fun x => Below w10.heap.size w10 x) (by kernel_rfl) (by kernel_rfl) (Below.refl _ _).drew ?_
        intro S hto hof hne
        have hxf := HS10.out.m
        have f0 := cell_of hxf 0
        have f1 := cell_of hxf 1
        have f2 := cell_of hxf 2
        have f3 := cell_of hxf 3
        have f4 := cell_of hxf 4
        have f5 := cell_of hxf 5
        have f6 := cell_of hxf 6
        have f7 := cell_of hxf 7
        have f8 := cell_of hxf 8
        have f9 := cell_of hxf 9
        have f10 := cell_of hxf 10
        have f11 := cell_of hxf 11
        have f12 := cell_of hxf 12
        simp only [List.getElem?_toArray, List.getElem?_cons_zero, List.getElem?_cons_succ] at f0 f1 f2 f3 f4 f5 f6 f7 f8 f9 f10 f11 f12
        have hlf := (Array.getElem?_eq_some_iff.1 hxf).1
        have xf0 : ∀ z : Wd S, z.w.cell? ⟨h5, 0, none⟩ = some (.int .i64 a1) := fun z => ((hto z).cell (p := ⟨h5, 0, none⟩) hlf).trans f0
        have xf1 : ∀ z : Wd S, z.w.cell? ⟨h5, 1, none⟩ = some (.int .i64 a2) := fun z => ((hto z).cell (p := ⟨h5, 1, none⟩) hlf).trans f1
        have xf2 : ∀ z : Wd S, z.w.cell? ⟨h5, 2, none⟩ = some (.int .i64 a3) := fun z => ((hto z).cell (p := ⟨h5, 2, none⟩) hlf).trans f2
        have xf3 : ∀ z : Wd S, z.w.cell? ⟨h5, 3, none⟩ = some (.int .i64 a4) := fun z => ((hto z).cell (p := ⟨h5, 3, none⟩) hlf).trans f3
        have xf4 : ∀ z : Wd S, z.w.cell? ⟨h5, 4, none⟩ = some (.int .i64 a5) := fun z => ((hto z).cell (p := ⟨h5, 4, none⟩) hlf).trans f4
        have xf5 : ∀ z : Wd S, z.w.cell? ⟨h5, 5, none⟩ = some (.int .i64 a6) := fun z => ((hto z).cell (p := ⟨h5, 5, none⟩) hlf).trans f5
        have xf6 : ∀ z : Wd S, z.w.cell? ⟨h5, 6, none⟩ = some (.int .i64 a7) := fun z => ((hto z).cell (p := ⟨h5, 6, none⟩) hlf).trans f6
        have xf7 : ∀ z : Wd S, z.w.cell? ⟨h5, 7, none⟩ = some (.int .u32 a8) := fun z => ((hto z).cell (p := ⟨h5, 7, none⟩) hlf).trans f7
        have xf8 : ∀ z : Wd S, z.w.cell? ⟨h5, 8, none⟩ = some (.int .u32 a9) := fun z => ((hto z).cell (p := ⟨h5, 8, none⟩) hlf).trans f8
        have xf9 : ∀ z : Wd S, z.w.cell? ⟨h5, 9, none⟩ = some (.int .u32 a10) := fun z => ((hto z).cell (p := ⟨h5, 9, none⟩) hlf).trans f9
        have xf10 : ∀ z : Wd S, z.w.cell? ⟨h5, 10, none⟩ = some (.int .u32 a11) := fun z => ((hto z).cell (p := ⟨h5, 10, none⟩) hlf).trans f10
        have xf11 : ∀ z : Wd S, z.w.cell? ⟨h5, 11, none⟩ = some (.int .u32 a12) := fun z => ((hto z).cell (p := ⟨h5, 11, none⟩) hlf).trans f11
        have xf12 : ∀ z : Wd S, z.w.cell? ⟨h5, 12, none⟩ = some (.bool a13) := fun z => ((hto z).cell (p := ⟨h5, 12, none⟩) hlf).trans f12
        clear hxf hlf f0 f1 f2 f3 f4 f5 f6 f7 f8 f9 f10 f11 f12
        have hxe := HX10.out
        have e0 := cell_of hxe 0
        have e1 := cell_of hxe 1
        have e2 := cell_of hxe 2
        have e3 := cell_of hxe 3
        have e4 := cell_of hxe 4
        have e5 := cell_of hxe 5
        have e6 := cell_of hxe 6
        have e7 := cell_of hxe 7
        have e8 := cell_of hxe 8
        have e9 := cell_of hxe 9
        have e10 := cell_of hxe 10
        have e11 := cell_of hxe 11
        have e12 := cell_of hxe 12
        simp only [List.getElem?_toArray, List.getElem?_cons_zero, List.getElem?_cons_succ] at e0 e1 e2 e3 e4 e5 e6 e7 e8 e9 e10 e11 e12
        have hle := (Array.getElem?_eq_some_iff.1 hxe).1
        have xe0 : ∀ z : Wd S, z.w.cell? ⟨h14, 0, none⟩ = some (.int .i64 s1) := fun z => ((hto z).cell (p := ⟨h14, 0, none⟩) hle).trans e0
        have xe1 : ∀ z : Wd S, z.w.cell? ⟨h14, 1, none⟩ = some (.int .i64 s2) := fun z => ((hto z).cell (p := ⟨h14, 1, none⟩) hle).trans e1
        have xe2 : ∀ z : Wd S, z.w.cell? ⟨h14, 2, none⟩ = some (.int .i64 s3) := fun z => ((hto z).cell (p := ⟨h14, 2, none⟩) hle).trans e2
        have xe3 : ∀ z : Wd S, z.w.cell? ⟨h14, 3, none⟩ = some (.int .i64 s4) := fun z => ((hto z).cell (p := ⟨h14, 3, none⟩) hle).trans e3
        have xe4 : ∀ z : Wd S, z.w.cell? ⟨h14, 4, none⟩ = some (.int .i64 s5) := fun z => ((hto z).cell (p := ⟨h14, 4, none⟩) hle).trans e4
        have xe5 : ∀ z : Wd S, z.w.cell? ⟨h14, 5, none⟩ = some (.int .i64 s6) := fun z => ((hto z).cell (p := ⟨h14, 5, none⟩) hle).trans e5
        have xe6 : ∀ z : Wd S, z.w.cell? ⟨h14, 6, none⟩ = some (.int .i64 s7) := fun z => ((hto z).cell (p := ⟨h14, 6, none⟩) hle).trans e6
        have xe7 : ∀ z : Wd S, z.w.cell? ⟨h14, 7, none⟩ = some (.int .u32 s8) := fun z => ((hto z).cell (p := ⟨h14, 7, none⟩) hle).trans e7
        have xe8 : ∀ z : Wd S, z.w.cell? ⟨h14, 8, none⟩ = some (.int .u32 s9) := fun z => ((hto z).cell (p := ⟨h14, 8, none⟩) hle).trans e8
        have xe9 : ∀ z : Wd S, z.w.cell? ⟨h14, 9, none⟩ = some (.int .u32 s10) := fun z => ((hto z).cell (p := ⟨h14, 9, none⟩) hle).trans e9
        have xe10 : ∀ z : Wd S, z.w.cell? ⟨h14, 10, none⟩ = some (.int .u32 s11) := fun z => ((hto z).cell (p := ⟨h14, 10, none⟩) hle).trans e10
        have xe11 : ∀ z : Wd S, z.w.cell? ⟨h14, 11, none⟩ = some (.int .u32 s12) := fun z => ((hto z).cell (p := ⟨h14, 11, none⟩) hle).trans e11
        have xe12 : ∀ z : Wd S, z.w.cell? ⟨h14, 12, none⟩ = some (.bool s13) := fun z => ((hto z).cell (p := ⟨h14, 12, none⟩) hle).trans e12
        clear hxe hle e0 e1 e2 e3 e4 e5 e6 e7 e8 e9 e10 e11 e12
        have hxj := HY10.out
        have j0 := cell_of hxj 0
        have j1 := cell_of hxj 1
        have j2 := cell_of hxj 2
        have j3 := cell_of hxj 3
        have j4 := cell_of hxj 4
        have j5 := cell_of hxj 5
        have j6 := cell_of hxj 6
        have j7 := cell_of hxj 7
        have j8 := cell_of hxj 8
        have j9 := cell_of hxj 9
        have j10 := cell_of hxj 10
        have j11 := cell_of hxj 11
        have j12 := cell_of hxj 12
        simp only [List.getElem?_toArray, List.getElem?_cons_zero, List.getElem?_cons_succ] at j0 j1 j2 j3 j4 j5 j6 j7 j8 j9 j10 j11 j12
        have hlj := (Array.getElem?_eq_some_iff.1 hxj).1
        have xj0 : ∀ z : Wd S, z.w.cell? ⟨h16, 0, none⟩ = some (.int .i64 s1) := fun z => ((hto z).cell (p := ⟨h16, 0, none⟩) hlj).trans j0
        have xj1 : ∀ z : Wd S, z.w.cell? ⟨h16, 1, none⟩ = some (.int .i64 s2) := fun z => ((hto z).cell (p := ⟨h16, 1, none⟩) hlj).trans j1
        have xj2 : ∀ z : Wd S, z.w.cell? ⟨h16, 2, none⟩ = some (.int .i64 s3) := fun z => ((hto z).cell (p := ⟨h16, 2, none⟩) hlj).trans j2
        have xj3 : ∀ z : Wd S, z.w.cell? ⟨h16, 3, none⟩ = some (.int .i64 s4) := fun z => ((hto z).cell (p := ⟨h16, 3, none⟩) hlj).trans j3
        have xj4 : ∀ z : Wd S, z.w.cell? ⟨h16, 4, none⟩ = some (.int .i64 s5) := fun z => ((hto z).cell (p := ⟨h16, 4, none⟩) hlj).trans j4
        have xj5 : ∀ z : Wd S, z.w.cell? ⟨h16, 5, none⟩ = some (.int .i64 s6) := fun z => ((hto z).cell (p := ⟨h16, 5, none⟩) hlj).trans j5
        have xj6 : ∀ z : Wd S, z.w.cell? ⟨h16, 6, none⟩ = some (.int .i64 s7) := fun z => ((hto z).cell (p := ⟨h16, 6, none⟩) hlj).trans j6
        have xj7 : ∀ z : Wd S, z.w.cell? ⟨h16, 7, none⟩ = some (.int .u32 s8) := fun z => ((hto z).cell (p := ⟨h16, 7, none⟩) hlj).trans j7
        have xj8 : ∀ z : Wd S, z.w.cell? ⟨h16, 8, none⟩ = some (.int .u32 s9) := fun z => ((hto z).cell (p := ⟨h16, 8, none⟩) hlj).trans j8
        have xj9 : ∀ z : Wd S, z.w.cell? ⟨h16, 9, none⟩ = some (.int .u32 s10) := fun z => ((hto z).cell (p := ⟨h16, 9, none⟩) hlj).trans j9
        have xj10 : ∀ z : Wd S, z.w.cell? ⟨h16, 10, none⟩ = some (.int .u32 s11) := fun z => ((hto z).cell (p := ⟨h16, 10, none⟩) hlj).trans j10
        have xj11 : ∀ z : Wd S, z.w.cell? ⟨h16, 11, none⟩ = some (.int .u32 s12) := fun z => ((hto z).cell (p := ⟨h16, 11, none⟩) hlj).trans j11
        have xj12 : ∀ z : Wd S, z.w.cell? ⟨h16, 12, none⟩ = some (.bool s13) := fun z => ((hto z).cell (p := ⟨h16, 12, none⟩) hlj).trans j12
        clear hxj hlj j0 j1 j2 j3 j4 j5 j6 j7 j8 j9 j10 j11 j12
        have Hof := Lib.hid hof
        clear hto hof
        refine lexW_light 2 (by kernel_rfl) ?_
        simp only [List.take_succ_cons, List.take_zero, List.drop_succ_cons, List.drop_zero]
        repeat (first | go_big_quiet_skip | (go_big_quiet_want; go_big_quiet_op; go_big_quiet_on))
        refine wpQuiet_nil ?_
        refine lexW_pure (by kernel_rfl) (by rfl) rfl Tryd.func35 rfl (by kernel_rfl) (fun x => pool_c a1 x.w) (by go_simp) ?_
        simp only [Act.put, List.setIfInBounds_toArray, List.set_cons_zero, List.set_cons_succ]
        refine lexW_light 2 (by kernel_rfl) ?_
        simp only [List.take_succ_cons, List.take_zero, List.drop_succ_cons, List.drop_zero]
        repeat (first | go_big_quiet_skip | (go_big_quiet_want; go_big_quiet_op; go_big_quiet_on))
        refine wpQuiet_nil ?_
        refine lexW_pure (by kernel_rfl) (by rfl) rfl Tryd.func36 rfl (by kernel_rfl) (fun x => rpool_c a1 x.w) (by go_simp) ?_
        simp only [Act.put, List.setIfInBounds_toArray, List.set_cons_zero, List.set_cons_succ]
        generalize poolM a1 = p at *
        refine lexW_light 3 (by kernel_rfl) ?_
        simp only [List.take_succ_cons, List.take_zero, List.drop_succ_cons, List.drop_zero]
        repeat (first | go_big_quiet_skip | (go_big_quiet_want; go_big_quiet_op; go_big_quiet_on))
        refine wpQuiet_nil ?_
        refine lexW_heavy (by kernel_rfl) ?_
        go_wp2_with fail
        refine (mright_c ⟨a1, a2, a3, a4, a5, a6, a7, a8, a9, a10, a11, a12, a13⟩ w10.drew).mono ?_
        rintro ev y1 ⟨rfl, hby⟩
        have HB1 := Lib.hid ((Below.refl w10.heap.size w10).drew.trans hby)
        clear hby
        obtain ⟨R, hR⟩ : ∃ R, rightM ⟨a1, a2, a3, a4, a5, a6, a7, a8, a9, a10, a11, a12, a13⟩ = R := ⟨_, rfl⟩
        have HR := Lib.hid hR
        rw [hR]
        clear hR
        go_wp2_with fail
        refine lexQ_more (Hof.out _ HB1.out) ?_
        refine lexW_light 1 (by kernel_rfl) ?_
        simp only [List.take_succ_cons, List.take_zero, List.drop_succ_cons, List.drop_zero]
        repeat (first | go_big_quiet_skip | (go_big_quiet_want; go_big_quiet_op; go_big_quiet_on))
        refine wpQuiet_nil ?_
        refine lexW_heavy (by kernel_rfl) ?_
        go_wp2_with fail
        refine (rright_c ⟨a1, a2, a3, a4, a5, a6, a7, a8, a9, a10, a11, a12, a13⟩ y1).mono ?_
        rintro ev y2 ⟨rfl, hby⟩
        have HB2 := Lib.hid (HB1.out.trans (hby.mono HB1.out.size))
        clear hby
        rw [HR.out]
        go_wp2_with fail
        refine lexQ_more (Hof.out _ HB2.out) ?_
        refine lexW_light 4 (by kernel_rfl) ?_
        simp only [List.take_succ_cons, List.take_zero, List.drop_succ_cons, List.drop_zero]
        repeat (first | go_big_quiet_skip | (go_big_quiet_want; go_big_quiet_op; go_big_quiet_on))
        refine wpQuiet_nil ?_
        refine lexW_heavy (by kernel_rfl) ?_
        go_wp2_with fail
        refine (mput_c ⟨a1, a2, a3, a4, a5, a6, a7, a8, a9, a10, a11, a12, a13⟩ y2 HFM.out).mono ?_
        rintro ev y3 ⟨u3, rfl, hu3, hby⟩
        have HU3 := Lib.hid hu3.slc
        have HB3 := Lib.hid (HB2.out.trans (hby.mono HB2.out.size))
        clear hby hu3
        go_wp2_with fail
        refine lexQ_more (Hof.out _ HB3.out) ?_
        refine lexW_light 1 (by kernel_rfl) ?_
        simp only [List.take_succ_cons, List.take_zero, List.drop_succ_cons, List.drop_zero]
        repeat (first | go_big_quiet_skip | (go_big_quiet_want; go_big_quiet_op; go_big_quiet_on))
        refine wpQuiet_nil ?_
        refine lexW_heavy (by kernel_rfl) ?_
        go_wp2_with fail
        refine (rput_c ⟨a1, a2, a3, a4, a5, a6, a7, a8, a9, a10, a11, a12, a13⟩ y3 HFM.out).mono ?_
        rintro ev y4 ⟨u4, rfl, hu4, hby⟩
        have HU4 := Lib.hid hu4.slc
        have HV4 := Lib.hid (HU3.out.below hby)
        have HB4 := Lib.hid (HB3.out.trans (hby.mono HB3.out.size))
        clear hby hu4
        go_wp2_with fail
        refine lexQ_more (Hof.out _ HB4.out) ?_
        refine lexW_heavy (by kernel_rfl) ?_
        go_wp2_with fail
        refine (sameG_c (putM ⟨a1, a2, a3, a4, a5, a6, a7, a8, a9, a10, a11, a12, a13⟩) (putM ⟨a1, a2, a3, a4, a5, a6, a7, a8, a9, a10, a11, a12, a13⟩) _ _ y4 HV4.out HU4.out (by have := putM_len HFM.out; omega) (by have := putM_len HFM.out; omega)).mono ?_
        rintro ev y5 ⟨rfl, hby⟩
        rw [show decide (putM ⟨a1, a2, a3, a4, a5, a6, a7, a8, a9, a10, a11, a12, a13⟩ = putM ⟨a1, a2, a3, a4, a5, a6, a7, a8, a9, a10, a11, a12, a13⟩) = true from decide_eq_true rfl]
        have HB5 := Lib.hid (HB4.out.trans (hby.mono HB4.out.size))
        clear hby
        go_wp2_with fail
        refine lexQ_more (Hof.out _ HB5.out) ?_
        refine lexW_light 9 (by kernel_rfl) ?_
        simp only [List.take_succ_cons, List.take_zero, List.drop_succ_cons, List.drop_zero]
        repeat (first | go_big_quiet_skip | (go_big_quiet_want; go_big_quiet_op; go_big_quiet_on))
        refine wpQuiet_nil ?_
        refine lexW_heavy (by kernel_rfl) ?_
        go_wp2_with fail
        refine (is_c A E cd mtT 0 y5 (HSE.out.below (HS10.out.below.trans (HB5.out.mono HS10.out.below.size))) HIS.out.1 (by omega) (by have := HIS.out.2.1; omega)).mono ?_
        rintro ev y6 ⟨rfl, hby⟩
        rw [show isK E cd mtT 0 = true from HIS.out.2.2.1]
        have HB6 := Lib.hid (HB5.out.trans (hby.mono HB5.out.size))
        clear hby
        go_wp2_with fail
        refine lexQ_more (Hof.out _ HB6.out) ?_
        refine lexW_light 4 (by kernel_rfl) ?_
        simp only [List.take_succ_cons, List.take_zero, List.drop_succ_cons, List.drop_zero]
        repeat (first | go_big_quiet_skip | (go_big_quiet_want; go_big_quiet_op; go_big_quiet_on))
        refine wpQuiet_nil ?_
        refine lexW_heavy (by kernel_rfl) ?_
        go_wp2_with fail
        refine (only_c A E cd y6 (HSE.out.below (HS10.out.below.trans (HB6.out.mono HS10.out.below.size))) HIS.out.1 (by omega) (by have := HIS.out.2.1; omega)).mono ?_
        rintro ev y7 ⟨rfl, hby⟩
        rw [show onlyK E cd = true from HIS.out.2.2.2]
        have HB7 := Lib.hid (HB6.out.trans (hby.mono HB6.out.size))
        clear hby
        go_wp2_with fail
        refine lexQ_more (Hof.out _ HB7.out) ?_
        refine lexW_light 4 (by kernel_rfl) ?_
        simp only [List.take_succ_cons, List.take_zero, List.drop_succ_cons, List.drop_zero]
        repeat (first | go_big_quiet_skip | (go_big_quiet_want; go_big_quiet_op; go_big_quiet_on))
        refine wpQuiet_nil ?_
        refine lexW_heavy (by kernel_rfl) ?_
        go_wp2_with fail
        refine (intactB_c _ _ L 3 w5.heap.size y7 (HF10.out.below HB7.out) (HO10.out.below HB7.out) (by have := HO.out.len; omega)).mono ?_
        rintro ev y8 ⟨rfl, hby⟩
        have HB8 := Lib.hid (HB7.out.trans (hby.mono HB7.out.size))
        clear hby
        go_wp2_with fail
        refine lexQ_more (Hof.out _ HB8.out) ?_
        refine lexW_light 2 (by kernel_rfl) ?_
        simp only [List.take_succ_cons, List.take_zero, List.drop_succ_cons, List.drop_zero]
        repeat (first | go_big_quiet_skip | (go_big_quiet_want; go_big_quiet_op; go_big_quiet_on))
        refine wpQuiet_nil ?_
        refine lexW_heavy (by kernel_rfl) ?_
        go_wp2_with fail
        refine (msgRuns A y8 (HSE.out.below (HS10.out.below.trans (HB8.out.mono HS10.out.below.size)))).mono ?_
        rintro ev y9 ⟨rfl, hby⟩
        have HB9 := Lib.hid (HB8.out.trans (hby.mono HB8.out.size))
        clear hby
        go_wp2_with fail
        refine lexQ_more (Hof.out _ HB9.out) ?_
        refine lexW_light 2 (by kernel_rfl) ?_
        simp only [List.take_succ_cons, List.take_zero, List.drop_succ_cons, List.drop_zero]
        repeat (first | go_big_quiet_skip | (go_big_quiet_want; go_big_quiet_op; go_big_quiet_on))
        refine wpQuiet_nil ?_
        refine lexW_done ?_
        clear xf0 xf1 xf2 xf3 xf4 xf5 xf6 xf7 xf8 xf9 xf10 xf11 xf12 xe0 xe1 xe2 xe3 xe4 xe5 xe6 xe7 xe8 xe9 xe10 xe11 xe12 xj0 xj1 xj2 xj3 xj4 xj5 xj6 xj7 xj8 xj9 xj10 xj11 xj12 Hof
        go_wp2_with fail
        go_ret
        exact ⟨rfl, HS10.out.below.trans (HB9.out.mono HS10.out.below.size)⟩

end Go.Proofs.YtpljdbcifaeblaaDoor
