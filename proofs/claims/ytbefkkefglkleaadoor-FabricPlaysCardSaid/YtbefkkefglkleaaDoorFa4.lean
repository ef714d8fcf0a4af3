/- The fabric's All. -/
import Derived.Test.YtbefkkefglkleaaDoorFa2
import Derived.Maps.RangeRun
namespace Go.Proofs.YtbefkkefglkleaaDoor
open Go.RowKit Go.Extern.Stop Go.Stop Go.Extern
open Go.ChangeMaps (setBlock)

def lenS : Value → Int
  | .slice _ n _ => n
  | _ => 0
def lenE (e : MapEntry) : MapEntry := { e with val := .int .i64 (lenS e.val) }
theorem ents_mem : ∀ (E : List (Plc × Value)) (n : Nat) (e : MapEntry), e ∈ ents E n → ∃ x ∈ E, e.key = keyV x.1 ∧ e.val = x.2 ∧ n ≤ e.born ∧ e.born < n + E.length
  | [], _, _, h => by cases h
  | x :: E, n, e, h => by
    simp only [ents, List.mem_cons] at h
    rcases h with rfl | h
    · exact ⟨x, List.mem_cons_self .., rfl, rfl, Nat.le_refl _, by simp⟩
    · obtain ⟨y, hy, h1, h2, h3, h4⟩ := ents_mem E (n + 1) e h
      exact ⟨y, List.mem_cons_of_mem _ hy, h1, h2, by omega, by simp only [List.length_cons]; omega⟩
theorem ents_nodup : ∀ (E : List (Plc × Value)) (n : Nat), ((ents E n).map (·.born)).Nodup
  | [], _ => List.nodup_nil
  | x :: E, n => by
    simp only [ents, List.map_cons, List.nodup_cons]
    refine ⟨fun h => ?_, ents_nodup E (n + 1)⟩
    obtain ⟨e, he, hb⟩ := List.mem_map.1 h
    obtain ⟨_, _, _, _, h3, _⟩ := ents_mem E (n + 1) e he
    omega
theorem getV_mem (z : Value) : ∀ (E : List (Plc × Value)), (E.map (·.1)).Nodup → ∀ x ∈ E, getV z E x.1 = x.2
  | [], _, _, h => by cases h
  | y :: E, hn, x, h => by
    simp only [List.map_cons, List.nodup_cons] at hn
    simp only [getV]
    rcases List.mem_cons.1 h with rfl | h
    · simp
    · have hne : x.1 ≠ y.1 := fun e => hn.1 (e ▸ List.mem_map.2 ⟨x, h, rfl⟩)
      rw [if_neg hne]
      exact getV_mem z E hn.2 x h
theorem seenSum_le : ∀ (es : List MapEntry) (seen : Array Nat), (∀ e ∈ es, 0 ≤ valOf e.val) → 0 ≤ seenSum es seen ∧ seenSum es seen ≤ (es.map fun e => valOf e.val).sum
  | [], _, _ => by simp [seenSum]
  | e :: es, seen, h => by
    have ih := seenSum_le es seen fun x hx => h x (List.mem_cons_of_mem _ hx)
    have h0 := h e (List.mem_cons_self ..)
    simp only [seenSum, List.map_cons, List.sum_cons]
    split <;> omega
theorem ents_sum (F : Plc → List MsgV) : ∀ (E : List (Plc × Value)) (n : Nat), (∀ x ∈ E, lenS x.2 = ((F x.1).length : Int)) → (((ents E n).map lenE).map fun e => valOf e.val).sum = ((totF E F : Nat) : Int)
  | [], _, _ => rfl
  | x :: E, n, h => by
    have ih := ents_sum F E (n + 1) fun y hy => h y (List.mem_cons_of_mem _ hy)
    have h0 := h x (List.mem_cons_self ..)
    simp only [ents, List.map_cons, List.sum_cons, totF, lenE, valOf] at ih ⊢
    rw [ih, h0]
    simp
theorem FbE.vals {w0 wx : World} {b r : Nat} {cores room : Int} {E : List (Plc × Value)} {F : Plc → List MsgV} (h : FbE w0 b r cores room E F wx) : ∀ x ∈ E, ∃ a c, x.2 = .slice a (F x.1).length c := fun x hx => by
  have h1 := h.rows x.1
  rw [getV_mem nilS E h.nd x hx] at h1
  exact h1.len

theorem setBlock_at {w : World} {h : Nat} {o o' : Obj} (hx : w.heap[h]? = some o) : (setBlock w h o').heap[h]? = some o' ∧ Mods (fun q => q = h) w (setBlock w h o') := by
  have hlt := (Array.getElem?_eq_some_iff.1 hx).1
  refine ⟨?_, ⟨rfl, rfl, rfl, by simp [setBlock], fun k hk hn => ?_⟩⟩
  · show (w.heap.setIfInBounds h _)[h]? = _
    rw [Array.getElem?_setIfInBounds_self_of_lt hlt]
  · show (w.heap.setIfInBounds h _)[k]? = _
    rw [Array.getElem?_setIfInBounds_ne (fun e => hn e.symm)]

set_option maxRecDepth 100000 in
set_option maxHeartbeats 4000000 in
theorem fall_c (w0 : World) (b r : Nat) (cores room : Int) (E : List (Plc × Value)) (F : Plc → List MsgV) (w : World) (h : FbE w0 b r cores room E F w) (hT : totF E F ≤ 1000000) :
    Calls Tryd.prog 14 #[.pointer (some ⟨b, 0, none⟩)] w fun ev w' => ev = .returned (.int .i64 (totF E F : Nat)) ∧ Below w.heap.size w w' := by
  have HF := Lib.hid h
  have hxb := h.blk
  have g2 := cell_of hxb 2
  simp only [List.getElem?_toArray, List.getElem?_cons_zero, List.getElem?_cons_succ] at g2
  have hrg := run_range_map (P := Tryd.prog) w 66 70 44 r (ents E 0).toArray E.length Tryd.underlying66 h.map
  have HSL := Lib.hid (fun x hx => h.vals x hx)
  have HV := Lib.hid (show ∀ x ∈ E, lenS x.2 = ((F x.1).length : Int) from fun x hx => by obtain ⟨a, c, e⟩ := h.vals x hx; rw [e]; rfl)
  have HSM := Lib.hid (ents_sum F E 0 HV.out)
  have HPS := Lib.hid (show ∀ e ∈ (ents E 0).map lenE, 0 ≤ valOf e.val from fun e he => by
    obtain ⟨y, hy, rfl⟩ := List.mem_map.1 he
    obtain ⟨x, hx, _, h2, _⟩ := ents_mem E 0 y hy
    simp only [lenE, valOf, h2, HV.out x hx]
    omega)
  have HTT := Lib.hid hT
  have hba : Below w.heap.size w (w.alloc (.mapIter (some r) E.length #[] E.length)) := (Below.refl _ _).alloc (Nat.le_refl _) _
  have HBA := Lib.hid hba
  have HFA := Lib.hid (h.bel hba)
  have HIA := Lib.hid (heap_alloc_new w (.mapIter (some r) E.length #[] E.length))
  clear h hT hba hxb
  go_enter Tryd.func14, Tryd.ntmps14
  go_wp2_with fail
  obtain ⟨h10, hh10⟩ : ∃ h, h = w.heap.size := ⟨_, rfl⟩
  have HLE := Lib.hid (show w.heap.size ≤ h10 ∧ r ≠ h10 from by have := HF.out.lt; omega)
  rw [← hh10] at HIA ⊢
  generalize w.alloc (.mapIter (some r) E.length #[] E.length) = wa at *
  clear hh10 hrg g2
  go_loopw [3] (fun s3 wr => ∃ (seen : Array Nat), s3 = .int .i64 (seenSum ((ents E 0).map lenE) seen) ∧ wr.heap[h10]? = some (.mapIter (some r) E.length seen E.length) ∧ MapAt wr r E ∧ Below w.heap.size w wr) (fun _ wr => (leftOf (ents E 0).toArray (wr.iterSeen h10)).size)
  case atStart => exact ⟨#[], by rw [seenSum_none], HIA.out, HFA.out.map, HBA.out⟩
  case round =>
    clear HIA HFA HBA
    obtain ⟨seen, rfl, hit, hmp, hB⟩ := hrel
    have HIT := Lib.hid hit
    have HMP := Lib.hid hmp
    have HB := Lib.hid hB
    have hnx := run_next_at (P := Tryd.prog) wr 0 h10 r E.length E.length seen (ents E 0).toArray E.length hit hmp (fun x hx => by obtain ⟨_, _, _, _, _, h4⟩ := ents_mem E 0 x (by simpa using hx); omega) (Nat.le_refl _)
    clear hit hmp hB
    rcases hnx with ⟨h0, hnx⟩ | ⟨e, he, w1, hw1, hnx⟩
    · have hny : ∀ ty, (Instr.next (.pointer (some ⟨h10, 0, none⟩)) false ty).run Tryd.prog wr = .ok (.tuple #[.bool false]) wr := fun ty => hnx
      have HSF := Lib.hid (show seenSum ((ents E 0).map lenE) seen = ((totF E F : Nat) : Int) from by
        rw [← HSM.out]
        refine seenSum_full seen _ fun x hx => ?_
        obtain ⟨y, hy, rfl⟩ := List.mem_map.1 hx
        exact all_seen (ents E 0).toArray seen h0 y (by simpa using hy))
      clear hnx h0
      go_wp2_with fail
      go_ret
      exact ⟨by rw [HSF.out]; rfl, HB.out⟩
    · have hMw : Mods (fun q => q = h10) wr w1 ∧ w1.heap = wr.heap := by
        rcases hw1 with rfl | rfl
        · exact ⟨Mods.refl _ _, rfl⟩
        · exact ⟨(Mods.refl _ _).drew, rfl⟩
      have hsb := setBlock_at (w := w1) (h := h10) (o' := .mapIter (some r) E.length (seen.push e.born) E.length) (o := .mapIter (some r) E.length seen E.length) (by rw [hMw.2]; exact HIT.out)
      have hny : ∀ ty, (Instr.next (.pointer (some ⟨h10, 0, none⟩)) false ty).run Tryd.prog wr = .ok (.tuple #[.bool true, e.key, e.val]) (setBlock w1 h10 (.mapIter (some r) E.length (seen.push e.born) E.length)) := fun ty => hnx
      generalize setBlock w1 h10 (.mapIter (some r) E.length (seen.push e.born) E.length) = w2 at *
      have hM : Mods (fun q => q = h10) wr w2 := hMw.1.trans hsb.2 fun _ _ h => h
      have HI2 := Lib.hid hsb.1
      have hm2 : MapAt w2 r E := (hM.block r (Array.getElem?_eq_some_iff.1 HMP.out).1 HLE.out.2).trans HMP.out
      have HM2 := Lib.hid hm2
      have HB2 := Lib.hid (HB.out.trans (hM.below HB.out.size fun q (hq : q = h10) => by have := HLE.out.1; omega))
      obtain ⟨hm, hs⟩ := mem_left he
      have HE := Lib.hid he
      have hen := run_entry_at (P := Tryd.prog) w2 h10 r E.length seen (ents E 0).toArray E.length e HI2.out hm2 hm (by simpa using ents_nodup E 0)
      have hme : e ∈ ents E 0 := by simpa using hm
      have hmL : lenE e ∈ (ents E 0).map lenE := List.mem_map.2 ⟨e, hme, rfl⟩
      have hnL : (((ents E 0).map lenE).map (·.born)).Nodup := by
        rw [List.map_map]
        exact ents_nodup E 0
      have hpush := seenSum_push seen (lenE e) hs ((ents E 0).map lenE) hnL hmL
      have hle1 := seenSum_le ((ents E 0).map lenE) seen HPS.out
      have hle2 := seenSum_le ((ents E 0).map lenE) (seen.push e.born) HPS.out
      rw [HSM.out] at hle1 hle2
      obtain ⟨x, hx, _, hv, _⟩ := ents_mem E 0 e hme
      obtain ⟨ae, ce, hsl⟩ := HSL.out x hx
      rw [show (lenE e).born = e.born from rfl, show valOf (lenE e).val = ((F x.1).length : Int) from by simp only [lenE, valOf, hv, HV.out x hx]] at hpush
      rw [hpush] at hle2
      have HPU := Lib.hid hpush
      rw [hv, hsl] at hny hen
      have hT := HTT.out
      generalize seenSum ((ents E 0).map lenE) seen = A at *
      generalize (F x.1).length = m at *
      have a0 : 0 ≤ A := hle1.1
      have a1 : A ≤ 1000000 := by omega
      have a2 : A + (m : Int) ≤ 1000000 := by omega
      clear hnx hsb hMw hw1 hM hm2 hm hs hme hmL hnL hpush hle1 hle2 hv hsl hx he hT
      go_wp2_with fail
      go_roundw
      case rel => exact ⟨seen.push e.born, by rw [HPU.out], HI2.out, HM2.out, HB2.out⟩
      case measure =>
        have e1 : w2.iterSeen h10 = seen.push e.born := by unfold World.iterSeen; rw [HI2.out]
        have e2 : wr.iterSeen h10 = seen := by unfold World.iterSeen; rw [HIT.out]
        rw [e1, e2]
        exact left_shrinks (ents E 0).toArray seen e HE.out

end Go.Proofs.YtbefkkefglkleaaDoor
