/- Maps whose keys are a fabric's places: look-up, entry, store. -/
import Derived.Test.YtbefkkefglkleaaDoorBase
import Derived.Test.YtbefkkefglkleaaDoorMods
import Derived.DeepKeys
import Derived.WideKeyRuns
import Derived.WideKeyEntry
namespace Go.Proofs.YtbefkkefglkleaaDoor
open Go.RowKit Go.Extern.Stop Go.Stop Go.Extern

theorem nPlcU : Tryd.prog.underlying 70 = some (.struct (Tryd.prog.fieldsOf 70)) := by kernel_rfl
abbrev Plc := Int × Int
def keyV (k : Plc) : Value := .agg #[.int .i64 k.1, .int .i64 k.2]
/-- The entries of a map, each with the number it was born with. -/
def ents : List (Plc × Value) → Nat → List MapEntry
  | [], _ => []
  | x :: E, n => { key := keyV x.1, val := x.2, born := n } :: ents E (n + 1)
def getV (z : Value) : List (Plc × Value) → Plc → Value
  | [], _ => z
  | x :: E, k => if k = x.1 then x.2 else getV z E k
def putV : List (Plc × Value) → Plc → Value → List (Plc × Value)
  | [], k, v => [(k, v)]
  | x :: E, k, v => if k = x.1 then (x.1, v) :: E else x :: putV E k v
def findV : List (Plc × Value) → Plc → Nat → Option (Nat × Value)
  | [], _, _ => none
  | x :: E, k, i => if k = x.1 then some (i, x.2) else findV E k (i + 1)
theorem run_eqPlc (a b : Plc) (w : World) : (Op.equal 70 (keyV a) (keyV b)).run Tryd.prog w = .ok (decide (a = b)) w := by
  obtain ⟨a1, a2⟩ := a
  obtain ⟨b1, b2⟩ := b
  have ui := Tryd.underlying3
  have zi := Tryd.sizeOf3
  have hS : Tryd.prog.underlying 70 = some (.struct (Tryd.prog.fieldsOf 70)) := by kernel_rfl
  have hp : Tryd.prog.stoodInHeld 70 = false := by kernel_rfl
  have h : (Op.equalIn 10000 70 (.agg #[.int .i64 a1, .int .i64 a2]) (.agg #[.int .i64 b1, .int .i64 b2])).run Tryd.prog w = .ok (decide ((a1, a2) = (b1, b2))) w := by
    rw [show (10000 : Nat) = 9999 + 1 from rfl, run_equalIn_agg w 9999 70 _ _ hS hp]
    simp only [Program.fieldsOf, Tryd.underlying70]
    go_simp
    clear ui zi hp hS
    by_cases h1 : a1 = b1 <;> by_cases h2 : a2 = b2 <;> simp [h1, h2]
  exact h
theorem run_checkPlc (e : Bool) (k : Plc) (w : World) : (Instr.checkKey e 10000 70 (keyV k)).run Tryd.prog w = .ok () w := by
  obtain ⟨a1, a2⟩ := k
  have ui := Tryd.underlying3
  have zi := Tryd.sizeOf3
  simp only [keyV]
  rw [show (10000 : Nat) = 9999 + 1 from rfl, Instr.checkKey]
  simp only [Sem.run_bind, run_underlying Tryd.underlying70, Result.andThen_ok]
  go_simp
  have hck : ∀ (a : Int) (w : World), (Instr.checkKey e 9999 3 (.int .i64 a)).run Tryd.prog w = .ok () w := fun a w => by
    rw [show (9999 : Nat) = 9998 + 1 from rfl, Instr.checkKey]
    simp [run_underlying ui]
  simp only [hck, Result.andThen_ok]
theorem run_findPlc (k : Plc) (w : World) : ∀ (E : List (Plc × Value)) (n i : Nat), (Instr.findAsking 70 (keyV k) (ents E n) i).run Tryd.prog w = .ok (findV E k i) w
  | [], _, _ => by simp [ents, Instr.findAsking, findV]
  | x :: E, n, i => by
    simp only [ents, Instr.findAsking, Sem.run_bind, run_eqPlc, Result.andThen_ok, findV]
    by_cases h : k = x.1
    · simp [h]
    · simp only [h, decide_false, Bool.false_eq_true, if_false]
      exact run_findPlc k w E (n + 1) (i + 1)
theorem findV_val (z : Value) (k : Plc) : ∀ (E : List (Plc × Value)) (i : Nat), (match findV E k i with | some (_, v) => v | none => z) = getV z E k
  | [], _ => rfl
  | x :: E, i => by
    simp only [findV, getV]
    by_cases h : k = x.1
    · simp [h]
    · simp only [h, if_false]
      exact findV_val z k E (i + 1)
theorem findKey_wide {P : Program} {t : TypeId} {f : Array Field} (h : P.underlying t = some (.struct f)) (x : Value) (es : List MapEntry) (w : World) : (Instr.findKey t x es).run P w = (Instr.findAsking t x es).run P w := run_findKey_eq w (by rw [h]) x es
theorem run_findKeyPlc (x : Value) (es : List MapEntry) (w : World) : (Instr.findKey 70 x es).run Tryd.prog w = (Instr.findAsking 70 x es).run Tryd.prog w := findKey_wide nPlcU x es w
/-- A map in a block. -/
def MapAt (w : World) (r : Nat) (E : List (Plc × Value)) : Prop := w.heap[r]? = some (.map (ents E 0).toArray E.length)
theorem run_lookPlc (t e : TypeId) (z : Value) (k : Plc) (E : List (Plc × Value)) (r : Nat) (w : World) (ht : Tryd.prog.underlying t = some (.map 70 e)) (hz : (zeroValue e).run Tryd.prog w = .ok z w) (h : MapAt w r E) :
    (Instr.lookup t (.map (some r)) (keyV k) false).run Tryd.prog w = .ok (getV z E k) w := by
  have hg : (getObj r).run Tryd.prog w = .ok (.map (ents E 0).toArray E.length) w := by
    have h' : w.heap[r]? = some (.map (ents E 0).toArray E.length) := h
    simp [getObj, Sem.run, h']
  simp only [Instr.lookup, Sem.run_bind, run_underlying ht, Result.andThen_ok, hg, Sem.run_pure, run_checkPlc, run_findKeyPlc, run_findPlc]
  have hv := findV_val z k E 0
  cases hf : findV E k 0 with
  | none =>
    rw [hf] at hv
    simp only at hv
    rw [← hv]
    simp [hz]
  | some x =>
    rw [hf] at hv
    simp only at hv
    rw [← hv]
    simp

theorem ents_length : ∀ (E : List (Plc × Value)) (n : Nat), (ents E n).length = E.length
  | [], _ => rfl
  | _ :: E, n => by simp [ents, ents_length E (n + 1)]
theorem ents_append (k : Plc) (v : Value) : ∀ (E : List (Plc × Value)) (n : Nat), ents (E ++ [(k, v)]) n = ents E n ++ [{ key := keyV k, val := v, born := n + E.length }]
  | [], n => by simp [ents]
  | x :: E, n => by simp [ents, ents_append k v E (n + 1)]; omega
theorem ents_get (E : List (Plc × Value)) : ∀ (n i : Nat), (ents E n)[i]? = E[i]?.map fun x => { key := keyV x.1, val := x.2, born := n + i } := by
  induction E with
  | nil => intro n i; simp [ents]
  | cons x E ih =>
    intro n i
    cases i with
    | zero => simp [ents]
    | succ i =>
      simp only [ents, List.getElem?_cons_succ]
      rw [ih (n + 1) i]
      congr 1
      funext y
      congr 1
      omega
theorem sameBits_key (k : Plc) : Instr.sameBits 10000 (keyV k) (keyV k) = true := by
  obtain ⟨a, b⟩ := k
  simp [keyV, Instr.sameBits]
theorem findV_get (k : Plc) : ∀ (E : List (Plc × Value)) (i j : Nat) (v : Value), findV E k i = some (j, v) → i ≤ j ∧ E[j - i]? = some (k, v)
  | [], _, _, _, h => by simp [findV] at h
  | x :: E, i, j, v, h => by
    simp only [findV] at h
    by_cases hk : k = x.1
    · simp only [hk, if_true, Option.some.injEq, Prod.mk.injEq] at h
      obtain ⟨rfl, rfl⟩ := h
      simp [hk]
    · simp only [hk, if_false] at h
      obtain ⟨h1, h2⟩ := findV_get k E (i + 1) j v h
      refine ⟨by omega, ?_⟩
      rw [show j - i = (j - (i + 1)) + 1 by omega, List.getElem?_cons_succ]
      exact h2
theorem findV_none (k : Plc) : ∀ (E : List (Plc × Value)) (i : Nat), findV E k i = none → ∀ v, putV E k v = E ++ [(k, v)]
  | [], _, _, _ => rfl
  | x :: E, i, h, v => by
    simp only [findV] at h
    by_cases hk : k = x.1
    · simp [hk] at h
    · simp only [hk, if_false] at h
      simp only [putV, hk, if_false, List.cons_append, findV_none k E (i + 1) h v]
theorem findV_put (k : Plc) : ∀ (E : List (Plc × Value)) (i j : Nat) (v u : Value), findV E k i = some (j, v) → putV E k u = E.set (j - i) (k, u)
  | [], _, _, _, _, h => by simp [findV] at h
  | x :: E, i, j, v, u, h => by
    simp only [findV] at h
    by_cases hk : k = x.1
    · simp only [hk, if_true, Option.some.injEq, Prod.mk.injEq] at h
      obtain ⟨rfl, rfl⟩ := h
      simp [putV, hk]
    · simp only [hk, if_false] at h
      have h1 := (findV_get k E (i + 1) j v h).1
      simp only [putV, hk, if_false, findV_put k E (i + 1) j v u h]
      rw [show j - i = (j - (i + 1)) + 1 by omega, List.set_cons_succ]

theorem set_self' {α : Type} (l : List α) (i : Nat) (a : α) (h : l[i]? = some a) : l.set i a = l := by
  apply List.ext_getElem?
  intro j
  rw [List.getElem?_set]
  by_cases hij : i = j
  · subst hij
    rw [if_pos rfl, h]
    have := (List.getElem?_eq_some_iff.1 h).1
    simp [this]
  · simp [hij]
theorem ents_set (k : Plc) (v : Value) : ∀ (E : List (Plc × Value)) (n i : Nat), i < E.length → (ents E n).set i { key := keyV k, val := v, born := n + i } = ents (E.set i (k, v)) n
  | [], _, _, h => by simp at h
  | x :: E, n, 0, _ => by simp [ents]
  | x :: E, n, i + 1, h => by
    simp only [ents, List.set_cons_succ, List.cons.injEq, true_and]
    rw [← ents_set k v E (n + 1) i (by simpa using h), show n + (i + 1) = n + 1 + i by omega]
theorem ents_modify (f : MapEntry → MapEntry) (E : List (Plc × Value)) (i : Nat) (x : Plc × Value) (h : E[i]? = some x) : (ents E 0).toArray.modify i f = ((ents E 0).set i (f { key := keyV x.1, val := x.2, born := i })).toArray := by
  have hg := ents_get E 0 i
  rw [h] at hg
  simp only [Option.map_some, Nat.zero_add] at hg
  rw [← Array.toList_inj, Array.toList_modify]
  simp only
  apply List.ext_getElem?
  intro j
  rw [List.getElem?_modify, List.getElem?_set]
  by_cases hij : i = j
  · subst hij
    have := (List.getElem?_eq_some_iff.1 hg).1
    simp only [if_true, hg]
    rw [if_pos this]
    rfl
  · simp [hij]
theorem run_setMap (r : Nat) (E : List (Plc × Value)) (o : Obj) (w : World) (h : MapAt w r E) : (setObj r o).run Tryd.prog w = .ok () { w with heap := w.heap.setIfInBounds r o } := by
  have h' : w.heap[r]? = some (.map (ents E 0).toArray E.length) := h
  simp [setObj, Sem.run, h']
theorem run_getMap (r : Nat) (E : List (Plc × Value)) (w : World) (h : MapAt w r E) : (getObj r).run Tryd.prog w = .ok (.map (ents E 0).toArray E.length) w := by
  have h' : w.heap[r]? = some (.map (ents E 0).toArray E.length) := h
  simp [getObj, Sem.run, h']
theorem set_map {w : World} {r : Nat} {E E' : List (Plc × Value)} (h : MapAt w r E) : MapAt { w with heap := w.heap.setIfInBounds r (.map (ents E' 0).toArray E'.length) } r E' ∧ Mods (fun q => q = r) w { w with heap := w.heap.setIfInBounds r (.map (ents E' 0).toArray E'.length) } := by
  have hlt := (Array.getElem?_eq_some_iff.1 h).1
  refine ⟨?_, ⟨rfl, rfl, rfl, by simp, fun k hk hn => ?_⟩⟩
  · show (w.heap.setIfInBounds r _)[r]? = _
    rw [Array.getElem?_setIfInBounds_self_of_lt hlt]
  · show (w.heap.setIfInBounds r _)[k]? = _
    rw [Array.getElem?_setIfInBounds_ne (fun e => hn e.symm)]
/-- A store at a key. -/
theorem run_updPlc (t e : TypeId) (k : Plc) (v : Value) (E : List (Plc × Value)) (r : Nat) (w : World) (ht : Tryd.prog.underlying t = some (.map 70 e)) (h : MapAt w r E) :
    ∃ w', (Instr.mapUpdate t (.map (some r)) (keyV k) v).run Tryd.prog w = .ok () w' ∧ MapAt w' r (putV E k v) ∧ Mods (fun q => q = r) w w' := by
  simp only [Instr.mapUpdate, Sem.run_bind, run_underlying ht, Result.andThen_ok, run_getMap r E w h, run_checkPlc, run_findKeyPlc, run_findPlc]
  cases hf : findV E k 0 with
  | none =>
    have hp := findV_none k E 0 hf v
    have he := ents_append k v E 0
    rw [Nat.zero_add] at he
    refine ⟨_, ?_, (set_map (E' := putV E k v) h).1, (set_map (E' := putV E k v) h).2⟩
    simp only
    rw [run_setMap r E _ w h, hp, he]
    simp
  | some x =>
    obtain ⟨j, u⟩ := x
    obtain ⟨_, hj⟩ := findV_get k E 0 j u hf
    rw [Nat.sub_zero] at hj
    have hlt := (List.getElem?_eq_some_iff.1 hj).1
    have hp := findV_put k E 0 j u v hf
    rw [Nat.sub_zero] at hp
    have hge := ents_get E 0 j
    rw [hj] at hge
    refine ⟨_, ?_, (set_map (E' := putV E k v) h).1, (set_map (E' := putV E k v) h).2⟩
    simp only [List.getElem?_toArray, hge, Option.map_some, Option.getD_some, Instr.keyThatStays, sameBits_key, if_true, Sem.run_bind, Sem.run_pure, Result.andThen_ok]
    rw [run_setMap r E _ w h, hp, ents_modify _ E j _ hj, ← ents_set k v E 0 j hlt, List.length_set]
    simp

theorem goInt_nat (n : Nat) : goInt n = .int .i64 n := rfl
/-- The number that a key's entry was born with, or will be. -/
def bornV : List (Plc × Value) → Plc → Nat → Nat
  | [], _, n => n
  | x :: E, k, n => if k = x.1 then n else bornV E k (n + 1)
theorem bornV_find (k : Plc) : ∀ (E : List (Plc × Value)) (n : Nat), bornV E k n = match findV E k n with | some (j, _) => j | none => n + E.length
  | [], n => by simp [bornV, findV]
  | x :: E, n => by
    simp only [bornV, findV]
    by_cases h : k = x.1
    · simp [h]
    · simp only [h, if_false]
      rw [bornV_find k E (n + 1)]
      cases findV E k (n + 1) with
      | none => simp; omega
      | some y => simp
/-- An entry is laid, or found. -/
theorem run_entPlc (t e : TypeId) (z : Value) (k : Plc) (E : List (Plc × Value)) (r : Nat) (w : World) (ht : Tryd.prog.underlying t = some (.map 70 e)) (hz : ∀ w : World, (zeroValue e).run Tryd.prog w = .ok z w) (h : MapAt w r E) :
    ∃ w', (Instr.mapEntry t (.map (some r)) (keyV k)).run Tryd.prog w = .ok (.tuple #[getV z E k, .int .i64 (bornV E k 0 : Nat)]) w' ∧ MapAt w' r (putV E k (getV z E k)) ∧ Mods (fun q => q = r) w w' := by
  have hv := findV_val z k E 0
  have hb := bornV_find k E 0
  simp only [Instr.mapEntry, Sem.run_bind, run_underlying ht, Result.andThen_ok, run_getMap r E w h, run_checkPlc, run_findKeyPlc, run_findPlc]
  cases hf : findV E k 0 with
  | none =>
    rw [hf] at hv hb
    simp only [Nat.zero_add] at hv hb
    have hp := findV_none k E 0 hf z
    have he := ents_append k z E 0
    rw [Nat.zero_add] at he
    rw [← hv, hb]
    refine ⟨_, ?_, (set_map (E' := putV E k z) h).1, (set_map (E' := putV E k z) h).2⟩
    simp only [Sem.run_bind, hz, Result.andThen_ok]
    rw [run_setMap r E _ w h, hp, he]
    simp [goInt_nat]
  | some x =>
    obtain ⟨j, u⟩ := x
    rw [hf] at hv hb
    simp only at hv hb
    obtain ⟨_, hj⟩ := findV_get k E 0 j u hf
    rw [Nat.sub_zero] at hj
    have hlt := (List.getElem?_eq_some_iff.1 hj).1
    have hp := findV_put k E 0 j u u hf
    rw [Nat.sub_zero] at hp
    have hge := ents_get E 0 j
    rw [hj] at hge
    rw [← hv, hb]
    refine ⟨_, ?_, (set_map (E' := putV E k u) h).1, (set_map (E' := putV E k u) h).2⟩
    simp only [List.getElem?_toArray, hge, Option.map_some, Option.getD_some, Instr.keyThatStays, sameBits_key, if_true, Sem.run_bind, Sem.run_pure, Result.andThen_ok]
    rw [run_setMap r E _ w h, hp, ents_modify _ E j _ hj, ← ents_set k u E 0 j hlt, List.length_set]
    simp [goInt_nat]
theorem findIdx_ents (k : Plc) : ∀ (E : List (Plc × Value)) (n j : Nat), j < E.length → (ents E n).findIdx? (fun e => ((e.born : Nat) : Int) == ((n + j : Nat) : Int)) = some j
  | [], _, _, h => by simp at h
  | x :: E, n, 0, _ => by simp [ents, List.findIdx?_cons]
  | x :: E, n, j + 1, h => by
    have ih := findIdx_ents k E (n + 1) j (by simpa using h)
    have hne : (((n : Nat) : Int) == ((n + (j + 1) : Nat) : Int)) = false := by simp; omega
    simp only [ents, List.findIdx?_cons, hne, Bool.false_eq_true, if_false]
    rw [show n + (j + 1) = n + 1 + j by omega, ih]
    rfl
/-- A value is laid at an entry that is there. -/
theorem run_storePlc (t : TypeId) (k : Plc) (u v : Value) (E : List (Plc × Value)) (j r : Nat) (w : World) (hj : E[j]? = some (k, u)) (h : MapAt w r E) :
    ∃ w', (Instr.entryStore t (.map (some r)) (.int .i64 (j : Nat)) v).run Tryd.prog w = .ok () w' ∧ MapAt w' r (E.set j (k, v)) ∧ Mods (fun q => q = r) w w' := by
  have hlt := (List.getElem?_eq_some_iff.1 hj).1
  have hi := findIdx_ents k E 0 j hlt
  rw [Nat.zero_add] at hi
  refine ⟨_, ?_, (set_map (E' := E.set j (k, v)) h).1, (set_map (E' := E.set j (k, v)) h).2⟩
  simp only [Instr.entryStore, Sem.run_bind, Result.andThen_ok, run_getMap r E w h]
  rw [show (asInt (.int .i64 (j : Nat))).run Tryd.prog w = .ok (j : Int) w from rfl]
  simp only [Result.andThen_ok, List.findIdx?_toArray, hi]
  rw [run_setMap r E _ w h, ents_modify _ E j _ hj, List.length_set]
  simp only
  have hs := ents_set k v E 0 j hlt
  rw [Nat.zero_add] at hs
  rw [hs]
/-- The two in a row, whatever stands at the key. -/
theorem putV_get (z : Value) (k : Plc) : ∀ (E : List (Plc × Value)) (n : Nat), (putV E k (getV z E k))[bornV E k n - n]? = some (k, getV z E k) ∧ n ≤ bornV E k n ∧ ∀ v, (putV E k (getV z E k)).set (bornV E k n - n) (k, v) = putV E k v
  | [], n => by simp [putV, getV, bornV]
  | x :: E, n => by
    simp only [putV, getV, bornV]
    by_cases h : k = x.1
    · simp [h]
    · simp only [h, if_false]
      obtain ⟨h1, h2, h3⟩ := putV_get z k E (n + 1)
      refine ⟨?_, by omega, fun v => ?_⟩
      · rw [show bornV E k (n + 1) - n = (bornV E k (n + 1) - (n + 1)) + 1 by omega, List.getElem?_cons_succ]
        exact h1
      · rw [show bornV E k (n + 1) - n = (bornV E k (n + 1) - (n + 1)) + 1 by omega, List.set_cons_succ, h3 v]
theorem run_stoPlc (t : TypeId) (z : Value) (k : Plc) (v : Value) (E : List (Plc × Value)) (r : Nat) (w : World) (h : MapAt w r (putV E k (getV z E k))) :
    ∃ w', (Instr.entryStore t (.map (some r)) (.int .i64 (bornV E k 0 : Nat)) v).run Tryd.prog w = .ok () w' ∧ MapAt w' r (putV E k v) ∧ Mods (fun q => q = r) w w' := by
  obtain ⟨h1, _, h3⟩ := putV_get z k E 0
  rw [Nat.sub_zero] at h1
  have h3 := h3 v
  rw [Nat.sub_zero] at h3
  rw [← h3]
  exact run_storePlc t k _ v _ _ r w h1 h

end Go.Proofs.YtbefkkefglkleaaDoor
