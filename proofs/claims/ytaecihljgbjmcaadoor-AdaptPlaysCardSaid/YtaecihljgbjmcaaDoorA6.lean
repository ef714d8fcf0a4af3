/- adapt: Note, Pick and Counts at any arguments; the closed sentence AdaptRuns returns true. -/
import Derived.Test.YtaecihljgbjmcaaDoorA4
import Derived.Test.YtaecihljgbjmcaaDoorA5
import Derived.Test.YtaecihljgbjmcaaDoorBase
namespace Go.Proofs.YtaecihljgbjmcaaDoor
open Go.RowKit

/-- The counters are within their bounds. -/
def OkC (C : Nat → Int) : Prop := ∀ i, i < 8 → ∀ j, j < 3 → 0 ≤ C (2 + i * 5 + j) ∧ C (2 + i * 5 + j) ≤ 15

theorem cntF_b (up : Bool) {n : Int} (h0 : 0 ≤ n) (h1 : n ≤ 15) : 0 ≤ cntF up n ∧ cntF up n ≤ 15 := by
  cases up <;> simp only [cntF, if_true, Bool.false_eq_true, if_false] <;> omega

theorem OkC.upd {C : Nat → Int} (h : OkC C) {k : Nat} {v : Int} (hv : 0 ≤ v ∧ v ≤ 15) : OkC (updC C k v) := fun i hi j hj => by
  unfold updC
  split
  · exact hv
  · exact h i hi j hj
theorem OkC.upd4 {C : Nat → Int} (h : OkC C) {i m : Nat} {v : Int} (hm : 3 ≤ m) (hm5 : m < 5) : OkC (updC C (2 + i * 5 + m) v) := fun i' hi j hj => by
  unfold updC
  rw [if_neg (by omega)]
  exact h i' hi j hj

theorem OkC.read {C : Nat → Int} (h : OkC C) {i : Nat} (hi : i < 8) (core holders : Int) : OkC (readC C i core holders) := by
  simp only [readC]
  split
  · exact h.upd4 (by omega) (by omega)
  · exact (h.upd4 (by omega) (by omega)).upd (cntF_b _ (h i hi 2 (by omega)).1 (h i hi 2 (by omega)).2)
theorem OkC.move {C : Nat → Int} (h : OkC C) {i : Nat} (hi : i < 8) (core : Int) : OkC (moveC C i core) := by
  simp only [moveC]
  exact (h.upd (cntF_b _ (h i hi 0 (by omega)).1 (h i hi 0 (by omega)).2)).upd4 (by omega) (by omega)
theorem OkC.update {C : Nat → Int} (h : OkC C) {i : Nat} (hi : i < 8) (core : Int) : OkC (updateC C i core) :=
  (h.upd (cntF_b _ (h i hi 1 (by omega)).1 (h i hi 1 (by omega)).2)).move hi core
theorem OkC.write {C : Nat → Int} (h : OkC C) {i : Nat} (hi : i < 8) (core holders : Int) : OkC (writeC C i core holders) := by
  simp only [writeC]
  split
  · exact (h.upd (cntF_b _ (h i hi 1 (by omega)).1 (h i hi 1 (by omega)).2)).move hi core
  · exact ((h.upd (cntF_b _ (h i hi 1 (by omega)).1 (h i hi 1 (by omega)).2)).upd (cntF_b _ (h i hi 2 (by omega)).1 (h i hi 2 (by omega)).2)).move hi core

theorem OkC.new (high low : Int) : OkC (newC high low) := fun i hi j hj => by
  simp only [newC]
  rw [if_neg (by omega), if_neg (by omega)]
  omega

/-- Is it a request that is noted? -/
def noteOk (line kind core holders : Int) : Bool := decide (0 ≤ line ∧ line ≤ 31 ∧ 0 ≤ core ∧ core < 64 ∧ 0 ≤ holders ∧ (kind = 1 ∨ kind = 2 ∨ kind = 3))
/-- The counters behind a request. -/
def noteC (C : Nat → Int) (line kind core holders : Int) : Nat → Int :=
  if noteOk line kind core holders = true then
    if kind = 1 then readC C (line / 4).toNat core holders else if kind = 2 then writeC C (line / 4).toNat core holders else updateC C (line / 4).toNat core
  else C

theorem area_in {line : Int} (h0 : 0 ≤ line) (h1 : line ≤ 31) : areaF line = (((line / 4).toNat : Nat) : Int) ∧ (line / 4).toNat < 8 := by
  refine ⟨?_, by omega⟩
  have hh : inB line 0 31 = true := by simp [inB]; omega
  rw [areaF, if_pos hh]
  omega
theorem area_out {line : Int} (h : ¬ (0 ≤ line ∧ line ≤ 31)) : areaF line = -1 := by
  have hh : ¬ inB line 0 31 = true := by simp [inB]; omega
  rw [areaF, if_neg hh]

theorem OkC.note {C : Nat → Int} (h : OkC C) (line kind core holders : Int) : OkC (noteC C line kind core holders) := by
  unfold noteC
  split
  · rename_i hn
    have hn := of_decide_eq_true hn
    have ha := area_in hn.1 hn.2.1
    split
    · exact h.read ha.2 _ _
    · split
      · exact h.write ha.2 _ _
      · exact h.update ha.2 _
  · exact h

theorem note_any (b : Nat) (C : Nat → Int) (line kind core holders : Int) (w : World) (h : AdaptAt w b C) (hb : OkC C) :
    Calls Tryd.prog 16 #[.pointer (some ⟨b, 0, none⟩), .int .i64 line, .int .i64 kind, .int .i64 core, .int .i64 holders] w (AdaptPost b (noteC C line kind core holders) w (noteOk line kind core holders)) := by
  have same : ∀ {r : Bool}, Calls Tryd.prog 16 #[.pointer (some ⟨b, 0, none⟩), .int .i64 line, .int .i64 kind, .int .i64 core, .int .i64 holders] w (fun e w' => e = .returned (.bool r) ∧ w = w') →
      Calls Tryd.prog 16 #[.pointer (some ⟨b, 0, none⟩), .int .i64 line, .int .i64 kind, .int .i64 core, .int .i64 holders] w (AdaptPost b C w r) := fun hh => hh.mono fun e w' ⟨he, hw⟩ => by
    subst hw
    exact ⟨he, h, World.grownBy.refl _ _⟩
  by_cases hl : 0 ≤ line ∧ line ≤ 31
  · obtain ⟨ha, ha8⟩ := area_in hl.1 hl.2
    by_cases hc : 0 ≤ core ∧ core < 64 ∧ 0 ≤ holders
    · by_cases k1 : kind = 1
      · have hn : noteOk line kind core holders = true := decide_eq_true (by omega)
        subst k1
        rw [noteC, if_pos hn, if_pos rfl, hn]
        exact note_read b C line core holders _ w h ha ha8 hc.1 hc.2.1 hc.2.2 (hb _ ha8)
      · by_cases k2 : kind = 2
        · have hn : noteOk line kind core holders = true := decide_eq_true (by omega)
          subst k2
          rw [noteC, if_pos hn, if_neg (by omega), if_pos rfl, hn]
          by_cases h3 : 3 ≤ holders
          · exact note_write3 b C line core holders _ w h ha ha8 hc.1 hc.2.1 hc.2.2 h3 (hb _ ha8)
          · exact note_write b C line core holders _ w h ha ha8 hc.1 hc.2.1 hc.2.2 (by omega) (hb _ ha8)
        · by_cases k3 : kind = 3
          · have hn : noteOk line kind core holders = true := decide_eq_true (by omega)
            subst k3
            rw [noteC, if_pos hn, if_neg (by omega), if_neg (by omega), hn]
            exact note_update b C line core holders _ w h ha ha8 hc.1 hc.2.1 hc.2.2 (hb _ ha8)
          · have hn : noteOk line kind core holders = false := decide_eq_false (by omega)
            rw [noteC, if_neg (by simp [hn]), hn]
            exact same (note_none b line kind core holders _ w ha ha8 hc.1 hc.2.1 hc.2.2 (by simpa using k1) (by simpa using k2) (by simpa using k3))
    · have hn : noteOk line kind core holders = false := decide_eq_false (by omega)
      rw [noteC, if_neg (by simp [hn]), hn]
      exact same (note_bad b line kind core holders w (by omega))
  · have hn : noteOk line kind core holders = false := decide_eq_false (by omega)
    rw [noteC, if_neg (by simp [hn]), hn]
    exact same (note_bad b line kind core holders w (by rw [area_out hl]; omega))

/-- What Pick answers. -/
def pickR (C : Nat → Int) (line mode : Int) : Int := if 0 ≤ line ∧ line ≤ 31 ∧ 0 ≤ mode ∧ mode ≤ 3 then pickF C (line / 4).toNat mode else -1

theorem pick_any (b : Nat) (C : Nat → Int) (line mode : Int) (w : World) (h : AdaptAt w b C) :
    Calls Tryd.prog 18 #[.pointer (some ⟨b, 0, none⟩), .int .i64 line, .int .i64 mode] w (PickPost (pickR C line mode) w) := by
  by_cases hl : 0 ≤ line ∧ line ≤ 31
  · obtain ⟨ha, ha8⟩ := area_in hl.1 hl.2
    by_cases hm : 0 ≤ mode ∧ mode ≤ 3
    · rw [pickR, if_pos (by omega)]
      exact pick_ok b C line mode _ w h ha ha8 hm.1 hm.2
    · rw [pickR, if_neg (by omega)]
      exact pick_no b line mode w (by omega)
  · rw [pickR, if_neg (by omega)]
    exact pick_no b line mode w (by rw [area_out hl]; omega)

theorem AdaptAt.below {w w' : World} {b B : Nat} {C : Nat → Int} (h : AdaptAt w b C) (hb : Below B w w') (hlt : b < B) : AdaptAt w' b C :=
  ⟨fun k hk => (hb.cell (p := ⟨b, k, none⟩) hlt).trans (h.cell k hk), fun k hk => (hb.frozen (p := ⟨b, k, none⟩) hlt).trans (h.froz k hk)⟩
theorem AdaptAt.lt {w : World} {b : Nat} {C : Nat → Int} (h : AdaptAt w b C) : b < w.heap.size := World.block_lt_of_cell? _ _ (h.cell 0 (by omega))

def runC : Nat → Nat → Int
  | 0 => newC 2 0
  | k + 1 => noteC (noteC (runC k) 0 1 ((k : Int) % 2) 0) 1 2 ((k : Int) % 2) 1

theorem OkC.run : ∀ k, OkC (runC k)
  | 0 => OkC.new _ _
  | k + 1 => ((OkC.run k).note _ _ _ _).note _ _ _ _


set_option maxHeartbeats 1000000 in
theorem adaptRuns (w : World) : Calls Tryd.prog 3 #[] w (TruePost w) := by
  go_enter Tryd.func3, Tryd.ntmps3
  go_wp2_with fail
  refine (new_ok 2 0 _ (by omega) (by omega) (by omega) (by omega)).mono ?_
  rintro e w1 ⟨rfl, hA, hlt, hB⟩
  go_wp2_with fail
  have hrun : ∀ k : Nat, k < 3 → noteOk 0 1 ((k : Int) % 2) 0 = true ∧ noteOk 1 2 ((k : Int) % 2) 1 = true := by decide
  go_loopw [3] (fun i wr => ∃ k : Nat, k ≤ 3 ∧ i = .int .i64 k ∧ AdaptAt wr w.heap.size (runC k) ∧ w.heap.size < wr.heap.size ∧ Below w.heap.size w wr) (fun i _ => 3 - (intOf i).toNat)
  case atStart => exact ⟨0, by omega, rfl, hA, hlt, hB⟩
  case round =>
    obtain ⟨k, hk, rfl, hAk, hltk, hBk⟩ := hrel
    by_cases hlt3 : k < 3
    · obtain ⟨q1, q2⟩ := hrun k hlt3
      go_wp2_with fail
      refine (note_any _ _ _ _ _ _ _ hAk (OkC.run k)).mono ?_
      rintro e w2 ⟨rfl, hA2, hG2⟩
      rw [q1]
      go_wp2_with fail
      refine (note_any _ _ _ _ _ _ _ hA2 ((OkC.run k).note _ _ _ _)).mono ?_
      rintro e w3 ⟨rfl, hA3, hG3⟩
      rw [q2]
      go_wp2_with fail
      go_roundw
      case rel =>
        have h2 := hBk.grown hG2 (by omega) (fun k hk => by injection hk with hk; omega)
        have h3 := h2.grown hG3 (by have := hG2.size; omega) (fun k hk => by injection hk with hk; omega)
        exact ⟨k + 1, by omega, by go_num, hA3, by have := hG2.size; have := hG3.size; omega, h3⟩
      case measure => simp [intOf]; omega
    · obtain rfl : k = 3 := by omega
      go_wp2_with fail
      refine (counts_ok _ _ 0 _ hAk (by omega)).mono ?_
      rintro e w2 ⟨rfl, rfl⟩
      go_wp2_with fail
      have p1 : pickR (runC 3) 0 0 = 3 := by decide
      have p2 : pickR (runC 3) 5 2 = 0 := by decide
      have P1 := Lib.hid p1
      have P2 := Lib.hid p2
      clear p1 p2
      refine (pick_any _ _ _ _ _ (hAk.drewN 1)).mono ?_
      rintro e w4 ⟨rfl, hB4⟩
      rw [P1.out]
      go_wp2_with fail
      have hA4 := (hAk.drewN 1).below hB4 (hAk.drewN 1).lt
      refine (pick_any _ _ _ _ _ hA4).mono ?_
      rintro e w5 ⟨rfl, hB5⟩
      rw [P2.out]
      go_wp2_with fail
      go_ret
      exact ⟨rfl, (hBk.drew.trans (hB4.mono (by simp; omega))).trans (hB5.mono (by have := hB4.size; simp at this; omega))⟩

open Go.ChangeShapes Go.WideShapes Go.ChangeAt in
theorem adaptRuns_row {H : Type} (enc : TypeId × Value → H) (W : World) (base : Nat) (args : Array Value) (ds gs : List (DataW H)) (before : List MemPlace)
    (_hval : ∀ (j : Nat) t v, Tryd.f3.params[j]? = some t → args[j]? = some v → Value.okWide Tryd.prog W .any base t v)
    (hW : DataW.Whole enc Tryd.prog Tryd.f3.params.toList Rows.adaptRunsSpec.vars false W args.toList ds gs before) (_hL : laidMetH Tryd.prog Rows.adaptRunsRow.laid W) 
    (_hsz : (DataW.weightsEach Tryd.prog (Tryd.f3.params.toList ++ (OpenSpec.ofChange Rows.adaptRunsSpec).bare.plain.varTypes Tryd.prog) (ds ++ gs)).all (· ≤ reachBytes) = true) :
    Calls Tryd.prog 3 args W (TruePost W) ∧ Rows.adaptRunsSpec.fn H (ds ++ gs) = { results := [.lit (.bool true)], args := ds } := by
  obtain ⟨p, q, hA0, hV, _, _, _⟩ := hW
  have hA : DataW.TrodAll enc Tryd.prog W 0 (fun _ => true) true Tryd.f3.params.toList args.toList ds p := hA0
  rw [Tryd.params3] at hA
  obtain ⟨rfl, rfl, rfl⟩ := trodAll_none hA
  obtain ⟨rfl, rfl⟩ := trodVars_none hV
  exact ⟨adaptRuns W, rfl⟩

end Go.Proofs.YtaecihljgbjmcaaDoor
