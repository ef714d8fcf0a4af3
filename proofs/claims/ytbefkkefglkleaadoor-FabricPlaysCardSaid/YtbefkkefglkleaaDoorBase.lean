/- What every row of this seat wants: the row's last step where a law returns true and nothing that was there has turned; a world for the witness; what the listed variables give. -/
import Derived.Test.YtbefkkefglkleaaDoorCards
import Derived.Test.YtbefkkefglkleaaDoorTie
import Derived.WalkKit
import Derived.WalkSpells
import Derived.WalkLawsBesides
import Derived.ProofKit
import Derived.OpenShut
import Derived.Deep.DeepHandedRow
import Derived.Deep.DeepWitnessRowRef
import Derived.Lib.LaidTab
import Derived.Lib.Hide
import Derived.LaidHandle
namespace Go.Proofs.YtbefkkefglkleaaDoor
open Go.ChangeShapes Go.WideShapes Go.ChangeAt Go.RowKit

theorem Tryd.own : ownKnob Tryd.prog.godebug = none := by kernel_rfl
theorem Tryd.laidOut : laidOutB Tryd.prog = true := by kernel_rfl

/-- A law that returns true and turns nothing that was there. -/
def TruePost (w : World) (e : Ending) (w' : World) : Prop := e = .returned (.bool true) ∧ Below w.heap.size w w'

section
variable {H : Type} {enc : TypeId × Value → H}

/-- The arguments read behind the call as they did. -/
theorem trodAll_stays {W W' : World} (hb : Below W.heap.size W W') {sp : Nat → Bool} : ∀ (ts : List TypeId) (vs : List Value) (ds : List (DataW H)) (ps : List MemPlace),
    DataW.TrodAll enc Tryd.prog W 0 (fun _ => true) true ts vs ds ps → (∀ t ∈ ts, Tryd.prog.readableRec t = true ∧ t < Tryd.prog.types.size) → (∀ p ∈ ps, p.block < W.heap.size) → (∀ p ∈ ps, sp p.block = true) → DataW.TrodAll enc Tryd.prog W' 0 sp true ts vs ds ps
  | [], vs, ds, ps, h, _, _, _ => by
    cases vs with
    | nil => cases ds with
      | nil => exact h
      | cons d ds => exact h.elim
    | cons v vs => exact h.elim
  | t :: ts, vs, ds, ps, h, ht, hlt, hsp => by
    cases vs with
    | nil => exact h.elim
    | cons v vs =>
      cases ds with
      | nil => exact h.elim
      | cons d ds =>
        obtain ⟨p, q, h1, h2, rfl⟩ := h
        refine ⟨p, q, ?_, trodAll_stays hb ts vs ds q h2 (fun t' h' => ht t' (List.mem_cons_of_mem _ h')) (fun x hx => hlt x (List.mem_append_right _ hx)) (fun x hx => hsp x (List.mem_append_right _ hx)), rfl⟩
        exact WideElems.Trod_stays Tryd.laidOut (ht t (List.mem_cons_self ..)).1 (ht t (List.mem_cons_self ..)).2 h1 (fun x hx => hb.same (hlt x (List.mem_append_left _ hx))) (fun x hx => hsp x (List.mem_append_left _ hx))

set_option maxRecDepth 100000 in
theorem law_post {fn : Func} {s : ChangeSpec} {W W' : World} {args : Array Value} {ds gs : List (DataW H)} {before : List MemPlace}
    (hW : DataW.Whole enc Tryd.prog fn.params.toList s.vars false W args.toList ds gs before) (hvars : s.vars = []) (hpar : ∀ t ∈ fn.params.toList, Tryd.prog.readableRec t = true ∧ t < Tryd.prog.types.size)
    (hres : fn.resultTypes = #[4]) (hfn : s.fn H (ds ++ gs) = { results := [.lit (.bool true)], args := ds }) (hb : Below W.heap.size W W') :
    s.post enc Tryd.prog fn false true false false W args (.bool true) W' := by
  have hlt : ∀ p ∈ before, p.block < W.heap.size := fun p hp => hW.lt p hp
  have hold : ∀ p ∈ before, (fun b => decide (b < W.heap.size)) p.block = true := fun p hp => by simpa using hlt p hp
  have hW0 := hW
  obtain ⟨p, q, hA, hV, hpq, hz, hn⟩ := hW0
  have hq : q = [] := by
    rw [hvars] at hV
    cases gs with
    | nil => exact hV
    | cons g r => exact absurd hV (by intro h; cases h)
  subst hq
  rw [List.append_nil] at hpq
  subst hpq
  have hA0 : DataW.TrodAll enc Tryd.prog W 0 (fun _ => true) true fn.params.toList args.toList ds before := hA
  have hargs : ∀ sp : Nat → Bool, (∀ p ∈ before, sp p.block = true) → DataW.TrodAll enc Tryd.prog W' 0 sp true fn.params.toList args.toList (s.fn H (ds ++ gs)).args before := fun sp hsp => by
    rw [hfn]
    exact trodAll_stays hb _ _ _ _ hA0 hpar hlt hsp
  have hresults : ∀ (b : Nat) (sp : Nat → Bool) (hd : Bool), DataW.TrodAll enc Tryd.prog W' b sp hd fn.resultTypes.toList ((Value.bool true).resultList fn.resultTypes.size) (s.fn H (ds ++ gs)).results [] := fun b sp hd => by
    rw [hfn, hres]
    exact trodAll_mk1 (shut_bool Tryd.underlying4 true)
  have hv : ∀ sp : Nat → Bool, DataW.TrodVars enc Tryd.prog W' sp s.vars (s.fn H (ds ++ gs)).vars [] := fun sp => by
    rw [hfn, hvars]
    exact rfl
  have hok : ∀ (j : Nat) (t : TypeId) (r : Value), fn.resultTypes[j]? = some t → ((Value.bool true).resultList fn.resultTypes.size)[j]? = some r → Value.okWide Tryd.prog W' .any 0 t r := by
    rw [hres]
    intro j t r hj hr
    match j, hj, hr with
    | 0, hj, hr =>
      simp [Value.resultList] at hj hr
      subst hj; subst hr
      exact okWide_bool_mk Tryd.underlying4 true
  refine ⟨ds, gs, before, [], before, [], hW, hresults _ _ _, hargs _ hold, hv _, World.keptBut_mono (fun p hp => ⟨hp, ?_⟩) (hb.frame (· ∈ before)), fun _ => ?_⟩
  · exact Or.inr (by simpa using hp)
  · refine ⟨hok, _, _, ([] ++ before) ++ [], ⟨[] ++ before, [], trodAll_append (hargs _ (fun _ _ => rfl)) (hresults _ _ _), hv _, rfl, ?_, ?_⟩, ?_⟩
    · intro b off hp
      have hin : MemPlace.cell b off ∈ before := by simpa using hp
      rw [hb.frozen (hlt _ hin)]
      exact hz b off (by simpa using hin)
    · intro ha
      have := hn ha
      simpa using this
    · intro p hp _
      simpa using hp
end

/-! ### A world for the witness -/
/-- The texts of the sentinels, by their codes less one. -/
def sentText : Nat → List UInt8
  | 0 => [97, 110, 32, 97, 114, 103, 117, 109, 101, 110, 116, 32, 116, 104, 97, 116, 32, 99, 97, 110, 39, 116, 32, 98, 101]
  | 1 => [116, 111, 111, 32, 108, 111, 110, 103]
  | 2 => [116, 111, 111, 32, 115, 104, 111, 114, 116]
  | 3 => [110, 111, 116, 32, 105, 110, 32, 102, 111, 114, 109]
  | 4 => [115, 111, 109, 101, 116, 104, 105, 110, 103, 32, 108, 101, 102, 116, 32, 111, 118, 101, 114]
  | 5 => [110, 111, 32, 114, 111, 111, 109]
  | 6 => [117, 110, 100, 101, 114, 32, 119, 97, 121]
  | 7 => [116, 104, 101, 114, 101, 32, 105, 115, 32, 110, 111, 110, 101]
  | 8 => [110, 111, 116, 32, 105, 110, 32, 111, 114, 100, 101, 114]
  | _ => [97, 110, 111, 116, 104, 101, 114, 32, 118, 97, 108, 117, 101]

def sentObj (k : Nat) : Obj := .cells #[.string ⟨(sentText k).toArray⟩] 136

noncomputable def low : Nat := (World.holding Tryd.prog default ⟨#[], #[], []⟩).heap.size

noncomputable def sentSet (g k : Nat) (h : Array Obj) : Array Obj := h.modify g fun
  | .cells _ t frozen => .cells #[.iface 116 (.pointer (some ⟨low + k, 0, none⟩))] t frozen
  | o => o

noncomputable def laidWorld (os : Os) : World :=
  let w0 := World.holding Tryd.prog os ⟨#[sentObj 0, sentObj 1, sentObj 2, sentObj 3, sentObj 4, sentObj 5, sentObj 6, sentObj 7, sentObj 8, sentObj 9], #[], []⟩
  { w0 with heap := (sentSet 0 0 <| sentSet 2 1 <| sentSet 3 2 <| sentSet 4 3 <| sentSet 5 4 <| sentSet 1 5 <| sentSet 6 6 <| sentSet 7 7 <| sentSet 8 8 <| sentSet 9 9 w0.heap).modify 10 fun
      | .cells _ t frozen => .cells #[.iface 101 (.agg #[typeHandle Tryd.prog 24])] t frozen
      | o => o }

end Go.Proofs.YtbefkkefglkleaaDoor
