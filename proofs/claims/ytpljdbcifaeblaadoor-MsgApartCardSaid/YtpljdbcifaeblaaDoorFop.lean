/- fault.Ops; assentbook.Same at strings: a row is the same as itself. (Out of Flt2 and Flt5.) -/
import Derived.Test.YtpljdbcifaeblaaDoorFlt1
import Derived.Test.YtpljdbcifaeblaaDoorLex
import Derived.Test.YtpljdbcifaeblaaDoorOpen
import Derived.Test.YtpljdbcifaeblaaDoorWin
import Derived.Laws.OwnMore
import Derived.Handy
import Derived.BigQuiet
import Derived.Lib.Hide
namespace Go.Proofs.YtpljdbcifaeblaaDoor
open Go.RowKit Go.Extern.Stop Go.Stop Go.Extern

theorem way_form {A : Nat → Addr} {e : ErrT} {w : World} {base : Nat} {v : Value} (h : w.ownsRow base 24 1 v e.chain.length (e.chain.map (·.val A))) :
    (e.isNil = true ∧ v = .slice none 0 0) ∨ (e.isNil = true ∧ ∃ g cap, v = .slice (some ⟨g, 0, none⟩) 0 cap) ∨
      (e.isNil = false ∧ ∃ g cap, v = .slice (some ⟨g, 0, none⟩) e.depth cap ∧ ∀ k x, e.chain[k]? = some x → w.cell? ⟨g, k, none⟩ = some (x.val A)) := by
  have hl := e.chain_length
  cases hn : e.isNil with
  | true =>
    have hd : e.depth = 0 := by cases e <;> first | rfl | cases hn
    rcases h.2 with ⟨hv, _⟩ | ⟨g, cap, cur, hv, _⟩
    · exact .inl ⟨rfl, hv⟩
    · exact .inr (.inl ⟨rfl, g, cap, by rw [hv, hl, hd]⟩)
  | false =>
    have hd := ErrT.depth_unw hn
    rcases h.2 with ⟨_, h0⟩ | ⟨g, cap, cur, rfl, _⟩
    · omega
    · refine .inr (.inr ⟨rfl, g, cap, by rw [hl], fun k x hk => ?_⟩)
      have hkl := (List.getElem?_eq_some_iff.1 hk).1
      rw [h.cellAt k (by omega), List.getElem?_map, hk]
      rfl

set_option maxRecDepth 100000 in
set_option maxHeartbeats 2000000 in
theorem sameS_c (l : List ByteArray) (v u : Value) (w : World) (hv : slc w 1 v l.length (l.map .string)) (hu : slc w 1 u l.length (l.map .string)) (hl : l.length ≤ 1000) :
    Calls Tryd.prog 19 #[v, u] w fun ev w' => ev = .returned (.bool true) ∧ Below w.heap.size w w' := by
  obtain ⟨_, a1, c1, rfl, hv⟩ := hv
  obtain ⟨_, a2, c2, rfl, hu⟩ := hu
  have HV := Lib.hid hv
  have HU := Lib.hid hu
  clear hv hu
  go_enter Tryd.func19, Tryd.ntmps19
  go_wp2_with fail
  go_loopw [5] (fun i wr => ∃ k : Nat, k ≤ l.length ∧ i = .int .i64 k ∧ Below w.heap.size w wr) (fun i _ => l.length - (intOf i).toNat)
  case atStart => exact ⟨0, by omega, rfl, Below.refl _ _⟩
  case round =>
    obtain ⟨k, hk, rfl, hB⟩ := hrel
    by_cases hkl : k < l.length
    · obtain ⟨g1, o1, rfl, hg1, hc1⟩ := HV.out (by omega)
      obtain ⟨g2, o2, rfl, hg2, hc2⟩ := HU.out (by omega)
      have e1 := (hB.cell (p := ⟨g1, o1 + k, none⟩) hg1).trans (hc1 k (.string l[k]) (by simp [hkl]))
      have e2 := (hB.cell (p := ⟨g2, o2 + k, none⟩) hg2).trans (hc2 k (.string l[k]) (by simp [hkl]))
      have b1 := World.block_lt_of_cell? _ _ e1
      have b2 := World.block_lt_of_cell? _ _ e2
      simp only at b1 b2
      have HB := Lib.hid hB
      generalize l[k] = x at e1 e2
      clear hc1 hc2 hg1 hg2 hB
      go_wp2_with fail
      refine wp_region_lexA ⟨[], []⟩ (fun x => Below wr.heap.size wr x) (by kernel_rfl) (by kernel_rfl) (Below.refl _ _).drew ?_
      intro S hto hof hne
      have x1 : ∀ z : Wd S, z.w.cell? ⟨g1, o1 + k, none⟩ = some (.string x) := fun z => ((hto z).cell (p := ⟨g1, o1 + k, none⟩) b1).trans e1
      have x2 : ∀ z : Wd S, z.w.cell? ⟨g2, o2 + k, none⟩ = some (.string x) := fun z => ((hto z).cell (p := ⟨g2, o2 + k, none⟩) b2).trans e2
      have Hof := Lib.hid hof
      clear hto hof e1 e2
      refine lexW_light 9 (by kernel_rfl) ?_
      simp only [List.take_succ_cons, List.take_zero, List.drop_succ_cons, List.drop_zero]
      repeat (first | go_big_quiet_skip | (go_big_quiet_want; go_big_quiet_op; go_big_quiet_on))
      refine wpQuiet_nil ?_
      refine lexW_done ?_
      go_wp2_with fail
      go_roundw
      case rel => exact ⟨k + 1, by omega, by go_num, HB.out.drew⟩
      case measure => simp [intOf]; omega
    · have hk' : k = l.length := by omega
      subst hk'
      go_wp2_with fail
      go_ret
      exact ⟨rfl, hB⟩

/-- The words that stand ahead of an error's wrappings. -/
def ErrT.ops : ErrT → List ByteArray
  | .wrap o _ e => o :: e.ops
  | _ => []
/-- The same of a row of errors. -/
def opsL : List ErrT → List ByteArray
  | [] => []
  | .wrap o _ _ :: l => o :: opsL l
  | _ :: l => opsL l
theorem ErrT.ops_chain (e : ErrT) : opsL e.chain = e.ops := by
  induction e with
  | nil => rfl
  | sent k => rfl
  | wrap o i e ih => simp only [ErrT.chain, opsL, ErrT.ops, ih]
theorem opsL_append (l r : List ErrT) : opsL (l ++ r) = opsL l ++ opsL r := by
  induction l with
  | nil => rfl
  | cons x l ih => cases x <;> simp [opsL, ih]
theorem opsL_length (l : List ErrT) : (opsL l).length ≤ l.length := by
  induction l with
  | nil => exact Nat.le_refl _
  | cons x l ih => cases x <;> simp [opsL] <;> omega

theorem nInfoS : (Tryd.prog.info? 9).map (fun i => (i.zero, i.size, i.bytes)) = some (some (.string ⟨#[]⟩), 1, 16) := by kernel_rfl
theorem nAssertW (v : Value) (w : World) : (Instr.typeAssert (.iface 80 v) 24 80 true).run Tryd.prog w = .ok (.tuple #[v, .bool true]) w := by kernel_rfl
theorem nAssertE (v : Value) (w : World) : (Instr.typeAssert (.iface 138 v) 24 80 true).run Tryd.prog w = .ok (.tuple #[.agg #[.string ⟨#[]⟩, .int .i64 0, .nilIface], .bool false]) w := by kernel_rfl

theorem ErrT.chain_wf {e : ErrT} (h : e.wf) : ∀ x ∈ e.chain, x.wf ∧ x.isNil = false := by
  induction e with
  | nil => intro x hx; cases hx
  | sent k =>
    intro x hx
    simp only [ErrT.chain, List.mem_singleton] at hx
    subst hx
    exact ⟨h, rfl⟩
  | wrap o i e ih =>
    intro x hx
    simp only [ErrT.chain, List.mem_cons] at hx
    rcases hx with rfl | hx
    · exact ⟨h, rfl⟩
    · exact ih h.2 x hx
theorem cell_second (w : World) (o : Obj) (v : Value) (ty : TypeId) : ∀ j u, ([v] : List Value)[j]? = some u → ((w.alloc o).alloc (.cells #[v] ty)).cell? ((⟨w.heap.size + 1, 0, none⟩ : Addr).add j) = some u := fun j u h => by
  have e : w.heap.size + 1 = (w.alloc o).heap.size := by simp
  rw [Addr.add_lit, Nat.zero_add, e, World.cell?_alloc_new]
  simpa using h

set_option maxRecDepth 100000 in
set_option maxHeartbeats 4000000 in
theorem ops_c (A : Nat → Addr) (e : ErrT) (w : World) (hw : e.wf) (hd : e.depth ≤ 1000) :
    Calls Tryd.prog 20 #[e.val A] w fun ev w' => ∃ v, ev = .returned v ∧ slc w' 1 v e.ops.length (e.ops.map .string) ∧ Below w.heap.size w w' := by
  obtain ⟨i0, hi0, hi1⟩ := Option.map_eq_some_iff.1 nInfoS
  simp only [Prod.mk.injEq] at hi1
  obtain ⟨hz0, hz1, hz2⟩ := hi1
  have HI := Lib.hid hi0
  have HZ0 := Lib.hid hz0
  have HZ1 := Lib.hid hz1
  have HZ2 := Lib.hid hz2
  have aW := nAssertW
  have aE := nAssertE
  have hcl := e.chain_length
  have HW := Lib.hid hw
  have HOC := Lib.hid e.ops_chain
  clear hi0 hz0 hz1 hz2 hw
  go_enter Tryd.func20, Tryd.ntmps20
  go_wp2_with fail
  refine (way_c A e w HW.out hd).mono ?_
  rintro ev w1 ⟨v1, rfl, hown, hB1⟩
  obtain ⟨_, a1, cap1, rfl, hc⟩ := (winRow.of_owns hown).slc
  have HC := Lib.hid hc
  have HB1 := Lib.hid hB1
  clear hown hc hB1
  go_wp2_with fail
  go_loopw [3, 11] (fun s3 s11 wr => ∃ k : Nat, k ≤ e.chain.length ∧ s11 = .int .i64 k ∧ wr.ownsRow w1.heap.size 9 1 s3 (opsL (e.chain.take k)).length ((opsL (e.chain.take k)).map .string) ∧ Below w1.heap.size w1 wr) (fun _ s11 _ => e.chain.length - (intOf s11).toNat)
  case atStart => exact ⟨0, by omega, rfl, World.ownsRow_nil .., Below.refl _ _⟩
  case round =>
    obtain ⟨k, hk, rfl, hown, hB⟩ := hrel
    by_cases hkl : k < e.chain.length
    · obtain ⟨g1, o1, rfl, hg1, hc1⟩ := HC.out (by omega)
      have hck : e.chain[k]? = some e.chain[k] := List.getElem?_eq_getElem hkl
      obtain ⟨hxw, hxn⟩ := ErrT.chain_wf HW.out _ (List.getElem_mem hkl)
      have htk : opsL (e.chain.take (k + 1)) = opsL (e.chain.take k) ++ opsL [e.chain[k]] := by
        rw [List.take_add_one, hck, opsL_append]
        rfl
      have e1 := (hB.cell (p := ⟨g1, o1 + k, none⟩) hg1).trans (hc1 k (e.chain[k].val A) (by simp [hkl]))
      have hol := opsL_length (e.chain.take k)
      have hol2 : (opsL (e.chain.take k)).length ≤ 1000 := by
        rw [List.length_take] at hol
        omega
      have HTK := Lib.hid htk
      have HOWN := Lib.hid hown
      clear hc1 hck htk hown hol
      generalize e.chain[k] = x at *
      cases x with
      | nil => cases hxn
      | sent j =>
        simp only [ErrT.val] at e1
        go_wp2_with fail
        go_roundw
        case measure => simp [intOf]; omega
        case rel =>
          refine ⟨k + 1, by omega, by go_num, ?_, hB.alloc hB.size _⟩
          rw [HTK.out]
          simp only [opsL, List.append_nil]
          exact HOWN.out.alloc _
      | wrap op i e2 =>
        obtain ⟨t2, u2, hev⟩ := e2.val_iface A hxw.1
        simp only [ErrT.val] at e1
        rw [hev] at e1
        clear hev hxw hxn
        generalize hL : opsL (e.chain.take k) = l at *
        clear hL
        go_wp2_with (at_builtin; refine wpList_append_lies _ rfl _ _ 36 rfl w1.heap.size 9 i0 (.string ⟨#[]⟩) 1 16 Tryd.underlying36 HI.out HZ0.out HZ1.out HZ2.out rfl (by decide) _ _ _ rfl ((HOWN.out.alloc _).alloc _) ⟨wr.heap.size + 1, 0, none⟩ 1 1 [.string op] rfl rfl (cell_second _ _ _ _) (fun x hx => by simp at hx; subst hx; rfl) (by omega) (by unfold maxLen; omega) (by omega) (by have := hB.size; simp; omega) _ rfl ?_; intro g cap w3 hown3 hgrow3 hat3 hlt3)
        have hB3 : Below w1.heap.size w1 w3 := (((hB.alloc hB.size _).alloc (by have := hB.size; simp; omega) _).grown hgrow3 (by have := hB.size; simp; omega) (fun q hq => (HOWN.out.lt q hq).1))
        go_roundw
        case measure => simp [intOf]; omega
        case rel =>
          refine ⟨k + 1, by omega, by go_num, ?_, hB3⟩
          rw [HTK.out, List.length_append, List.map_append]
          exact hown3
    · have hk' : k = e.chain.length := by omega
      subst hk'
      rw [List.take_length, HOC.out] at hown
      have hsl := (winRow.of_owns hown).slc
      obtain ⟨_, a3, cap3, rfl, _⟩ := (winRow.of_owns hown).slc
      go_wp2_with fail
      go_ret
      exact ⟨_, rfl, hsl, HB1.out.trans (hB.mono HB1.out.size)⟩

end Go.Proofs.YtpljdbcifaeblaaDoor
