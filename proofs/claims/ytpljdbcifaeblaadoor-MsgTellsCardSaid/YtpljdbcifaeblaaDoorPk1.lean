/- slices.Clone at bytes; pack.Num: the bytes of a number. -/
import Derived.Test.YtpljdbcifaeblaaDoorWin
import Derived.Test.YtpljdbcifaeblaaDoorPk0
import Derived.Test.YtpljdbcifaeblaaDoorErr7
import Derived.Test.YtpljdbcifaeblaaDoorLex2
import Derived.Test.YtpljdbcifaeblaaDoorMem
import Derived.BigQuiet
import Derived.Lib.Hide
import Derived.Lib.SliceRun
namespace Go.Proofs.YtpljdbcifaeblaaDoor
open Go.RowKit Go.Extern.Stop Go.Stop Go.Extern

def byteV (l : List Nat) : List Value := l.map fun (k : Nat) => Value.int .u8 (k : Int)
theorem byteV_length (l : List Nat) : (byteV l).length = l.length := by simp [byteV]
theorem byteV_append (l r : List Nat) : byteV (l ++ r) = byteV l ++ byteV r := by simp [byteV]
theorem byteV_one (l : List Nat) : ∀ u ∈ byteV l, u.oneCell' = true := by
  intro u hu
  simp only [byteV, List.mem_map] at hu
  obtain ⟨k, _, rfl⟩ := hu
  rfl
theorem nInfoB : (Tryd.prog.info? 5).map (fun i => (i.zero, i.size, i.bytes)) = some (some (.int .u8 0), 1, 1) := by kernel_rfl

/-- Its bytes. -/
def enc (u : Nat) : List Nat := if h : u < 128 then [u] else (u % 128 + 128) :: enc (u / 128)
termination_by u
decreasing_by omega
theorem enc_small {u : Nat} (h : u < 128) : enc u = [u] := by rw [enc]; simp [h]
theorem enc_more {u : Nat} (h : ¬ u < 128) : enc u = (u % 128 + 128) :: enc (u / 128) := by rw [enc]; simp [h]

set_option maxRecDepth 100000 in
set_option maxHeartbeats 2000000 in
theorem cloneB_c (v : Value) (L : List Nat) (w : World) (hv : slc w 1 v L.length (byteV L)) (hbig : L.length ≤ 140737488355320) :
    Calls Tryd.prog 57 #[v] w fun ev w' => ∃ u, ev = .returned u ∧ winRow w' w.heap.size 5 1 u L.length (byteV L) ∧ Below w.heap.size w w' := by
  obtain ⟨i0, hi0, hi1⟩ := Option.map_eq_some_iff.1 nInfoB
  simp only [Prod.mk.injEq] at hi1
  obtain ⟨hz0, hz1, hz2⟩ := hi1
  have HI := Lib.hid hi0
  have HZ0 := Lib.hid hz0
  have HZ1 := Lib.hid hz1
  have HZ2 := Lib.hid hz2
  clear hi0 hz0 hz1 hz2
  obtain ⟨hfl, ad, cap, rfl, hc⟩ := hv
  have HC := Lib.hid hc
  clear hfl hc
  have q : ∀ (w : World) (a : Option Addr) (n c n' c' : Nat), (binOp .eql 22 (.slice a n c) (.slice none n' c')).run Tryd.prog w = .ok (.bool a.isNone) w := fun w a n c n' c' => Lib.run_eql_slice_nil w _ _ a n c n' c' Tryd.underlying22
  cases ad with
  | none =>
    have h0 : L.length = 0 := by
      rcases Nat.eq_zero_or_pos L.length with h | h
      · exact h
      · obtain ⟨g, off, h, _⟩ := HC.out h
        cases h
    go_enter Tryd.func57, Tryd.ntmps57
    go_wp2_with fail
    go_ret
    obtain rfl : L = [] := List.eq_nil_of_length_eq_zero h0
    exact ⟨_, rfl, winRow_nil .., Below.refl _ _⟩
  | some ad =>
    have hnews : ∀ (o : Obj) j u, (byteV L)[j]? = some u → (w.alloc o).cell? (ad.add j) = some u := fun o j u hj => by
      have hpos : 0 < L.length := by
        have := (List.getElem?_eq_some_iff.1 hj).1
        rw [byteV_length] at this
        omega
      obtain ⟨g, off, h, hg, hcc⟩ := HC.out hpos
      obtain rfl := Option.some.inj h
      rw [Addr.add_lit, World.cell?_alloc_lt _ _ _ hg]
      exact hcc j u hj
    have HN := Lib.hid hnews
    clear hnews
    go_enter Tryd.func57, Tryd.ntmps57
    go_wp2_with (at_builtin; refine wpList_append_own _ rfl _ _ 22 rfl w.heap.size 5 i0 (.int .u8 0) 1 1 Tryd.underlying22 HI.out HZ0.out HZ1.out HZ2.out rfl (by decide) _ _ _ rfl (World.ownsRow_made w #[] 0 (Nat.le_refl _) (Nat.zero_le _) rfl) ad L.length cap (byteV L) rfl (by rw [byteV_length, Nat.mul_one]) (HN.out _) (byteV_one L) (by unfold maxLen; omega) (by omega) (by simp) ?_; intro v' w1 hown hgrow hnil)
    go_ret
    refine ⟨v', rfl, .of_owns (by simpa using hown), ?_⟩
    exact ((Below.refl _ w).alloc (Nat.le_refl _) _).grown hgrow (by simp) (by intro k hk; have hk : some w.heap.size = some k := hk; exact Nat.le_of_eq (Option.some.inj hk))

end Go.Proofs.YtpljdbcifaeblaaDoor
