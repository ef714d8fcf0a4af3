/- What a start gives: the sentinels and the handle, out of the row's own condition. -/
import Derived.Test.YtbefkkefglkleaaDoorErr4
import Derived.LaidLaws
import Derived.LaidHandle
import Derived.Stop.Joined
import Derived.JoinedOf
import Derived.Test.YtbefkkefglkleaaDoorRows
namespace Go.Proofs.YtbefkkefglkleaaDoor
open Go.ChangeShapes Go.WideShapes Go.RowKit

def laidAll : List (String × DataW Unit) :=
  [("errors.errorType", Rows.laid_errors_errorType), ("assent/api.ErrArg", Rows.laid_assent_api_ErrArg), ("assent/api.ErrLong", Rows.laid_assent_api_ErrLong), ("assent/api.ErrShort", Rows.laid_assent_api_ErrShort), ("assent/api.ErrForm", Rows.laid_assent_api_ErrForm), ("assent/api.ErrTail", Rows.laid_assent_api_ErrTail), ("assent/api.ErrFull", Rows.laid_assent_api_ErrFull), ("assent/api.ErrBusy", Rows.laid_assent_api_ErrBusy), ("assent/api.ErrNone", Rows.laid_assent_api_ErrNone), ("assent/api.ErrOrder", Rows.laid_assent_api_ErrOrder), ("assent/api.ErrValue", Rows.laid_assent_api_ErrValue)]

theorem nEt : Tryd.prog.globalNamed "errors.errorType" = some 10 := by kernel_rfl
theorem nRt : (Tryd.prog.cutTypes.find? (·.1 == "internal/reflectlite.rtype")).map (·.2) = some 101 := by kernel_rfl
theorem nOneRow : ((List.range (248 - 100)).filter fun t => Tryd.prog.rowNamed t [101, 114, 114, 111, 114]) = [24] := by kernel_rfl
theorem nTypes : Tryd.prog.types.size = 248 - 100 := by kernel_rfl
theorem nNameE : Tryd.prog.typeName? 3 116 = some "*errors.errorString" := by kernel_rfl
theorem nCellsE : Tryd.prog.cellsOf 136 = 1 := by kernel_rfl
theorem nCellsS : Tryd.prog.cellsOf 9 = 1 := by kernel_rfl
theorem nStar : "*" ++ "errors.errorString" = "*errors.errorString" := by decide
theorem nRowE (u : TypeId) (h : Tryd.prog.typeName? 3 u = some "*errors.errorString") : u = 116 :=
  typeName_ptr_named (nm := "errors.errorString") (by rw [nStar]; kernel_rfl) (by kernel_rfl) (by decide) u (by rw [nStar]; exact h)

theorem handle_of_laid {W : World} (h : handlesMet Tryd.prog [("errors.errorType", Rows.laid_errors_errorType)] W) : W.cell? ⟨10, 0, none⟩ = some (.iface 101 (.agg #[.pointer (some ⟨11, 24, none⟩)])) := by
  obtain ⟨name, u, ty, e1, e2, e3, e4, e5⟩ := h _ (List.mem_singleton.2 rfl)
  have en : name = [101, 114, 114, 111, 114] := (Option.some.inj e1).symm
  subst en
  obtain rfl := Option.some.inj (nRt.symm.trans e2)
  have hm : ty ∈ (List.range (248 - 100)).filter fun t => Tryd.prog.rowNamed t [101, 114, 114, 111, 114] := List.mem_filter.2 ⟨List.mem_range.2 (by rw [← nTypes]; exact e3), e4⟩
  rw [nOneRow] at hm
  obtain rfl := List.mem_singleton.1 hm
  have hh : typeHandle Tryd.prog 24 = .pointer (some ⟨11, 24, none⟩) := by kernel_rfl
  rw [hh] at e5
  simpa using World.var?_cell nEt e5 0

/-- A sentinel's datum; a sentinel in the start's world. -/
def sentD (text : List UInt8) : DataW Unit := .iface "*errors.errorString" (.ptr (.agg [.lit (.string text)]))
structure Lies (W : World) (g : Nat) (text : List UInt8) (a : Addr) : Prop where
  glob : W.cell? ⟨g, 0, none⟩ = some (.iface 116 (.pointer (some a)))
  row : ∃ cs t, W.heap[a.block]? = some (.cells cs t (0, 0))
  text : ∃ s, W.cell? a = some (.string s) ∧ s.data.toList = text ∧ s.size ≤ maxLen

set_option maxRecDepth 100000 in
theorem laid_sents {W : World} : ∀ (l : List (String × Nat × List UInt8)) (ps all : List MemPlace),
    (∀ x ∈ l, Tryd.prog.globalNamed x.1 = some x.2.1 ∧ (Tryd.prog.globals[x.2.1]?).map (·.type) = some 24) →
    DataW.LaidVars Tryd.prog W (l.map fun x : String × Nat × List UInt8 => (x.1, sentD x.2.2)) ps → (∀ p ∈ ps, p ∈ all) →
    (∀ b off, MemPlace.cell b off ∈ all → (∃ c t, W.heap[b]? = some (.cells c t (0, 0))) ∧ ∀ u v, W.cell? ⟨b, off, none⟩ = some (.iface u v) → Value.okWide Tryd.prog W .any 0 u v) →
    ∃ aa : List Addr, aa.length = l.length ∧ (∀ (k : Nat) (x : String × Nat × List UInt8) (a : Addr), l[k]? = some x → aa[k]? = some a → Lies W x.2.1 x.2.2 a) ∧ (aa.map fun a => MemPlace.cell a.block a.off).Sublist ps
  | [], ps, all, _, _, _, _ => ⟨[], rfl, fun _ _ _ h => by simp at h, List.nil_sublist _⟩
  | x :: l, ps, all, hx, h, hin, hrows => by
    obtain ⟨g, t, cs, f, p, q, hg, ht, hv, hd, hq, e⟩ := h
    obtain rfl := Option.some.inj ((hx x (List.mem_cons_self ..)).1.symm.trans hg)
    obtain rfl := Option.some.inj ((hx x (List.mem_cons_self ..)).2.symm.trans ht)
    obtain ⟨l0⟩ := cs
    have ok0 : ∀ u v, l0 = [.iface u v] → Value.okWide Tryd.prog W .any 0 u v := fun u v e' => by
      subst e'
      exact (hrows x.2.1 0 (hin _ (by rw [e]; simp [MemPlace.row]))).2 u v (by simpa using World.var?_cell hg hv 0)
    obtain ⟨a, s, rfl, hc, hs, hz, rfl⟩ := errorString_of_trod Tryd.underlying24 nRowE Tryd.underlying116 Tryd.underlying136 rfl rfl Tryd.underlying9 nCellsE nCellsS hd ok0
    obtain ⟨aa, hlen, has, hsub⟩ := laid_sents l q all (fun y hy => hx y (List.mem_cons_of_mem _ hy)) hq (fun y hy => hin y (by rw [e]; simp [hy])) hrows
    refine ⟨a :: aa, by simp [hlen], ?_, ?_⟩
    · intro k y b hk hb
      cases k with
      | zero =>
        simp at hk hb
        subst hk; subst hb
        exact ⟨by simpa using World.var?_cell hg hv 0, (hrows a.block a.off (hin _ (by rw [e]; simp [MemPlace.row]))).1, s, hc, hs, hz⟩
      | succ k => exact has k y b (by simpa using hk) (by simpa using hb)
    · rw [e]
      simp only [List.map_cons]
      refine List.Sublist.trans ?_ (List.Sublist.append_right (List.sublist_append_right _ _) _)
      simpa [MemPlace.row] using hsub

def sentL : List (String × Nat × List UInt8) := [("assent/api.ErrArg", gnum 0, sentText 0), ("assent/api.ErrLong", gnum 1, sentText 1), ("assent/api.ErrShort", gnum 2, sentText 2), ("assent/api.ErrForm", gnum 3, sentText 3), ("assent/api.ErrTail", gnum 4, sentText 4), ("assent/api.ErrFull", gnum 5, sentText 5), ("assent/api.ErrBusy", gnum 6, sentText 6), ("assent/api.ErrNone", gnum 7, sentText 7), ("assent/api.ErrOrder", gnum 8, sentText 8), ("assent/api.ErrValue", gnum 9, sentText 9)]

theorem sentAt_of_laid {W : World} (h : laidMetH Tryd.prog laidAll W) : ∃ A, SentAt W A := by
  have h' : laidMet Tryd.prog (sentL.map fun x : String × Nat × List UInt8 => (x.1, sentD x.2.2)) W ∧ handlesMet Tryd.prog [("errors.errorType", Rows.laid_errors_errorType)] W := h
  obtain ⟨⟨ps, hl, hnd, hrows⟩, hh⟩ := h'
  obtain ⟨aa, hlen, has, hsub⟩ := laid_sents sentL ps ps (by decide +kernel) hl (fun _ h => h) hrows
  have hn := List.pairwise_iff_getElem.1 (List.pairwise_map.1 (hnd.sublist hsub))
  have hlen : aa.length = 10 := hlen
  have hat : ∀ k, k < 10 → Lies W (gnum k) (sentText k) (aa.getD k ⟨0, 0, none⟩) := fun k hk => by
    refine has k ((["assent/api.ErrArg", "assent/api.ErrLong", "assent/api.ErrShort", "assent/api.ErrForm", "assent/api.ErrTail", "assent/api.ErrFull", "assent/api.ErrBusy", "assent/api.ErrNone", "assent/api.ErrOrder", "assent/api.ErrValue"] : List String).getD k "", gnum k, sentText k) _ ?_ ?_
    · match k, hk with
      | 0, _ => rfl
      | 1, _ => rfl
      | 2, _ => rfl
      | 3, _ => rfl
      | 4, _ => rfl
      | 5, _ => rfl
      | 6, _ => rfl
      | 7, _ => rfl
      | 8, _ => rfl
      | 9, _ => rfl
    · simp [List.getD, List.getElem?_eq_getElem (show k < aa.length by omega)]
  refine ⟨fun k => aa.getD k ⟨0, 0, none⟩, fun k hk => (hat k hk).glob, fun k hk => (hat k hk).row, fun k hk => (hat k hk).text, fun j k hj hk e => ?_, handle_of_laid hh⟩
  have hj' : j < aa.length := by omega
  have hk' : k < aa.length := by omega
  simp only [List.getD, List.getElem?_eq_getElem hj', List.getElem?_eq_getElem hk', Option.getD_some] at e
  rcases Nat.lt_trichotomy j k with h | h | h
  · exact absurd (by rw [e]) (hn j k hj' hk' h)
  · exact h
  · exact absurd (by rw [e]) (hn k j hk' hj' h)

end Go.Proofs.YtbefkkefglkleaaDoor
