/- The errors of this program: sentinels and wrappings of them; errors.Is finds in a wrapping what stands at its root, and no more. -/
import Derived.Test.YtbefkkefglkleaaDoorBase
import Derived.Test.YtbefkkefglkleaaDoorAid
import Derived.LaidEql
import Derived.Stop.Asserts
import Derived.Stop.IfaceNil
import Derived.Stop.LaidErr
import Derived.RowKitTokens
import Derived.Deep.LoopGhost
namespace Go.Proofs.YtbefkkefglkleaaDoor
open Go.RowKit Go.Extern.Stop Go.Stop Go.Extern

/-- An error: none, a sentinel (its code less one), a wrapping. -/
inductive ErrT where
  | nil
  | sent (k : Nat)
  | wrap (op : ByteArray) (at_ : Int) (e : ErrT)

def ErrT.val (A : Nat → Addr) : ErrT → Value
  | .nil => .nilIface
  | .sent k => .iface 116 (.pointer (some (A k)))
  | .wrap op i e => .iface 75 (.agg #[.string op, .int .i64 i, e.val A])

def ErrT.isNil : ErrT → Bool
  | .nil => true
  | _ => false
/-- Its sentinels are sentinels, and none is wrapped. -/
def ErrT.wf : ErrT → Prop
  | .nil => True
  | .sent k => k < 10
  | .wrap _ _ e => e.isNil = false ∧ e.wf
/-- What stands at its root: a sentinel's code, 0: none. -/
def ErrT.code : ErrT → Nat
  | .nil => 0
  | .sent k => k + 1
  | .wrap _ _ e => e.code
def ErrT.depth : ErrT → Nat
  | .nil => 0
  | .sent _ => 1
  | .wrap _ _ e => e.depth + 1

theorem ErrT.code_pos {e : ErrT} (h : e.wf) (hn : e.isNil = false) : 1 ≤ e.code ∧ e.code ≤ 10 := by
  induction e with
  | nil => cases hn
  | sent k => simp only [ErrT.code, ErrT.wf] at *; omega
  | wrap op i e ih => exact ih h.2 h.1

def wrapE (op : ByteArray) (i : Int) (e : ErrT) : ErrT := if e.isNil then .nil else .wrap op i e
theorem wrapE_wf {op : ByteArray} {i : Int} {e : ErrT} (h : e.wf) : (wrapE op i e).wf := by
  unfold wrapE
  split
  · trivial
  · rename_i hn; exact ⟨by simpa using hn, h⟩

/-- Which package-level variable holds a sentinel. -/
def gnum : Nat → Nat
  | 0 => 0
  | 1 => 2
  | 2 => 3
  | 3 => 4
  | 4 => 5
  | 5 => 1
  | 6 => 6
  | 7 => 7
  | 8 => 8
  | _ => 9

/-- What a start gives: the sentinels, each its own; the handle of the type 'error'. -/
structure SentAt (w : World) (A : Nat → Addr) : Prop where
  glob : ∀ k, k < 10 → w.cell? ⟨gnum k, 0, none⟩ = some (.iface 116 (.pointer (some (A k))))
  row : ∀ k, k < 10 → ∃ cs t, w.heap[(A k).block]? = some (.cells cs t (0, 0))
  text : ∀ k, k < 10 → ∃ s, w.cell? (A k) = some (.string s) ∧ s.data.toList = sentText k ∧ s.size ≤ maxLen
  inj : ∀ j k, j < 10 → k < 10 → A j = A k → j = k
  et : w.cell? ⟨10, 0, none⟩ = some (.iface 101 (.agg #[.pointer (some ⟨11, 24, none⟩)]))

theorem SentAt.glt {w : World} {A : Nat → Addr} (h : SentAt w A) : 11 ≤ w.heap.size ∧ ∀ k, k < 10 → gnum k < w.heap.size := by
  have h0 := fun k hk => World.block_lt_of_cell? _ _ (h.glob k hk)
  have h1 : 10 < w.heap.size := World.block_lt_of_cell? _ _ h.et
  have g0 := h0 0 (by omega)
  have g1 := h0 1 (by omega)
  have g2 := h0 2 (by omega)
  have g3 := h0 3 (by omega)
  have g4 := h0 4 (by omega)
  have g5 := h0 5 (by omega)
  have g6 := h0 6 (by omega)
  have g7 := h0 7 (by omega)
  have g8 := h0 8 (by omega)
  have g9 := h0 9 (by omega)
  simp only [gnum] at g0 g1 g2 g3 g4 g5 g6 g7 g8 g9
  exact ⟨by omega, h0⟩

theorem SentAt.lt {w : World} {A : Nat → Addr} (h : SentAt w A) {k : Nat} (hk : k < 10) : (A k).block < w.heap.size := by
  obtain ⟨cs, t, hr⟩ := h.row k hk
  exact (Array.getElem?_eq_some_iff.1 hr).1

/-- They stand behind whatever turns nothing below a bound above them. -/
theorem SentAt.below {w w' : World} {A : Nat → Addr} (h : SentAt w A) (hb : Below w.heap.size w w') : SentAt w' A :=
  ⟨fun k hk => (hb.cell (p := ⟨gnum k, 0, none⟩) (h.glt.2 k hk)).trans (h.glob k hk), fun k hk => by rw [hb.block _ (h.lt hk)]; exact h.row k hk,
    fun k hk => by rw [hb.cell (h.lt hk)]; exact h.text k hk, h.inj, (hb.cell (p := ⟨10, 0, none⟩) (by have := World.block_lt_of_cell? _ _ h.et; exact this)).trans h.et⟩

/-! ### What errors.Is asks -/
/-- The model's entries, behind names that the walk does not open. -/
def xTypeOf : Array Value → Sem Value := Extern.ReflectliteType.typeOf
def xComparable : Array Value → Sem Value := Extern.ReflectliteType.method fun t => do Extern.Rtype.noPackHeld "Comparable" t; pure (.bool (← typeInfo t).comparable)
theorem nCallTypeOf (args : Array Value) (w : World) : (callFunc 41 args).run Tryd.prog w = ((xTypeOf args).run Tryd.prog w).andThen fun v w' => .ok (.value v) w' := run_callFunc_extern (e := xTypeOf) Tryd.func41 (by kernel_rfl) (by kernel_rfl) (by kernel_rfl) (by kernel_rfl) args w
theorem nCallComparable (args : Array Value) (w : World) : (callFunc 73 args).run Tryd.prog w = ((xComparable args).run Tryd.prog w).andThen fun v w' => .ok (.value v) w' := run_callFunc_extern (e := xComparable) Tryd.func73 (by kernel_rfl) (by kernel_rfl) (by kernel_rfl) (by kernel_rfl) args w
theorem nIsTypeOf (v : Value) (w : World) : (xTypeOf #[.iface 116 v]).run Tryd.prog w = .ok (.iface 101 (.agg #[.pointer (some ⟨11, 116, none⟩)])) w := by kernel_rfl
theorem nIsComparable (w : World) : (xComparable #[.agg #[.pointer (some ⟨11, 116, none⟩)]]).run Tryd.prog w = .ok (.bool true) w := by kernel_rfl
theorem nIsMethodComparable (v : Value) (w : World) : (Go.method 248 101 v "Comparable").run Tryd.prog w = .ok (73, v) w := by kernel_rfl
theorem nIsComp : (Tryd.prog.info? 116).map (·.comparable) = some true := by kernel_rfl
theorem nIsSize : (Tryd.prog.info? 136).map (·.size) = some 1 := by kernel_rfl
theorem nNoIsE (v : Value) (xT : TypeId) (w : World) : (Instr.typeAssert (.iface 116 v) xT 103 true).run Tryd.prog w = .ok (.tuple #[.nilIface, .bool false]) w := run_typeAssert_lacksB Tryd.underlying103 (by kernel_rfl) (by kernel_rfl) v xT w
theorem nNoUnwrapE (v : Value) (xT : TypeId) (w : World) : (Instr.typeAssert (.iface 116 v) xT 106 true).run Tryd.prog w = .ok (.tuple #[.nilIface, .bool false]) w := run_typeAssert_lacksB Tryd.underlying106 (by kernel_rfl) (by kernel_rfl) v xT w
theorem nNoUnwrapsE (v : Value) (xT : TypeId) (w : World) : (Instr.typeAssert (.iface 116 v) xT 108 true).run Tryd.prog w = .ok (.tuple #[.nilIface, .bool false]) w := run_typeAssert_lacksB Tryd.underlying108 (by kernel_rfl) (by kernel_rfl) v xT w
theorem nNoIsW (v : Value) (xT : TypeId) (w : World) : (Instr.typeAssert (.iface 75 v) xT 103 true).run Tryd.prog w = .ok (.tuple #[.nilIface, .bool false]) w := run_typeAssert_lacksB Tryd.underlying103 (by kernel_rfl) (by kernel_rfl) v xT w
theorem nHasUnwrapW (v : Value) (xT : TypeId) (w : World) : (Instr.typeAssert (.iface 75 v) xT 106 true).run Tryd.prog w = .ok (.tuple #[.iface 75 v, .bool true]) w := run_typeAssert_hasB Tryd.underlying106 (by kernel_rfl) v xT w
theorem nMethodUnwrap (v : Value) (w : World) : (Go.method 248 75 v "Unwrap").run Tryd.prog w = .ok (67, v) w := by kernel_rfl

/-- Unwrap gives what is wrapped. -/
theorem unwrap_any (op : ByteArray) (i : Int) (v : Value) (w : World) (hv : ∃ t u, v = .iface t u) :
    Calls Tryd.prog 67 #[.agg #[.string op, .int .i64 i, v]] w fun e w' => e = .returned v ∧ Below w.heap.size w w' := by
  obtain ⟨t, u, rfl⟩ := hv
  go_enter Tryd.func67, Tryd.ntmps67
  go_wp2
  go_ret
  exact ⟨rfl, (Below.refl _ _).alloc (Nat.le_refl _) _⟩

theorem ErrT.val_iface (A : Nat → Addr) {e : ErrT} (h : e.isNil = false) : ∃ t u, e.val A = .iface t u := by
  cases e with
  | nil => cases h
  | sent k => exact ⟨_, _, rfl⟩
  | wrap op i e => exact ⟨_, _, rfl⟩

/-- What the searches in an error ask of a start: the sentinels of a set K stand in rows of their own; the handle of the type 'error'. -/
structure SentC (w : World) (A : Nat → Addr) (K : Nat → Prop) : Prop where
  row : ∀ k, K k → ∃ cs t, w.heap[(A k).block]? = some (.cells cs t (0, 0))
  inj : ∀ j k, K j → K k → A j = A k → j = k
  et : w.cell? ⟨10, 0, none⟩ = some (.iface 101 (.agg #[.pointer (some ⟨11, 24, none⟩)]))
theorem SentC.below {w w' : World} {A : Nat → Addr} {K : Nat → Prop} (h : SentC w A K) (hb : Below w.heap.size w w') : SentC w' A K :=
  ⟨fun k hk => by
    obtain ⟨cs, t, hr⟩ := h.row k hk
    exact ⟨cs, t, by rw [hb.block _ (Array.getElem?_eq_some_iff.1 hr).1]; exact hr⟩, h.inj, (hb.cell (p := ⟨10, 0, none⟩) (by have := World.block_lt_of_cell? _ _ h.et; exact this)).trans h.et⟩
theorem SentAt.core {w : World} {A : Nat → Addr} (h : SentAt w A) : SentC w A (fun k => k < 10) := ⟨h.row, h.inj, h.et⟩
/-- Is the sentinel at its root, if there is one, of a set? -/
def ErrT.rootIn (K : Nat → Prop) : ErrT → Prop
  | .nil => True
  | .sent k => K k
  | .wrap _ _ e => e.rootIn K
theorem ErrT.rootIn_wf {e : ErrT} (h : e.wf) : e.rootIn (fun k => k < 10) := by
  induction e with
  | nil => trivial
  | sent k => exact h
  | wrap op i e ih => exact ih h.2

theorem eql_sentC {W : World} {A : Nat → Addr} {K : Nat → Prop} (hs : SentC W A K) {j k : Nat} (hj : K j) (hk : K k) :
    (binOp .eql 24 (.iface 116 (.pointer (some (A j)))) (.iface 116 (.pointer (some (A k))))).run Tryd.prog W = .ok (.bool (decide (j = k))) W := by
  obtain ⟨i, hi, hcmp⟩ := Option.map_eq_some_iff.1 nIsComp
  obtain ⟨z, hz, hzs⟩ := Option.map_eq_some_iff.1 nIsSize
  by_cases h : j = k
  · subst h
    simpa using run_eql_iface_ptr_same (P := Tryd.prog) W (A j) Tryd.underlying24 Tryd.underlying116 hi hcmp hz
  · obtain ⟨ca, ta, ha⟩ := hs.row j hj
    obtain ⟨cb, tb, hb⟩ := hs.row k hk
    have hne : A j ≠ A k := fun e => h (hs.inj j k hj hk e)
    simpa [h] using run_eql_iface_ptr_other (P := Tryd.prog) W Tryd.underlying24 Tryd.underlying116 hi hcmp hz (by rw [hzs]; decide) hne ha hb

theorem eql_sent {W : World} {A : Nat → Addr} (hs : SentAt W A) {j k : Nat} (hj : j < 10) (hk : k < 10) :
    (binOp .eql 24 (.iface 116 (.pointer (some (A j)))) (.iface 116 (.pointer (some (A k))))).run Tryd.prog W = .ok (.bool (decide (j = k))) W := eql_sentC hs.core hj hk

end Go.Proofs.YtbefkkefglkleaaDoor
