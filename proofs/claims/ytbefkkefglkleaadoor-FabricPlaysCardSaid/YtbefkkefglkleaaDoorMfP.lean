/- Messages: which are right, their bytes, what bytes tell. -/
import Derived.Test.YtbefkkefglkleaaDoorErr7
import Derived.Test.YtbefkkefglkleaaDoorLex
import Derived.Test.YtbefkkefglkleaaDoorBk
import Derived.Test.YtbefkkefglkleaaDoorMods
import Derived.Test.YtbefkkefglkleaaDoorOpen
namespace Go.Proofs.YtbefkkefglkleaaDoor
open Go.RowKit Go.Extern.Stop Go.Stop Go.Extern

/-- A message. -/
structure MsgV where
  kind : Int
  core : Int
  line : Int
  state : Int
  mode : Int
  epoch : Int
  word : Int
  val : Int
  d0 : Int
  d1 : Int
  d2 : Int
  d3 : Int
  has : Bool
def MsgV.cs (m : MsgV) : List Value := [.int .i64 m.kind, .int .i64 m.core, .int .i64 m.line, .int .i64 m.state, .int .i64 m.mode, .int .i64 m.epoch, .int .i64 m.word, .int .u32 m.val, .int .u32 m.d0, .int .u32 m.d1, .int .u32 m.d2, .int .u32 m.d3, .bool m.has]
def MsgV.v (m : MsgV) : Value := .agg #[.int .i64 m.kind, .int .i64 m.core, .int .i64 m.line, .int .i64 m.state, .int .i64 m.mode, .int .i64 m.epoch, .int .i64 m.word, .int .u32 m.val, .int .u32 m.d0, .int .u32 m.d1, .int .u32 m.d2, .int .u32 m.d3, .bool m.has]
def in64 (n : Int) : Prop := -9223372036854775808 ≤ n ∧ n ≤ 9223372036854775807
def in32 (n : Int) : Prop := 0 ≤ n ∧ n ≤ 4294967295
theorem in32.big {n : Int} (h : in32 n) : in64 n := by unfold in32 at h; unfold in64; omega
/-- Its numbers lie in their types' bounds. -/
structure MsgV.fit (m : MsgV) : Prop where
  kind : in64 m.kind
  core : in64 m.core
  line : in64 m.line
  state : in64 m.state
  mode : in64 m.mode
  epoch : in64 m.epoch
  word : in64 m.word
  val : in32 m.val
  d0 : in32 m.d0
  d1 : in32 m.d1
  d2 : in32 m.d2
  d3 : in32 m.d3
def mgW (k : Int) : Bool := decide (k = 3 ∨ k = 8 ∨ k = 14)
def mgM (k : Int) : Bool := decide (k = 5 ∨ k = 9 ∨ k = 13)
def mgE (k : Int) : Bool := decide (k = 9 ∨ k = 13)
def mgS (k : Int) : Bool := decide (k = 11 ∨ k = 13)
def mg9 (k : Int) : Bool := decide (k = 9)
def mgD (k : Int) : Bool := decide (k = 13)
def poolM (k : Int) : Int := if k < 1 then -1 else if k ≤ 4 then 0 else if k ≤ 10 then 1 else if k ≤ 12 then 2 else if k ≤ 15 then 3 else -1
/-- It tells nothing that its kind doesn't name. -/
structure MsgV.Bare (m : MsgV) : Prop where
  word : mgW m.kind = false → m.word = 0 ∧ m.val = 0
  mode : mgM m.kind = false → m.mode = 0
  epoch : mgE m.kind = false → m.epoch = 0
  state : mgS m.kind = false → m.state = 0 ∧ m.has = false
  data : m.has = false → m.d0 = 0 ∧ m.d1 = 0 ∧ m.d2 = 0 ∧ m.d3 = 0
/-- It may be. -/
structure MsgV.Right (m : MsgV) : Prop where
  kind : 1 ≤ m.kind ∧ m.kind ≤ 15
  core : 0 ≤ m.core ∧ m.core ≤ 63
  line : 0 ≤ m.line ∧ m.line ≤ 31
  bare : m.Bare
  word : 0 ≤ m.word ∧ m.word ≤ 3
  state : 0 ≤ m.state ∧ m.state ≤ 4
  mode : 0 ≤ m.mode ∧ m.mode ≤ 3
  epoch : 0 ≤ m.epoch ∧ m.epoch ≤ 255
  gran : m.kind = 13 → m.state ≠ 0 ∧ m.state ≠ 3
def bareB (m : MsgV) : Bool := (mgW m.kind || decide (m.word = 0 ∧ m.val = 0)) && (mgM m.kind || decide (m.mode = 0)) && (mgE m.kind || decide (m.epoch = 0)) && (mgS m.kind || decide (m.state = 0 ∧ m.has = false)) && (m.has || decide (m.d0 = 0 ∧ m.d1 = 0 ∧ m.d2 = 0 ∧ m.d3 = 0))
def rightM (m : MsgV) : Bool := decide (1 ≤ m.kind ∧ m.kind ≤ 15) && decide (0 ≤ m.core ∧ m.core ≤ 63) && decide (0 ≤ m.line ∧ m.line ≤ 31) && bareB m && decide (0 ≤ m.word ∧ m.word ≤ 3) && decide (0 ≤ m.state ∧ m.state ≤ 4) && decide (0 ≤ m.mode ∧ m.mode ≤ 3) && decide (0 ≤ m.epoch ∧ m.epoch ≤ 255) && decide (m.kind = 13 → m.state ≠ 0 ∧ m.state ≠ 3)
theorem bareB_iff (m : MsgV) : bareB m = true ↔ m.Bare := by
  unfold bareB
  simp only [Bool.and_eq_true, Bool.or_eq_true, decide_eq_true_eq]
  constructor
  · rintro ⟨⟨⟨⟨h1, h2⟩, h3⟩, h4⟩, h5⟩
    exact ⟨fun h => h1.resolve_left (by simp [h]), fun h => h2.resolve_left (by simp [h]), fun h => h3.resolve_left (by simp [h]), fun h => h4.resolve_left (by simp [h]), fun h => h5.resolve_left (by simp [h])⟩
  · intro h
    have c : ∀ b : Bool, b = true ∨ b = false := fun b => by cases b <;> simp
    exact ⟨⟨⟨⟨(c _).imp_right h.word, (c _).imp_right h.mode⟩, (c _).imp_right h.epoch⟩, (c _).imp_right h.state⟩, (c _).imp_right h.data⟩
theorem rightM_iff (m : MsgV) : rightM m = true ↔ m.Right := by
  unfold rightM
  simp only [Bool.and_eq_true, decide_eq_true_eq, bareB_iff]
  constructor
  · rintro ⟨⟨⟨⟨⟨⟨⟨⟨h1, h2⟩, h3⟩, h4⟩, h5⟩, h6⟩, h7⟩, h8⟩, h9⟩
    exact ⟨h1, h2, h3, h4, h5, h6, h7, h8, h9⟩
  · intro h
    exact ⟨⟨⟨⟨⟨⟨⟨⟨h.kind, h.core⟩, h.line⟩, h.bare⟩, h.word⟩, h.state⟩, h.mode⟩, h.epoch⟩, h.gran⟩
def zeroM : MsgV := ⟨0, 0, 0, 0, 0, 0, 0, 0, 0, 0, 0, 0, false⟩
def inOk (lo hi : Int) (n : Int) : Bool := decide (lo ≤ n) && decide (n ≤ hi)

end Go.Proofs.YtbefkkefglkleaaDoor
