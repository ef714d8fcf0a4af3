/- The memory model: cores' buffers and words in memory, of the program's or of the document's types; what an event does to them. -/
import Derived.Test.YtamklohnmbgklaaDoorCpy
import Derived.Test.YtamklohnmbgklaaDoorLex2
import Derived.Test.YtamklohnmbgklaaDoorErr7
import Derived.BigQuiet
import Derived.Lib.Hide
import Derived.Lib.SliceRun
namespace Go.Proofs.YtamklohnmbgklaaDoor
open Go.RowKit Go.Extern.Stop Go.Stop Go.Extern

/-! ### A store that waits, as two cells -/
def flatW : List (Int × Int) → List Value
  | [] => []
  | x :: l => .int .i64 x.1 :: .int .u32 x.2 :: flatW l
theorem flatW_length (l : List (Int × Int)) : (flatW l).length = l.length * 2 := by
  induction l with
  | nil => rfl
  | cons x l ih => simp only [flatW, List.length_cons, ih]; omega
theorem flatW_append (l r : List (Int × Int)) : flatW (l ++ r) = flatW l ++ flatW r := by
  induction l with
  | nil => rfl
  | cons x l ih => simp [flatW, ih]
theorem flatW_at {l : List (Int × Int)} {k : Nat} {x : Int × Int} (h : l[k]? = some x) : (flatW l)[k * 2]? = some (.int .i64 x.1) ∧ (flatW l)[k * 2 + 1]? = some (.int .u32 x.2) := by
  induction l generalizing k with
  | nil => simp at h
  | cons y l ih =>
    cases k with
    | zero => simp at h; subst h; exact ⟨rfl, rfl⟩
    | succ k =>
      have := ih (by simpa using h)
      rw [show (k + 1) * 2 = k * 2 + 1 + 1 by omega]
      simpa [flatW] using this
theorem flatW_one (l : List (Int × Int)) : ∀ u ∈ flatW l, u.oneCell' = true := by
  induction l with
  | nil => intro u hu; cases hu
  | cons x l ih =>
    intro u hu
    simp only [flatW, List.mem_cons] at hu
    rcases hu with rfl | rfl | hu
    · rfl
    · rfl
    · exact ih u hu
theorem flatW_drop (l : List (Int × Int)) : (flatW l).drop 2 = flatW (l.drop 1) := by
  cases l <;> rfl
/-- Words. -/
def u32V (l : List Int) : List Value := l.map (.int .u32)
theorem u32V_length (l : List Int) : (u32V l).length = l.length := by simp [u32V]
theorem u32V_one (l : List Int) : ∀ u ∈ u32V l, u.oneCell' = true := by
  intro u hu
  simp only [u32V, List.mem_map] at hu
  obtain ⟨k, _, rfl⟩ := hu
  rfl
theorem u32V_at {l : List Int} {k : Nat} (h : k < l.length) : (u32V l)[k]? = some (.int .u32 (l.getD k 0)) := by
  simp [u32V, List.getElem?_eq_getElem h]

/-! ### What an event does -/
structure Ev where
  kind : Int
  core : Int
  addr : Int
  val : Int
  new : Int
  done : Bool
def Ev.v (e : Ev) : Value := .agg #[.int .i64 e.kind, .int .i64 e.core, .int .i64 e.addr, .int .u32 e.val, .int .u32 e.new, .bool e.done]
abbrev Bufs := List (List (Int × Int))

/-- The youngest store of a word. -/
def fwdF (L : List (Int × Int)) (a : Int) : Option Int := L.foldl (fun r x => if x.1 = a then some x.2 else r) none
theorem fwd_snoc (l : List (Int × Int)) (x : Int × Int) (a : Int) : fwdF (l ++ [x]) a = if x.1 = a then some x.2 else fwdF l a := by
  unfold fwdF
  rw [List.foldl_append]
  rfl
theorem fwd_take {L : List (Int × Int)} {k : Nat} {x : Int × Int} (a : Int) (h : L[k]? = some x) : fwdF (L.take (k + 1)) a = if x.1 = a then some x.2 else fwdF (L.take k) a := by
  rw [List.take_add_one, h, Option.toList, fwd_snoc]

/-- What a core reads at a word. -/
def rdS (B : Bufs) (M : List Int) (c a : Int) : Int := (fwdF (B.getD c.toNat []) a).getD (M.getD a.toNat 0)
def okC (B : Bufs) (c : Int) : Prop := 0 ≤ c ∧ c < B.length
def okA (M : List Int) (a : Int) : Prop := 0 ≤ a ∧ a < M.length
instance (B : Bufs) (c : Int) : Decidable (okC B c) := by unfold okC; infer_instance
instance (M : List Int) (a : Int) : Decidable (okA M a) := by unfold okA; infer_instance
/-- Why an event is refused (a code); 0: it is not. -/
def stC (B : Bufs) (M : List Int) (e : Ev) : Nat :=
  if ¬ (1 ≤ e.kind ∧ e.kind ≤ 5) ∨ ¬ okC B e.core ∨ (e.kind ≠ 5 ∧ ¬ okA M e.addr) then 1
  else if e.kind = 1 then (if rdS B M e.core e.addr = e.val then 0 else 10)
  else if e.kind = 3 then (match B.getD e.core.toNat [] with | [] => 9 | x :: _ => if x = (e.addr, e.val) then 0 else 10)
  else if e.kind = 4 then (if B.getD e.core.toNat [] = [] then (if M.getD e.addr.toNat 0 = e.val then 0 else 10) else 9)
  else if e.kind = 5 then (if B.getD e.core.toNat [] = [] then 0 else 9)
  else 0
/-- The buffers and the words behind an event that is taken. -/
def stB (B : Bufs) (e : Ev) : Bufs :=
  if e.kind = 2 then B.set e.core.toNat (B.getD e.core.toNat [] ++ [(e.addr, e.val)])
  else if e.kind = 3 then B.set e.core.toNat ((B.getD e.core.toNat []).drop 1)
  else B
def stM (M : List Int) (e : Ev) : List Int :=
  if e.kind = 3 then M.set e.addr.toNat e.val
  else if e.kind = 4 ∧ e.done = true then M.set e.addr.toNat e.new
  else M
theorem stB_length (B : Bufs) (e : Ev) : (stB B e).length = B.length := by
  unfold stB
  split
  · simp
  · split <;> simp
theorem stM_length (M : List Int) (e : Ev) : (stM M e).length = M.length := by
  unfold stM
  split
  · simp
  · split <;> simp

/-! ### Where they stand -/
/-- A model's types: its own, a row of its buffers', its buffers', a store's. -/
structure MdT where
  tM : TypeId
  tSS : TypeId
  tS : TypeId
  tW : TypeId
  d1 : tM ≠ tS
  d2 : tM ≠ tW
  d3 : tM ≠ 22
  d4 : tS ≠ tW
  d5 : tS ≠ 22
  d6 : tW ≠ 22
/-- The program's model; the document's. -/
def tyP : MdT := ⟨90, 88, 92, 94, by decide, by decide, by decide, by decide, by decide, by decide⟩
def tyR : MdT := ⟨71, 69, 73, 87, by decide, by decide, by decide, by decide, by decide, by decide⟩

/-- A model at block b: the slices of its buffers and of its words, its buffers. -/
structure MdAt (T : MdT) (w : World) (lo b : Nat) (vB vM : Value) (vs : List Value) (B : Bufs) (M : List Int) : Prop where
  blk : w.heap[b]? = some (.cells #[vB, vM] T.tM (0, 0))
  lob : lo ≤ b
  rowB : winRow w lo T.tS 1 vB B.length vs
  rowM : winRow w lo 22 1 vM M.length (u32V M)
  rows : ∀ (i : Nat) v (L : List (Int × Int)), vs[i]? = some v → B[i]? = some L → winRow w lo T.tW 2 v L.length (flatW L)
  dd : ∀ (i j : Nat) u v (g : Nat), i ≠ j → vs[i]? = some u → vs[j]? = some v → u.ownBlock = some g → v.ownBlock ≠ some g
/-- Its blocks. -/
def mdS (b : Nat) (vB vM : Value) (vs : List Value) : Nat → Prop := fun k => k = b ∨ vB.ownBlock = some k ∨ vM.ownBlock = some k ∨ ∃ (i : Nat) (v : Value), vs[i]? = some v ∧ v.ownBlock = some k
section
variable {T : MdT} {w w' : World} {lo b : Nat} {vB vM : Value} {vs : List Value} {B : Bufs} {M : List Int}
theorem MdAt.lenV (h : MdAt T w lo b vB vM vs B M) : vs.length = B.length := by have := h.rowB.1; omega
theorem MdAt.lt (h : MdAt T w lo b vB vM vs B M) : ∀ k, mdS b vB vM vs k → lo ≤ k ∧ k < w.heap.size := by
  intro k hk
  rcases hk with rfl | hk | hk | ⟨i, v, hv, hk⟩
  · exact ⟨h.lob, (Array.getElem?_eq_some_iff.1 h.blk).1⟩
  · exact h.rowB.lt k hk
  · exact h.rowM.lt k hk
  · have hi := (List.getElem?_eq_some_iff.1 hv).1
    rw [h.lenV] at hi
    exact (h.rows i v _ hv (List.getElem?_eq_getElem hi)).lt k hk
theorem MdAt.keep {S : Nat → Prop} (h : MdAt T w lo b vB vM vs B M) (hm : Mods S w w') (hs : ∀ k, mdS b vB vM vs k → ¬ S k) : MdAt T w' lo b vB vM vs B M := by
  have hl := h.lt
  refine ⟨(hm.block b (hl b (.inl rfl)).2 (hs b (.inl rfl))).trans h.blk, h.lob, h.rowB.keep fun g hg => hm.block g (hl g (.inr (.inl hg))).2 (hs g (.inr (.inl hg))), h.rowM.keep fun g hg => hm.block g (hl g (.inr (.inr (.inl hg)))).2 (hs g (.inr (.inr (.inl hg)))), fun i v L hv hL => ?_, h.dd⟩
  exact (h.rows i v L hv hL).keep fun g hg => hm.block g (hl g (.inr (.inr (.inr ⟨i, v, hv, hg⟩)))).2 (hs g (.inr (.inr (.inr ⟨i, v, hv, hg⟩))))
theorem MdAt.below (h : MdAt T w lo b vB vM vs B M) (hb : Below w.heap.size w w') : MdAt T w' lo b vB vM vs B M := h.keep (S := fun _ => False) (.of_below hb) fun _ _ => id

theorem winRow.ty {w : World} {base : Nat} {e : TypeId} {size : Nat} {v : Value} {n : Nat} {xs : List Value} (h : winRow w base e size v n xs) {g : Nat} (hg : v.ownBlock = some g) : ∃ cur, w.heap[g]? = some (.cells cur e (0, 0)) := by
  rcases h.2 with ⟨rfl, _⟩ | ⟨g', off, cap, cur, rfl, _, hc, _⟩
  · cases hg
  · simp only [Value.ownBlock, Option.some.injEq] at hg
    subst hg
    exact ⟨cur, hc⟩
theorem ty_ne {w : World} {g : Nat} {e f : TypeId} {c d : Array Value} (h : w.heap[g]? = some (.cells c e (0, 0))) (h' : w.heap[g]? = some (.cells d f (0, 0))) (hne : e ≠ f) : False := by
  rw [h] at h'
  simp only [Option.some.injEq, Obj.cells.injEq] at h'
  exact hne h'.2.1
end

/-- A model: its blocks behind a set. -/
def Md (T : MdT) (w : World) (lo b : Nat) (F : Nat → Prop) (B : Bufs) (M : List Int) : Prop := ∃ vB vM vs, MdAt T w lo b vB vM vs B M ∧ F = mdS b vB vM vs
section
variable {T : MdT} {w w' : World} {lo b : Nat} {F S : Nat → Prop} {B : Bufs} {M : List Int}
theorem Md.lt (h : Md T w lo b F B M) : ∀ k, F k → lo ≤ k ∧ k < w.heap.size := by
  obtain ⟨vB, vM, vs, hA, rfl⟩ := h
  exact hA.lt
theorem Md.keep (h : Md T w lo b F B M) (hm : Mods S w w') (hs : ∀ k, F k → ¬ S k) : Md T w' lo b F B M := by
  obtain ⟨vB, vM, vs, hA, rfl⟩ := h
  exact ⟨vB, vM, vs, hA.keep hm hs, rfl⟩
theorem Md.below (h : Md T w lo b F B M) (hb : Below w.heap.size w w') : Md T w' lo b F B M := h.keep (S := fun _ => False) (.of_below hb) fun _ _ => id
theorem Md.self (h : Md T w lo b F B M) : F b := by
  obtain ⟨vB, vM, vs, hA, rfl⟩ := h
  exact .inl rfl
end

end Go.Proofs.YtamklohnmbgklaaDoor
