/- A region that draws its order, walked once in the order of the text: its operations that only yield a value are taken in every world that meets S, and its other operations stand in one chain. -/
import Derived.OrdersHeld
import Derived.Deep.Quiet
import Derived.Tactics
namespace Go.Proofs.YtbefkkefglkleaaDoor
open Go

/-- An operation that, if it ends, yields one value and is no call of a Go function. -/
def lightB (o : Oper) : Bool :=
  match o.op with
  | .move _ | .assign _ | .pick _ _ _ | .load _ _ | .nilCheck _ | .binOp _ _ _ _ _ | .unOp _ _ _ | .makeInterface _ _ | .slice _ _ _ _ _ | .fieldAddr _ _ _ | .field _ _ _
  | .indexAddr _ _ _ | .index _ _ _ | .lookup _ _ _ _ | .extract _ _ | .typeAssert _ _ _ _ | .build _ _ | .convert _ _ _ => true
  | .call c => match c.callee with
    | .builtin .len | .builtin .max | .builtin .min | .builtin .cap => true
    | _ => false
  | _ => false

theorem v_value {α : Type} {P : Program} {w w' : World} {n : Next} {s : Sem α} {f : α → Value} (h : (s >>= fun x => (pure (Next.value (f x)) : Sem Next)).run P w = .ok n w') : ∃ v, n = .value v := by
  rw [Sem.run_bind] at h
  cases hs : s.run P w with
  | ok x w1 => rw [hs] at h; simp at h; exact ⟨_, h.1.symm⟩
  | halt x w1 => rw [hs] at h; simp at h

theorem light_value {P : Program} {o : Oper} {ρ : Operand → Value} {w w' : World} {n : Next} (hl : lightB o = true) (h : (execOp ρ o).run P w = .ok n w') : ∃ v, n = .value v := by
  obtain ⟨dst, op, type, pos, after, guard⟩ := o
  cases op <;> simp only [lightB] at hl <;> (try exact absurd hl (by decide)) <;> simp only [execOp] at h
  case move x => simp at h; exact ⟨_, h.1.symm⟩
  case assign x => simp at h; exact ⟨_, h.1.symm⟩
  case nilCheck x =>
    split at h
    · simp [runtimePanic] at h
    · simp [runtimePanic] at h
    · simp [runtimePanic] at h
    · split at h
      · simp [runtimePanic] at h
      · rw [Sem.run_bind] at h
        generalize program.run P w = r1 at h
        cases r1 with
        | halt x w1 => simp at h
        | ok p1 w1 =>
          simp only [Result.andThen_ok] at h
          rw [Sem.run_bind] at h
          generalize Sem.run P _ w1 = r2 at h
          cases r2 with
          | halt x w2 => simp at h
          | ok p2 w2 =>
            simp only [Result.andThen_ok] at h
            split at h
            · simp [unsupported] at h
            · simp at h; exact ⟨_, h.1.symm⟩
      · simp at h; exact ⟨_, h.1.symm⟩
    · simp at h; exact ⟨_, h.1.symm⟩
  case call c =>
    obtain ⟨callee, args, argTypes⟩ := c
    cases callee <;> simp only [] at hl <;> (try exact absurd hl (by decide))
    rename_i b
    simp only [resolve] at h
    cases b <;> simp only [] at hl <;> (try exact absurd hl (by decide)) <;> (simp only [Sem.run_bind, Sem.run_pure, Result.andThen_ok, invoke, builtin] at h; exact v_value (f := id) (by simpa using h))
  all_goals exact v_value h

/-- A frame at which every run ends. -/
def deadFrame : Frame := { (default : Frame) with fn := 0, todo := [.code (.refuse "")], mode := .run, defers := [] }

theorem dead_ends (P : Program) (w : World) (v : Value) : ∃ o w', step P (lone (deadFrame.finish v) [] w) = .ended o w' :=
  ⟨.unsupported (Unsupported.elab "") ((deadFrame.finish v).pos P), w, step_lone_ended (by simp [stepG, stepG.exec, deadFrame, Frame.finish])⟩

theorem leaves_once {P : Program} {m : Machine} {fr1 fr2 : Frame} {w1 w2 : World} {u u' : Value} {n d : Nat}
    (h1 : runN P n m = .next (lone fr1 [deadFrame] w1)) (l1 : fr1.leaving P w1 (.returned u)) (h2 : runN P (n + d) m = .next (lone fr2 [deadFrame] w2)) (l2 : fr2.leaving P w2 (.returned u')) : u = u' := by
  rw [runN_add, h1] at h2
  dsimp only at h2
  cases d with
  | zero =>
    simp only [runN] at h2
    injection h2 with h2
    simp only [lone, Machine.mk.injEq, Array.mk.injEq, List.cons.injEq, Goroutine.mk.injEq] at h2
    obtain ⟨hw, ⟨hf, _⟩, _⟩ := h2
    obtain ⟨_, _, _, fn, hfn, hr⟩ := l1
    obtain ⟨_, _, _, fn', hfn', hr'⟩ := l2
    obtain ⟨rfl, _⟩ := hf
    subst hw
    rw [hfn] at hfn'
    injection hfn' with e
    subst e
    rw [hr] at hr'
    injection hr' with e _
  | succ d =>
    simp only [runN, step_leave_returned l1] at h2
    cases d with
    | zero =>
      simp only [runN] at h2
      injection h2 with h2
      simp [lone] at h2
    | succ d =>
      obtain ⟨o, w', he⟩ := dead_ends P w1 u
      simp only [runN, he] at h2
      cases h2

/-- A call that hands back u in one reading of it hands back u in every one. -/
theorem calls_det {P : Program} {f : FuncId} {args : Array Value} {w : World} {u u' : Value} {R R' : World → Prop} (h : Calls P f args w (fun e w' => e = .returned u ∧ R w')) (h' : Calls P f args w (fun e w' => e = .returned u' ∧ R' w')) : u = u' := by
  obtain ⟨e1, w1, fr1, ⟨rfl, _⟩, ⟨n1, s1⟩, _, l1⟩ := h [deadFrame]
  obtain ⟨e2, w2, fr2, ⟨rfl, _⟩, ⟨n2, s2⟩, _, l2⟩ := h' [deadFrame]
  rcases Nat.le_total n1 n2 with hle | hle
  · obtain ⟨d, rfl⟩ := Nat.le.dest hle
    exact leaves_once s1 l1 s2 l2
  · obtain ⟨d, rfl⟩ := Nat.le.dest hle
    exact (leaves_once s2 l2 s1 l1).symm

/-- The class of the worlds that meet S. -/
structure Wd (S : World → Prop) where
  w : World
  h : S w
def InS (S : World → Prop) : World → Prop := fun w' => ∃ x : Wd S, w' = x.w
attribute [go_sem] InS

section
variable {P : Program} {ops : Array Oper} {md : Region.Mode} {S : World → Prop}

/-- what a region's walk comes to must be an ordinary end -/
def OnlyN (Q : Exit → Act → World → Prop) : Exit → Act → World → Prop
  | .normal, a, w => Q .normal a w
  | _, _, _ => False

theorem OnlyN.imp {Q : Exit → Act → World → Prop} : ∀ (e : Exit) (a : Act) (w : World), OnlyN Q e a w → Q e a w := fun e a w h => by
  cases e <;> first | exact h | exact (h : False).elim

theorem quiet_yields {o : Oper} {a : Act} {K : Act → Prop} (hl : lightB o = true) (h : o.quiet P a (InS S) K) :
    ∃ v, (∀ w, S w → (execOp a.eval o).run P w = .ok (.value v) w) ∧ K (a.put o.dst v) := by
  obtain ⟨v, h1, h2⟩ := h
  refine ⟨v, fun w hw => ?_, h2⟩
  have h3 := h1 w ⟨⟨w, hw⟩, rfl⟩
  unfold Oper.quietAt at h3
  generalize hr : (execOp a.eval o).run P w = r at h3
  cases r with
  | halt x w' => simp [Oper.quietUpon] at h3
  | ok n w' =>
    obtain ⟨u, rfl⟩ := light_value hl hr
    simp only [Oper.quietUpon] at h3
    rw [h3.1, h3.2]

/-- Is it a call of one of these functions? -/
def pureB (fs : List FuncId) (o : Oper) : Bool :=
  match o.op with
  | .call c => match c.callee with
    | .value (.func f) => fs.contains f
    | _ => false
  | _ => false
/-- Which calls only compute; which operations (by the slot that they write) stand in the chain though they only yield a value (a load out of what an operation of the chain has made). -/
structure Cls where
  fs : List FuncId
  hs : List Nat
def heavyB (hs : List Nat) (o : Oper) : Bool := match o.dst with | some d => hs.contains d | none => false
def liteB (c : Cls) (o : Oper) : Bool := (lightB o || pureB c.fs o) && !heavyB c.hs o

/-- In this world the operation yields v, and leaves the world as it is. -/
def LRun (P : Program) (o : Oper) (a : Act) (w : World) (v : Value) : Prop :=
  (execOp a.eval o).run P w = .ok (.value v) w ∨ ∃ f args, (execOp a.eval o).run P w = .ok (.enter f args) w ∧ Calls P f args w (fun e w'' => e = .returned v ∧ w'' = w)

def YieldsL (P : Program) (ops : Array Oper) (S : World → Prop) (o : Oper) (v : Value) (a : Act) : Prop :=
  (Region.wanted o (yielded ops a.tmps) = true ∧ ∀ w, S w → LRun P o a w v) ∨ (Region.wanted o (yielded ops a.tmps) = false ∧ v = undef)

theorem LRun.unique {o : Oper} {a : Act} {w : World} {u v : Value} (h : LRun P o a w u) (h' : LRun P o a w v) : u = v := by
  rcases h with h | ⟨f, args, h, hc⟩ <;> rcases h' with h' | ⟨f', args', h', hc'⟩ <;> rw [h] at h'
  · injection h' with h' _; injection h'
  · injection h' with h' _; cases h'
  · injection h' with h' _; cases h'
  · injection h' with h' _
    injection h' with h1 h2
    subst h1; subst h2
    exact calls_det (R := fun w'' => w'' = w) (R' := fun w'' => w'' = w) hc hc'

theorem YieldsL.wpOp {Q : Exit → Act → World → Prop} {i : Nat} {o : Oper} {v : Value} {a : Act} (hi : ops[i]? = some o) (hy : YieldsL P ops S o v a)
    {K : Act → World → Prop} {w : World} (hS : S w) (h : K (a.put o.dst v) w) : wpOp P ops Q i K a w := by
  unfold Go.wpOp
  simp only [hi]
  rcases hy with ⟨hw, hv⟩ | ⟨hw, rfl⟩
  · rw [if_pos hw]
    refine .inl ?_
    rcases hv w hS with hr | ⟨f, args, hr, hc⟩
    · simp only [Oper.wp, hr, Oper.upon]; exact h
    · simp only [Oper.wp, hr, Oper.upon]
      exact hc.mono fun e w'' ⟨he, hw''⟩ => by subst he; subst hw''; exact h
  · rw [if_neg (by simp [hw])]; exact h

theorem YieldsL.of_same {o : Oper} {v : Value} {a a' : Act} (hy : YieldsL P ops S o v a) (he : execOp a'.eval o = execOp a.eval o)
    (hw : Region.wanted o (yielded ops a'.tmps) = Region.wanted o (yielded ops a.tmps)) : YieldsL P ops S o v a' := by
  unfold YieldsL LRun at *
  rw [he, hw]
  exact hy

/-- THE WALK over a list of the region's operations (numbers and operations), in their order. -/
def lexP (fs : Cls) (P : Program) (ops : Array Oper) (S : World → Prop) (Q : Exit → Act → World → Prop) : List Nat → Act → World → Prop
  | [], a, w => Q .normal a w
  | k :: L, a, w => ∃ o, ops[k]? = some o ∧
    if liteB fs o = true then ∃ v, YieldsL P ops S o v a ∧ lexP fs P ops S Q L (a.put o.dst v) w
    else wpOp P ops (OnlyN Q) k (fun a' w' => S w' ∧ lexP fs P ops S Q L a' w') a w

/-- waits j for i? -/
def waits (md : Region.Mode) (ops : Array Oper) (j i : Nat) : Bool :=
  match ops[j]? with
  | some oj => oj.after.any fun e => Region.binds md e && e.on == i
  | none => false

/-- .. by a road of waits -/
def reach (md : Region.Mode) (ops : Array Oper) : Nat → Nat → Nat → Bool
  | 0, _, _ => false
  | n + 1, j, i => waits md ops j i || (List.range j).any fun k => waits md ops j k && reach md ops n k i


def lexChainB (fs : Cls) (md : Region.Mode) (ops : Array Oper) : Bool :=
  Region.noSelect ops && ((List.range ops.size).all fun k => (match ops[k]? with | some o => o.after.all fun e => !Region.binds md e || decide (e.on < k) | none => false)) && ((List.range ops.size).all fun k => (List.range ops.size).all fun i =>
    (!decide (k < i) || ((waits md ops i k || (match ops[k]?, ops[i]? with | some x, some y => x.apart ops y | _, _ => false)) &&
      (match ops[k]?, ops[i]? with | some x, some y => liteB fs x || liteB fs y || reach md ops ops.size i k | _, _ => false))))

theorem waits_lt {j i : Nat} (h : waits md ops j i = true) : j < ops.size := by
  unfold waits at h
  split at h
  · rename_i oj hj; exact (Array.getElem?_eq_some_iff.1 hj).1
  · cases h

theorem waits_of {j i : Nat} {oj : Oper} (hj : ops[j]? = some oj) {e : _} (he : e ∈ oj.after) (hb : Region.binds md e = true) (hon : e.on = i) : waits md ops j i = true := by
  unfold waits
  rw [hj]
  exact Array.any_eq_true'.2 ⟨e, he, by simp [hb, hon]⟩

structure Chain (fs : Cls) (md : Region.Mode) (ops : Array Oper) : Prop where
  sel : ∀ (j : Nat) (o : Oper) cs b, ops[j]? = some o → o.op ≠ .select cs b
  dir : ∀ j i, waits md ops j i = true → i < j
  apart : ∀ k i ok oi, ops[k]? = some ok → ops[i]? = some oi → k < i → waits md ops i k = false → ok.apart ops oi = true
  chain : ∀ k i ok oi, ops[k]? = some ok → ops[i]? = some oi → k < i → liteB fs ok = false → liteB fs oi = false → reach md ops ops.size i k = true

theorem chain_of {fs : Cls} (h : lexChainB fs md ops = true) : Chain fs md ops := by
  simp only [lexChainB, Bool.and_eq_true, List.all_eq_true, List.mem_range] at h
  obtain ⟨⟨hs, hd⟩, h⟩ := h
  refine ⟨fun j o cs b ho => Region.noSelect_spec hs j o cs b ho, fun j i hw => ?_, fun k i ok oi hk hi hlt hw => ?_, fun k i ok oi hk hi hlt h1 h2 => ?_⟩
  · have h1 := hd j (waits_lt hw)
    unfold waits at hw
    split at hw
    · rename_i oj hj
      rw [hj] at h1
      obtain ⟨e, he, hb⟩ := Array.any_eq_true'.1 hw
      simp only [Bool.and_eq_true, beq_iff_eq] at hb
      have h2 := Array.all_eq_true_iff_forall_mem.1 h1 e he
      rw [hb.1, hb.2] at h2
      simpa using h2
    · cases hw
  · have := h k (Array.getElem?_eq_some_iff.1 hk).1 i (Array.getElem?_eq_some_iff.1 hi).1
    simp [hlt, hw, hk, hi] at this
    exact this.1
  · have := h k (Array.getElem?_eq_some_iff.1 hk).1 i (Array.getElem?_eq_some_iff.1 hi).1
    simp [hlt, hk, hi, h1, h2] at this
    exact this.2

/-- L, what has not come up yet, holds with each what waits for it -/
def UpC (md : Region.Mode) (ops : Array Oper) (L : List Nat) : Prop := ∀ j i, waits md ops j i = true → i ∈ L → j ∈ L
def Rdy (md : Region.Mode) (ops : Array Oper) (L : List Nat) (i : Nat) : Prop := ∀ k ∈ L, waits md ops i k = false

theorem reach_mem {L : List Nat} (hu : UpC md ops L) : ∀ (n j k : Nat), reach md ops n j k = true → k ∈ L → j ∈ L
  | 0, _, _, h, _ => by cases h
  | n + 1, j, k, h, hk => by
    simp only [reach, Bool.or_eq_true, List.any_eq_true, Bool.and_eq_true] at h
    rcases h with h | ⟨m, _, hm, hr⟩
    · exact hu _ _ h hk
    · exact hu _ _ hm (reach_mem hu n m k hr hk)

theorem reach_not {L : List Nat} (hu : UpC md ops L) {n j k : Nat} (h : reach md ops n j k = true) (hk : k ∈ L) (hr : Rdy md ops L j) : False := by
  cases n with
  | zero => cases h
  | succ n =>
    simp only [reach, Bool.or_eq_true, List.any_eq_true, Bool.and_eq_true] at h
    rcases h with h | ⟨m, _, hm, hr2⟩
    · rw [hr k hk] at h; cases h
    · rw [hr m (reach_mem hu n m k hr2 hk)] at hm; cases hm

theorem yieldsL_unique {o : Oper} {u u' : Value} {a : Act} {w : World} (hS : S w) (h : YieldsL P ops S o u a) (h' : YieldsL P ops S o u' a) : u = u' := by
  rcases h with ⟨hw, hv⟩ | ⟨hw, rfl⟩ <;> rcases h' with ⟨hw', hv'⟩ | ⟨hw', rfl⟩
  · exact (hv w hS).unique (hv' w hS)
  · rw [hw] at hw'; cases hw'
  · rw [hw] at hw'; cases hw'
  · rfl

theorem yieldsL_put {ok oi : Oper} (hsi : ∀ cs b, oi.op ≠ .select cs b) {u v : Value} {a : Act} (h : ∀ d, ok.dst = some d → d ∉ oi.looksAt ops) :
    YieldsL P ops S oi u (a.put ok.dst v) ↔ YieldsL P ops S oi u a :=
  ⟨fun hy => hy.of_same (execOp_put oi hsi a ok.dst v h).symm (wanted_put oi a ok.dst v h).symm, fun hy => hy.of_same (execOp_put oi hsi a ok.dst v h) (wanted_put oi a ok.dst v h)⟩

/-- An operation that yields v wherever S holds may come behind one apart from it. -/
theorem wpOp_later {Q : Exit → Act → World → Prop} {k : Nat} {ok oi : Oper} (hk : ops[k]? = some ok) (hap : oi.apart ops ok = true) (hsi : ∀ cs b, oi.op ≠ .select cs b) (hsk : ∀ cs b, ok.op ≠ .select cs b)
    {K : Act → World → Prop} {a : Act} {w : World} {v : Value} (hy : YieldsL P ops S oi v a) (h : wpOp P ops (OnlyN Q) k K (a.put oi.dst v) w) :
    wpOp P ops (OnlyN Q) k (fun a' w' => YieldsL P ops S oi v a' ∧ K (a'.put oi.dst v) w') a w := by
  obtain ⟨h1, h2, h3⟩ := Oper.apart_spec hap
  have nolet : ¬ LetsOut (OnlyN Q) := fun ⟨_, _, hh⟩ => hh
  have keep : ∀ u, YieldsL P ops S oi v (a.put ok.dst u) := fun u => (yieldsL_put hsi h3).2 hy
  unfold wpOp at h ⊢
  simp only [hk] at h ⊢
  rw [wanted_put ok a oi.dst v h1] at h
  by_cases hw : Region.wanted ok (yielded ops a.tmps) = true
  · rw [if_pos hw] at h ⊢
    rcases h with h | ⟨_, hl⟩
    case inr => exact absurd hl nolet
    refine .inl ?_
    unfold Oper.wp at h ⊢
    rw [execOp_put ok hsk a oi.dst v h1] at h
    generalize (execOp a.eval ok).run P w = r at h ⊢
    cases r with
    | ok n w' =>
      cases n <;> simp only [Oper.upon] at h ⊢
      case value u => exact ⟨keep u, by rw [← Act.put_comm a v u h2]; exact h⟩
      case skip => exact ⟨keep _, by rw [← Act.put_comm a v undef h2]; exact h⟩
      case defer d => exact ⟨(yieldsL_put hsi h3).2 (hy.of_same rfl rfl), by rw [← Act.put_comm _ v undef h2, ← Act.put_defers]; exact h⟩
      case enter f args =>
        refine h.mono fun e w'' he => ?_
        cases e with
        | returned u => exact ⟨keep u, by rw [← Act.put_comm a v u h2]; exact he⟩
        | panicked c => exact he
        | outgrown => exact he
      case row row args => exact h.mono fun u w'' he => ⟨keep u, by rw [← Act.put_comm a v u h2]; exact he⟩
    | halt x w' => cases x <;> simp only [Oper.upon] at h ⊢ <;> exact h
  · rw [if_neg hw] at h ⊢
    exact ⟨keep _, by rw [← Act.put_comm a v undef h2]; exact h⟩

/-- An operation that changes the world, and one apart from it that yields a value wherever S holds: the second may come first. -/
theorem wpOp_swap {Q : Exit → Act → World → Prop} {k : Nat} {ok oi : Oper} (hk : ops[k]? = some ok) (hap : ok.apart ops oi = true) (hsi : ∀ cs b, oi.op ≠ .select cs b) (hsk : ∀ cs b, ok.op ≠ .select cs b)
    {K : Act → World → Prop} {a : Act} {w : World} (hS : S w)
    (h : wpOp P ops (OnlyN Q) k (fun a' w' => ∃ u, YieldsL P ops S oi u a' ∧ K (a'.put oi.dst u) w') a w) :
    ∃ u, YieldsL P ops S oi u a ∧ wpOp P ops (OnlyN Q) k K (a.put oi.dst u) w := by
  obtain ⟨h1, h2, h3⟩ := Oper.apart_spec hap
  have nolet : ¬ LetsOut (OnlyN Q) := fun ⟨_, _, hh⟩ => hh
  have hcomm : ∀ (a : Act) (v u : Value), (a.put ok.dst v).put oi.dst u = (a.put oi.dst u).put ok.dst v := fun a v u => Act.put_comm a v u h2
  have hyp : ∀ (a : Act) (v u : Value), YieldsL P ops S oi u (a.put ok.dst v) → YieldsL P ops S oi u a := fun a v u hy => (yieldsL_put hsi h1).1 hy
  have hwant : ∀ u, Region.wanted ok (yielded ops (a.put oi.dst u).tmps) = Region.wanted ok (yielded ops a.tmps) := fun u => wanted_put ok a oi.dst u h3
  have hexec : ∀ u, execOp (a.put oi.dst u).eval ok = execOp a.eval ok := fun u => execOp_put ok hsk a oi.dst u h3
  unfold wpOp at h ⊢
  simp only [hk] at h ⊢
  simp only [hwant]
  by_cases hw : Region.wanted ok (yielded ops a.tmps) = true
  · simp only [hw, if_true] at h ⊢
    rcases h with h | ⟨_, hl⟩
    case inr => exact absurd hl nolet
    unfold Oper.wp at h ⊢
    simp only [hexec]
    generalize (execOp a.eval ok).run P w = r at h ⊢
    cases r with
    | ok n w' =>
      cases n <;> simp only [Oper.upon] at h ⊢
      case value v =>
        obtain ⟨u, hy, hK⟩ := h
        exact ⟨u, hyp _ _ _ hy, .inl (by rw [← hcomm]; exact hK)⟩
      case skip =>
        obtain ⟨u, hy, hK⟩ := h
        exact ⟨u, hyp _ _ _ hy, .inl (by rw [← hcomm]; exact hK)⟩
      case defer d =>
        obtain ⟨u, hy, hK⟩ := h
        refine ⟨u, (hyp _ _ _ hy).of_same rfl rfl, .inl ?_⟩
        rw [Act.put_defers, ← hcomm]
        exact hK
      case enter f args =>
        obtain ⟨e, w2, fr, hR, _⟩ := h []
        cases e with
        | returned v0 =>
          obtain ⟨u0, hy0, _⟩ := hR
          refine ⟨u0, hyp _ _ _ hy0, .inl (h.mono fun e w3 he => ?_)⟩
          cases e with
          | returned v =>
            obtain ⟨u, hy, hK⟩ := he
            have : u = u0 := yieldsL_unique hS (hyp _ _ _ hy) (hyp _ _ _ hy0)
            subst this
            show K _ _
            rw [← hcomm]
            exact hK
          | panicked c => exact he
          | outgrown => exact he
        | panicked c => exact hR.elim
        | outgrown => exact absurd hR nolet
      case row row args =>
        obtain ⟨v0, w2, hR, _⟩ := h default []
        obtain ⟨u0, hy0, _⟩ := hR
        refine ⟨u0, hyp _ _ _ hy0, .inl (h.mono fun v w3 he => ?_)⟩
        obtain ⟨u, hy, hK⟩ := he
        have : u = u0 := yieldsL_unique hS (hyp _ _ _ hy) (hyp _ _ _ hy0)
        subst this
        rw [← hcomm]
        exact hK
    | halt x w' =>
      cases x <;> simp only [Oper.upon] at h
      case panic v => exact h.elim
  · simp only [hw] at h ⊢
    obtain ⟨u, hy, hK⟩ := h
    exact ⟨u, hyp _ _ _ hy, by simp only [Bool.false_eq_true, if_false]; rw [← hcomm]; exact hK⟩

variable {Q : Exit → Act → World → Prop}

/-- An operation that yields a value and is ready may be taken out of the walk. -/
theorem lexP_light {fs : Cls} (hc : Chain fs md ops) : ∀ (L : List Nat) (a : Act) (w : World), S w → lexP fs P ops S Q L a w → L.Pairwise (· < ·) → ∀ i ∈ L, ∀ oi, ops[i]? = some oi → liteB fs oi = true → Rdy md ops L i →
    ∃ u, YieldsL P ops S oi u a ∧ lexP fs P ops S Q (L.erase i) (a.put oi.dst u) w
  | [], _, _, _, _, _, i, hi, _, _, _, _ => by cases hi
  | k :: L, a, w, hS, h, hp, i, hi, oi, hoi, hli, hr => by
    obtain ⟨ok, hk, h⟩ := h
    by_cases hik : i = k
    · subst hik
      have e : ok = oi := Option.some.inj (hk.symm.trans hoi)
      subst e
      rw [if_pos hli] at h
      obtain ⟨v, hy, hX⟩ := h
      exact ⟨v, hy, by rw [List.erase_cons_head]; exact hX⟩
    · have hiL : i ∈ L := (List.mem_cons.1 hi).resolve_left hik
      have hp' := List.pairwise_cons.1 hp
      have hki : k < i := hp'.1 i hiL
      have hrL : Rdy md ops L i := fun x hx => hr x (List.mem_cons_of_mem _ hx)
      have hap := hc.apart k i ok oi hk hoi hki (hr k (List.mem_cons_self ..))
      obtain ⟨h1, h2, h3⟩ := Oper.apart_spec hap
      have hsi := fun cs b => hc.sel i oi cs b hoi
      have hsk := fun cs b => hc.sel k ok cs b hk
      have her : (k :: L).erase i = k :: L.erase i := List.erase_cons_tail (by simpa using fun e : k = i => hik e.symm)
      rw [her]
      by_cases hlk : liteB fs ok = true
      · rw [if_pos hlk] at h
        obtain ⟨v, hy, hX⟩ := h
        obtain ⟨u, hyu, hX2⟩ := lexP_light hc L _ w hS hX hp'.2 i hiL oi hoi hli hrL
        refine ⟨u, (yieldsL_put hsi h1).1 hyu, ok, hk, ?_⟩
        rw [if_pos hlk]
        exact ⟨v, (yieldsL_put hsk h3).2 hy, by rw [← Act.put_comm a v u h2]; exact hX2⟩
      · rw [if_neg hlk] at h
        have hm := wpOp_mono (K' := fun a' w' => ∃ u, YieldsL P ops S oi u a' ∧ (S w' ∧ lexP fs P ops S Q (L.erase i) (a'.put oi.dst u) w')) (fun a' w' ⟨hS', hX⟩ =>
          let ⟨u, hyu, hX2⟩ := lexP_light hc L a' w' hS' hX hp'.2 i hiL oi hoi hli hrL
          ⟨u, hyu, hS', hX2⟩) h
        obtain ⟨u, hy, hw⟩ := wpOp_swap (K := fun a' w' => S w' ∧ lexP fs P ops S Q (L.erase i) a' w') hk hap hsi hsk hS hm
        refine ⟨u, hy, ok, hk, ?_⟩
        rw [if_neg hlk]
        exact hw

/-- Any other operation that is ready is the first of its make. -/
theorem lexP_heavy {fs : Cls} (hc : Chain fs md ops) : ∀ (L : List Nat) (a : Act) (w : World), S w → lexP fs P ops S Q L a w → L.Pairwise (· < ·) →
    ∀ i ∈ L, ∀ oi, ops[i]? = some oi → liteB fs oi = false → Rdy md ops L i → (∀ k ∈ L, k < i → ∀ ok, ops[k]? = some ok → liteB fs ok = true) →
    wpOp P ops (OnlyN Q) i (fun a' w' => S w' ∧ lexP fs P ops S Q (L.erase i) a' w') a w
  | [], _, _, _, _, _, i, hi, _, _, _, _, _ => by cases hi
  | k :: L, a, w, hS, h, hp, i, hi, oi, hoi, hli, hr, hall => by
    obtain ⟨ok, hk, h⟩ := h
    by_cases hik : i = k
    · subst hik
      have e : ok = oi := Option.some.inj (hk.symm.trans hoi)
      subst e
      rw [if_neg (by simp [hli])] at h
      rw [List.erase_cons_head]
      exact h
    · have hiL : i ∈ L := (List.mem_cons.1 hi).resolve_left hik
      have hp' := List.pairwise_cons.1 hp
      have hki : k < i := hp'.1 i hiL
      have hrL : Rdy md ops L i := fun x hx => hr x (List.mem_cons_of_mem _ hx)
      have hap := hc.apart k i ok oi hk hoi hki (hr k (List.mem_cons_self ..))
      have hsi := fun cs b => hc.sel i oi cs b hoi
      have hsk := fun cs b => hc.sel k ok cs b hk
      have her : (k :: L).erase i = k :: L.erase i := List.erase_cons_tail (by simpa using fun e : k = i => hik e.symm)
      rw [her]
      have hlk : liteB fs ok = true := hall k (List.mem_cons_self ..) hki ok hk
      rw [if_pos hlk] at h
      obtain ⟨v, hy, hX⟩ := h
      have ih := lexP_heavy hc L (a.put ok.dst v) w hS hX hp'.2 i hiL oi hoi hli hrL (fun k' hk' => hall k' (List.mem_cons_of_mem _ hk'))
      have h2 := wpOp_later hoi hap hsk hsi hy ih
      refine wpOp_mono (fun a' w' ⟨hy', hS', hX'⟩ => ⟨hS', ok, hk, ?_⟩) h2
      rw [if_pos hlk]
      exact ⟨v, hy', hX'⟩

theorem wpAnyH_of_lexP {fs : Cls} (hc : Chain fs md ops) : ∀ (n : Nat) (L : List Nat) (listed : Array Bool) (a : Act) (w : World), L.length = n → S w → lexP fs P ops S Q L a w → L.Pairwise (· < ·) → UpC md ops L →
    (∀ j, j < ops.size → (listed.getD j true = false ↔ j ∈ L)) → (∀ j ∈ L, j < ops.size) → listed.size = ops.size → wpAnyH P md ops (OnlyN Q) S n listed a w
  | 0, L, listed, a, w, hn, hS, h, hp, hu, hl, hlt, hsz => by
    obtain rfl : L = [] := List.eq_nil_of_length_eq_zero hn
    refine ⟨?_, h⟩
    refine List.eq_nil_iff_forall_not_mem.2 fun j hj => ?_
    obtain ⟨h1, o, ho, _⟩ := mem_ready.1 hj
    have := (hl j (Array.getElem?_eq_some_iff.1 ho).1).1 h1
    cases this
  | n + 1, L, listed, a, w, hn, hS, h, hp, hu, hl, hlt, hsz => by
    have hready : ∀ i, i ∈ Region.ready md ops listed ↔ i ∈ L ∧ Rdy md ops L i := by
      intro i
      rw [mem_ready]
      constructor
      · rintro ⟨h1, o, ho, hall⟩
        have hi := (Array.getElem?_eq_some_iff.1 ho).1
        refine ⟨(hl i hi).1 h1, fun k hk => ?_⟩
        cases hw : waits md ops i k with
        | false => rfl
        | true =>
          exfalso
          unfold waits at hw
          rw [ho] at hw
          obtain ⟨e, he, hb⟩ := Array.any_eq_true'.1 hw
          simp only [Bool.and_eq_true, beq_iff_eq] at hb
          have h2 := hall e he hb.1
          rw [hb.2] at h2
          have h3 := (hl k (hlt k hk)).2 hk
          have hks : k < listed.size := by rw [hsz]; exact hlt k hk
          simp [hks] at h2 h3
          rw [h2] at h3
          cases h3
      · rintro ⟨hi, hr⟩
        have hilt := hlt i hi
        refine ⟨(hl i hilt).2 hi, ops[i], by simp [hilt], fun e he hb => ?_⟩
        have hne : e.on ∉ L := fun hm => by
          have := waits_of (ops := ops) (md := md) (j := i) (oj := ops[i]) (by simp [hilt]) he hb rfl
          rw [hr _ hm] at this
          cases this
        rcases Nat.lt_or_ge e.on ops.size with h' | h'
        · have h4 : ¬ listed.getD e.on true = false := fun hh => hne ((hl _ h').1 hh)
          have hks : e.on < listed.size := by rw [hsz]; exact h'
          simp [hks] at h4 ⊢
          exact h4
        · exfalso
          have := hc.dir i e.on (waits_of (ops := ops) (md := md) (j := i) (oj := ops[i]) (by simp [hilt]) he hb rfl)
          omega
    refine ⟨fun h0 => ?_, fun i hi => ?_⟩
    · exfalso
      match L, hn, hp with
      | k :: L', _, hp =>
        have : k ∈ Region.ready md ops listed := (hready k).2 ⟨List.mem_cons_self .., fun x hx => by
          cases hw : waits md ops k x with
          | false => rfl
          | true =>
            exfalso
            have hd := hc.dir k x hw
            rcases List.mem_cons.1 hx with rfl | hx
            · omega
            · have := (List.pairwise_cons.1 hp).1 x hx; omega⟩
        rw [h0] at this
        cases this
    · obtain ⟨hiL, hr⟩ := (hready i).1 hi
      have hilt := hlt i hiL
      obtain ⟨oi, hoi⟩ : ∃ oi, ops[i]? = some oi := ⟨ops[i], by simp [hilt]⟩
      have hlen : (L.erase i).length = n := by rw [List.length_erase_of_mem hiL, hn]; rfl
      have hnd : L.Nodup := hp.imp (fun h => Nat.ne_of_lt h)
      have hp2 : (L.erase i).Pairwise (· < ·) := hp.sublist List.erase_sublist
      have hu2 : UpC md ops (L.erase i) := fun j x hw hx => by
        have hxL := List.mem_of_mem_erase hx
        have hjL := hu j x hw hxL
        have hji : j ≠ i := fun e => by subst e; rw [hr x hxL] at hw; cases hw
        exact (List.mem_erase_of_ne hji).2 hjL
      have hl2 : ∀ j, j < ops.size → ((listed.setIfInBounds i true).getD j true = false ↔ j ∈ L.erase i) := fun j hj => by
        by_cases hji : i = j
        · subst hji
          have : (listed.setIfInBounds i true).getD i true = true := by
            rcases Nat.lt_or_ge i listed.size with h' | h' <;> simp [h']
          rw [this]
          simp [List.Nodup.not_mem_erase hnd]
        · rw [getD_set_ne true hji, hl j hj, List.mem_erase_of_ne (fun e => hji e.symm)]
      have hlt2 : ∀ j ∈ L.erase i, j < ops.size := fun j hj => hlt j (List.mem_of_mem_erase hj)
      have hrec := fun a' w' (hS' : S w') hX => wpAnyH_of_lexP hc n (L.erase i) (listed.setIfInBounds i true) a' w' hlen hS' hX hp2 hu2 hl2 hlt2 (by simpa using hsz)
      cases hli : liteB fs oi with
      | true =>
        obtain ⟨u, hy, hX⟩ := lexP_light hc L a w hS h hp i hiL oi hoi hli hr
        exact hy.wpOp hoi hS ⟨hS, hrec _ _ hS hX⟩
      | false =>
        have hX := lexP_heavy hc L a w hS h hp i hiL oi hoi hli hr (fun k hk hlt' ok hok => by
          cases hlk : liteB fs ok with
          | true => rfl
          | false => exact (reach_not hu (hc.chain k i ok oi hok hoi hlt' hlk hli) hk hr).elim)
        exact wpOp_mono (fun a' w' ⟨hS', hX'⟩ => ⟨hS', hrec _ _ hS' hX'⟩) hX

/-- THE WALK over the operations themselves. -/
def lexW (fs : Cls) (P : Program) (ops : Array Oper) (S : World → Prop) (Q : Exit → Act → World → Prop) : List Oper → Act → World → Prop
  | [], a, w => Q .normal a w
  | o :: rest, a, w => if liteB fs o = true then (if Region.wanted o (yielded ops a.tmps) then ∃ v, (∀ w', S w' → LRun P o a w' v) ∧ lexW fs P ops S Q rest (a.put o.dst v) w else lexW fs P ops S Q rest (a.put o.dst undef) w)
    else if Region.wanted o (yielded ops a.tmps) then o.wp P a w (fun a' w' => S w' ∧ lexW fs P ops S Q rest a' w') (OnlyN Q) else S w ∧ lexW fs P ops S Q rest (a.put o.dst undef) w

theorem lexP_of_lexW {fs : Cls} : ∀ (l : List Oper) (k : Nat) (a : Act) (w : World), (∀ j, l[j]? = ops[k + j]?) → lexW fs P ops S Q l a w → lexP fs P ops S Q (List.range' k l.length) a w
  | [], _, _, _, _, h => h
  | o :: l, k, a, w, hl, h => by
    have h0 : ops[k]? = some o := by simpa using (hl 0).symm
    have hl' : ∀ j, l[j]? = ops[k + 1 + j]? := fun j => by have := hl (j + 1); simpa [Nat.add_assoc, Nat.add_comm 1 j] using this
    simp only [List.length_cons, List.range'_succ]
    refine ⟨o, h0, ?_⟩
    simp only [lexW] at h
    by_cases hlt : liteB fs o = true
    · rw [if_pos hlt] at h ⊢
      by_cases hw : Region.wanted o (yielded ops a.tmps) = true
      · rw [if_pos hw] at h
        obtain ⟨v, hv, hX⟩ := h
        exact ⟨v, .inl ⟨hw, hv⟩, lexP_of_lexW l (k + 1) _ _ hl' hX⟩
      · rw [if_neg hw] at h
        exact ⟨undef, .inr ⟨by simpa using hw, rfl⟩, lexP_of_lexW l (k + 1) _ _ hl' h⟩
    · rw [if_neg hlt] at h ⊢
      unfold wpOp
      simp only [h0]
      by_cases hw : Region.wanted o (yielded ops a.tmps) = true
      · rw [if_pos hw] at h ⊢
        exact .inl (Oper.wp_mono (fun a' w' ⟨hS', hX⟩ => ⟨hS', lexP_of_lexW l (k + 1) a' w' hl' hX⟩) h)
      · rw [if_neg hw] at h ⊢
        exact ⟨h.1, lexP_of_lexW l (k + 1) _ _ hl' h.2⟩

/-- **THE LAW**: one walk of the region in the order of the text. -/
theorem wp_region_lex (fs : Cls) {id : Nat} {a : Act} {w : World} {l : List Oper} (S : World → Prop) (hm : P.follows .mixedOrders = true) (hB : lexChainB fs .any l.toArray = true) (hS : S w.drew)
    (h : lexW fs P l.toArray S Q l a w.drew) : (Code.region id l.toArray true).wp P Q a w := by
  refine Code.wp_mono OnlyN.imp (wp_region_any hm ?_)
  have hc := chain_of hB
  have hX := lexP_of_lexW (ops := l.toArray) l 0 a w.drew (fun j => by simp) h
  rw [← List.range_eq_range'] at hX
  have h1 := wpAnyH_of_lexP (md := .any) (P := P) (Q := Q) hc l.toArray.size (List.range l.length) (Array.replicate l.toArray.size false) a w.drew (by simp) hS hX List.pairwise_lt_range
    (fun j i hw _ => List.mem_range.2 (by simpa using waits_lt hw)) (fun j hj => by
      have : j < l.length := by simpa using hj
      simp [this]) (fun j hj => by simpa using hj) (by simp)
  exact wpAny_of_held _ _ _ _ h1

/-- The same, S behind a name. -/
theorem wp_region_lexA (fs : Cls) {id : Nat} {a : Act} {w : World} {l : List Oper} (S : World → Prop) (hm : P.follows .mixedOrders = true) (hB : lexChainB fs .any l.toArray = true) (hS : S w.drew)
    (h : ∀ S' : World → Prop, (∀ x : Wd S', S x.w) → (∀ w', S w' → S' w') → Nonempty (Wd S') → lexW fs P l.toArray S' Q l a w.drew) : (Code.region id l.toArray true).wp P Q a w :=
  wp_region_lex fs S hm hB hS (h S (fun x => x.h) (fun _ hh => hh) ⟨⟨w.drew, hS⟩⟩)

/-- A row of operations that only yield values, by the kit's quiet walk. -/
theorem lexW_light {fs : Cls} {l : List Oper} (n : Nat) (hl : (l.take n).all (fun o => lightB o && !heavyB fs.hs o) = true) {a : Act} {w : World} (h : wpQuiet P ops (InS S) (fun a' => lexW fs P ops S Q (l.drop n) a' w) (l.take n) a) : lexW fs P ops S Q l a w := by
  induction n generalizing l a with
  | zero => simpa [wpQuiet] using h
  | succ n ih =>
    cases l with
    | nil => simpa [wpQuiet] using h
    | cons o l =>
      simp only [List.take_succ_cons, List.drop_succ_cons, List.all_cons, Bool.and_eq_true, wpQuiet] at h hl
      simp only [lexW]
      rw [if_pos (by have h1 := hl.1.1; have h2 := hl.1.2; simp only [liteB, h1, Bool.true_or, Bool.true_and]; simpa using h2)]
      by_cases hw : Region.wanted o (yielded ops a.tmps) = true
      · rw [if_pos hw] at h ⊢
        obtain ⟨v, hv, hX⟩ := quiet_yields hl.1.1 h
        exact ⟨v, fun w' hw' => .inl (hv w' hw'), ih hl.2 hX⟩
      · rw [if_neg hw] at h ⊢
        exact ih hl.2 h

theorem run_callv {o : Oper} {a : Act} {f : FuncId} {xs : Array Operand} {tys : Array TypeId} {fn : Func} {c : Code} (ho : o.op = .call ⟨.value (.func f), xs, tys⟩) (hf : P.funcs[f]? = some fn) (hb : fn.body = some c) (hn : (fn.name == "runtime.NumGoroutine") = false) (w : World) :
    (execOp a.eval o).run P w = .ok (.enter f (xs.map a.eval)) w := by
  unfold execOp
  rw [ho]
  have hn' : ¬ fn.name = "runtime.NumGoroutine" := by simpa using hn
  simp [resolve, Deferred.ofValue, Act.eval, invoke, callFunc, hf, hb, hn']

/-- A call of a function that only computes. -/
theorem lexW_pure {fs : Cls} {o : Oper} {rest : List Oper} {a : Act} {w : World} {f : FuncId} {args : Array Value} {v : Value} {xs : Array Operand} {tys : Array TypeId} {fn : Func} {c : Code}
    (hl : (pureB fs.fs o && !heavyB fs.hs o) = true) (hw : Region.wanted o (yielded ops a.tmps) = true) (ho : o.op = .call ⟨.value (.func f), xs, tys⟩) (hf : P.funcs[f]? = some fn) (hb : fn.body = some c) (hn : (fn.name == "runtime.NumGoroutine") = false)
    (hc : ∀ x : Wd S, Calls P f args x.w fun e w' => e = .returned v ∧ x.w = w') (ha : xs.map a.eval = args) (h : lexW fs P ops S Q rest (a.put o.dst v) w) : lexW fs P ops S Q (o :: rest) a w := by
  simp only [lexW]
  rw [if_pos (by simp only [Bool.and_eq_true] at hl; simp only [liteB, hl.1, hl.2, Bool.or_true, Bool.true_and]), if_pos hw]
  exact ⟨v, fun w' hS => .inr ⟨f, args, by rw [run_callv ho hf hb hn, ha], (hc ⟨w', hS⟩).mono fun e w'' ⟨he, hw''⟩ => ⟨he, hw''.symm⟩⟩, h⟩

/-- A call that does not come up. -/
theorem lexW_skip {fs : Cls} {o : Oper} {rest : List Oper} {a : Act} {w : World} (hl : (pureB fs.fs o && !heavyB fs.hs o) = true) (hw : Region.wanted o (yielded ops a.tmps) = false) (h : lexW fs P ops S Q rest (a.put o.dst undef) w) : lexW fs P ops S Q (o :: rest) a w := by
  simp only [lexW]
  rw [if_pos (by simp only [Bool.and_eq_true] at hl; simp only [liteB, hl.1, hl.2, Bool.or_true, Bool.true_and]), if_neg (by simp [hw])]
  exact h

/-- What follows an operation of the chain. -/
def lexQ (fs : Cls) (P : Program) (ops : Array Oper) (S : World → Prop) (Q : Exit → Act → World → Prop) (rest : List Oper) : Exit → Act → World → Prop
  | .normal, a, w => S w ∧ lexW fs P ops S Q rest a w
  | _, _, _ => False

theorem lexQ_more {fs : Cls} {rest : List Oper} {a : Act} {w : World} (hS : S w) (h : lexW fs P ops S Q rest a w) : lexQ fs P ops S Q rest .normal a w := ⟨hS, h⟩
theorem lexQ_done {fs : Cls} {a : Act} {w : World} (hS : S w) (h : Q .normal a w) : lexQ fs P ops S Q [] .normal a w := ⟨hS, h⟩
theorem lexW_done {fs : Cls} {a : Act} {w : World} (h : Q .normal a w) : lexW fs P ops S Q [] a w := h

/-- One operation of the chain, by the kit's walk. -/
theorem lexW_heavy {fs : Cls} {o : Oper} {rest : List Oper} (hl : liteB fs o = false) {a : Act} {w : World} (h : wpList P ops (lexQ fs P ops S Q rest) [o] a w) : lexW fs P ops S Q (o :: rest) a w := by
  simp only [lexW]
  rw [if_neg (by simp [hl])]
  simp only [wpList] at h
  by_cases hw : Region.wanted o (yielded ops a.tmps) = true
  · rw [if_pos hw] at h ⊢
    rcases h with h | ⟨_, _, _, hh⟩
    · refine Oper.wp_mono (K := lexQ fs P ops S Q rest .normal) (fun a w h => h) ?_
      unfold Oper.wp at h ⊢
      generalize (execOp a.eval o).run P w = r at h ⊢
      cases r with
      | ok n w' =>
        cases n <;> simp only [Oper.upon] at h ⊢ <;> first
          | exact h
          | exact h.mono (fun e w'' he => by
              cases e with
              | returned v => exact he
              | panicked c => exact he.elim
              | outgrown => exact absurd he (fun ⟨_, _, hh⟩ => hh))
      | halt x w' => cases x <;> simp only [Oper.upon] at h ⊢ <;> exact h
    · exact hh.elim
  · rw [if_neg hw] at h ⊢
    exact h

end

end Go.Proofs.YtbefkkefglkleaaDoor
