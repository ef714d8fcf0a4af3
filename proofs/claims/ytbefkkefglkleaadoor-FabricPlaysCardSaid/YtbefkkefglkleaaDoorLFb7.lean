/- The calls of FabricPlays, as they come as an argument. -/
import Derived.Test.YtbefkkefglkleaaDoorMfArg
import Derived.Test.YtbefkkefglkleaaDoorRf5
import Derived.Test.YtbefkkefglkleaaDoorRf8
namespace Go.Proofs.YtbefkkefglkleaaDoor
section
open Go.ChangeShapes Go.WideShapes Go.Deep Go.RowKit

set_option maxRecDepth 100000 in
/-- The cells of a slice of messages that can be read. -/
theorem msgs_cs {H : Type} {enc : TypeId × Value → H} {W : World} {cs0 : List Value} {fuel : Nat} {x : DataW H × List MemPlace} (hf : DataW.trod enc Tryd.prog W 0 (fun _ => true) true fuel 44 cs0 = some x) : ∃ v n l, cs0 = [v] ∧ MsgsAt W v n l := by
  rcases open_slice Tryd.underlying44 hf with ⟨hcs, _⟩ | ⟨a, len', cap', q, nn, D, Pl, hcs, _, hl, hm, hmm, hx, hi⟩
  · rw [hcs]
    exact ⟨_, 0, [], rfl, rfl, by unfold maxLen; omega, fun m hm => (by cases hm), ⟨rfl, none, 0, rfl, fun h => absurd h (by omega)⟩, fun p m c e => by simp only [Value.slice.injEq] at e; omega⟩
  · rw [hcs]
    simp only [if_true] at hmm
    subst hmm
    have hask : ∀ i, i < len' → ∃ e : MsgV, e.fit ∧ ∀ (j : Nat) u, e.cs[j]? = some u → W.cell? (a.add (i * 13 + j)) = some u := fun i hil => by
      obtain ⟨cs', hc, ht⟩ := hi i (by omega)
      obtain ⟨_, hcl, hat⟩ := World.cells?_some hc
      rw [nCellsMsg] at hcl hat
      obtain ⟨e, rfl, hfit⟩ := msg_cells hcl ht
      refine ⟨e, hfit, fun j u hu => ?_⟩
      have hj : j < 13 := by
        have := (List.getElem?_eq_some_iff.1 hu).1
        simpa [MsgV.cs] using this
      rw [← Go.Deep.add_add, hat j hj, hu]
    by_cases h0 : len' = 0
    · subst h0
      exact ⟨_, 0, [], rfl, rfl, by unfold maxLen; omega, fun m hm => (by cases hm), ⟨rfl, some a, q, rfl, fun h => absurd h (by omega)⟩, fun p m c e => by simp only [Value.slice.injEq] at e; omega⟩
    · obtain ⟨e0, _, h00⟩ := hask 0 (by omega)
      have hc0 := h00 0 _ rfl
      obtain ⟨b, off, sp⟩ := a
      have hsp : sp = none := spot_none (a := Addr.add ⟨b, off, sp⟩ (0 * 13 + 0)) hc0
      subst hsp
      have hb := World.block_lt_of_cell? _ _ hc0
      refine ⟨_, len', (List.range len').map (fun i => if h : i < len' then (hask i h).choose else zeroM), rfl, by simp, by omega, fun m hm => ?_, ⟨by rw [flatM_length]; simp, some ⟨b, off, none⟩, q, rfl, fun _ => ⟨b, off, rfl, hb, ?_⟩⟩, fun p m c e => by simp only [Value.slice.injEq] at e; omega⟩
      · obtain ⟨i, hi', rfl⟩ := List.mem_map.1 hm
        have hil : i < len' := List.mem_range.1 hi'
        simp only [dif_pos hil]
        exact (hask i hil).choose_spec.1
      · refine flatM_row len' _ fun i c u hi' hc => ?_
        simp only [dif_pos hi'] at hc
        have := (hask i hi').choose_spec.2 c u hc
        rw [Addr.add_lit, ← Nat.add_assoc] at this
        exact this

/-- A call. -/
structure AskF where
  kind : Int
  pool : Int
  core : Int
  k : Int
  lv : Value
  ln : Nat
  ll : List MsgV
def AskF.cs (a : AskF) : List Value := [.int .i64 a.kind, .int .i64 a.pool, .int .i64 a.core, .int .i64 a.k, a.lv]
/-- Calls behind a slice. -/
def AsksF (w : World) (v : Value) (n : Nat) (f : Nat → AskF) : Prop :=
  n ≤ maxLen ∧ ∃ p c, v = .slice p n c ∧ ∀ i, i < n → MsgsAt w (f i).lv (f i).ln (f i).ll ∧ ∃ b off, p = some ⟨b, off, none⟩ ∧ b < w.heap.size ∧ ∀ (j : Nat) u, (f i).cs[j]? = some u → w.cell? ⟨b, off + (i * 5 + j), none⟩ = some u
theorem nCellsAskF : Tryd.prog.cellsOf 46 = 5 := by kernel_rfl
theorem nCellsSM : Tryd.prog.cellsOf 44 = 1 := by kernel_rfl
set_option maxRecDepth 100000 in
theorem askF_cells {H : Type} {enc : TypeId × Value → H} {W : World} {n : Nat} {cs : List Value} {x : DataW H × List MemPlace} (hsz : cs.length = 5) (h : DataW.trod enc Tryd.prog W 0 (fun _ => true) true n 46 cs = some x) : ∃ e : AskF, cs = e.cs ∧ MsgsAt W e.lv e.ln e.ll := by
  obtain ⟨xs, n, _, _, hl, hxl, hfld⟩ := DataW.trod_struct Tryd.underlying46 h
  have hxl : xs.length = 5 := hxl
  have one : ∀ (j : Nat) (f : Field) (K : IntKind), j < 5 → Tryd.prog.underlying f.type = some (.int K) → Tryd.prog.cellsOf f.type = 1 → f.offset = j → DataW.trod enc Tryd.prog W 0 (fun _ => true) true n f.type ((cs.drop f.offset).take (Tryd.prog.cellsOf f.type)) = xs[j]? →
      ∃ z : Int, (cs.drop j).take 1 = [.int K z] := fun j f K hj9 ht hc ho h => by
    rw [ho, hc, List.getElem?_eq_getElem (show j < xs.length by omega)] at h
    obtain ⟨z, e0, _, _⟩ := DataW.trod_int ht h
    exact ⟨z, e0⟩
  obtain ⟨z0, e0⟩ := one 0 _ .i64 (by omega) Tryd.underlying3 nCellsI1 rfl (hfld 0 _ rfl)
  obtain ⟨z1, e1⟩ := one 1 _ .i64 (by omega) Tryd.underlying3 nCellsI1 rfl (hfld 1 _ rfl)
  obtain ⟨z2, e2⟩ := one 2 _ .i64 (by omega) Tryd.underlying3 nCellsI1 rfl (hfld 2 _ rfl)
  obtain ⟨z3, e3⟩ := one 3 _ .i64 (by omega) Tryd.underlying3 nCellsI1 rfl (hfld 3 _ rfl)
  have h4 : DataW.trod enc Tryd.prog W 0 (fun _ => true) true n 44 ((cs.drop 4).take (Tryd.prog.cellsOf 44)) = xs[4]? := hfld 4 _ rfl
  rw [nCellsSM, List.getElem?_eq_getElem (show 4 < xs.length by omega)] at h4
  obtain ⟨v, m, l, e4, hm⟩ := msgs_cs h4
  clear one hfld hl h h4
  match cs, hsz with
  | [a0, a1, a2, a3, a4], _ =>
    simp only [List.drop_zero, List.drop_succ_cons, List.take_succ_cons, List.take_zero, List.cons.injEq, and_true] at e0 e1 e2 e3 e4
    subst e0 e1 e2 e3 e4
    exact ⟨⟨z0, z1, z2, z3, a4, m, l⟩, rfl, hm⟩

set_option maxRecDepth 100000 in
theorem asksF_of_trod {H : Type} {enc : TypeId × Value → H} {W : World} {base : Nat} {v : Value} {d : DataW H} {p : List MemPlace} (hv : Value.okWide Tryd.prog W .any base 40 v) (hj : DataW.Trod enc Tryd.prog W 0 (fun _ => true) true 40 v d p)
    (_hlt : ∀ x ∈ p, x.block < W.heap.size) : ∃ n f, AsksF W v n f := by
  obtain ⟨a0, len, cap, rfl⟩ := okWide_slice Tryd.underlying40 hv
  obtain ⟨fuel, hf⟩ := hj
  rcases open_slice Tryd.underlying40 hf with ⟨hcs, _⟩ | ⟨a, len', cap', q, nn, D, Pl, hcs, _, hl, hm, hmm, hx, hi⟩
  · simp only [Value.cells, List.cons.injEq, and_true] at hcs
    rw [hcs]
    exact ⟨0, fun _ => ⟨0, 0, 0, 0, .nilIface, 0, []⟩, by omega, none, 0, rfl, fun i hi => by omega⟩
  · simp only [Value.cells, List.cons.injEq, and_true] at hcs
    rw [hcs]
    simp only [if_true] at hmm
    subst hmm
    have hask : ∀ i, i < len' → ∃ e : AskF, MsgsAt W e.lv e.ln e.ll ∧ ∀ (j : Nat) u, e.cs[j]? = some u → W.cell? (a.add (i * 5 + j)) = some u := fun i hil => by
      obtain ⟨cs', hc, ht⟩ := hi i (by omega)
      obtain ⟨_, hcl, hat⟩ := World.cells?_some hc
      rw [nCellsAskF] at hcl hat
      obtain ⟨e, rfl, hme⟩ := askF_cells hcl ht
      refine ⟨e, hme, fun j u hu => ?_⟩
      have hj : j < 5 := by
        have := (List.getElem?_eq_some_iff.1 hu).1
        simpa [AskF.cs] using this
      rw [← Go.Deep.add_add, hat j hj, hu]
    by_cases h0 : len' = 0
    · subst h0
      exact ⟨0, fun _ => ⟨0, 0, 0, 0, .nilIface, 0, []⟩, by omega, some a, q, rfl, fun i hi => by omega⟩
    · obtain ⟨e0, _, h00⟩ := hask 0 (by omega)
      have hc0 := h00 0 _ rfl
      obtain ⟨b, off, sp⟩ := a
      have hsp : sp = none := spot_none (a := Addr.add ⟨b, off, sp⟩ (0 * 5 + 0)) hc0
      subst hsp
      have hb := World.block_lt_of_cell? _ _ hc0
      refine ⟨len', fun i => if h : i < len' then (hask i h).choose else ⟨0, 0, 0, 0, .nilIface, 0, []⟩, by omega, some ⟨b, off, none⟩, q, rfl, fun i hil => ⟨?_, b, off, rfl, hb, fun j u hu => ?_⟩⟩
      · simp only [dif_pos hil]
        exact (hask i hil).choose_spec.1
      · simp only [dif_pos hil] at hu
        have := (hask i hil).choose_spec.2 j u hu
        rw [Addr.add_lit] at this
        exact this
end

section
open Go.RowKit Go.Extern.Stop Go.Stop Go.Extern

/-- Both in memory, no block shared; K the caller's blocks. -/
structure PlT (w : World) (b r br n : Nat) (room : Int) (E : List (Plc × Value)) (X : Nat → Value) (V : Nat → Nat → Value) (Ff Fg : Plc → List MsgV) (K : List Nat) (wr : World) : Prop where
  f : FbE w b r n room E Ff wr
  h : RfH br n room X wr
  g : RfB w n X V Fg wr
  d : ∀ q, FbOwn E r q → ¬ RfOwn n X V q ∧ q ≠ br
  d' : ∀ q, RfOwn n X V q → q ≠ b ∧ q ≠ br
  ne : b ≠ br
  lo : w.heap.size ≤ br
  k : ∀ q ∈ K, (¬ FbOwn E r q ∧ q ≠ b) ∧ (¬ RfOwn n X V q ∧ q ≠ br)
  kl : ∀ q ∈ K, w.heap.size ≤ q ∧ q < wr.heap.size
section
variable {w wr wx : World} {b r br n : Nat} {room : Int} {E : List (Plc × Value)} {X : Nat → Value} {V : Nat → Nat → Value} {Ff Fg : Plc → List MsgV} {K : List Nat}
theorem PlT.bel (h : PlT w b r br n room E X V Ff Fg K wr) (hb : Below wr.heap.size wr wx) : PlT w b r br n room E X V Ff Fg K wx :=
  ⟨h.f.bel hb, h.h.bel hb, h.g.bel hb, h.d, h.d', h.ne, h.lo, h.k, fun q hq => ⟨(h.kl q hq).1, Nat.lt_of_lt_of_le (h.kl q hq).2 hb.size⟩⟩
theorem PlT.below (h : PlT w b r br n room E X V Ff Fg K wr) : Below w.heap.size w wr := h.f.below
theorem PlT.add (h : PlT w b r br n room E X V Ff Fg K wr) (hb : Below wr.heap.size wr wx) (q : Nat) (hq : wr.heap.size ≤ q) (hq2 : q < wx.heap.size) : PlT w b r br n room E X V Ff Fg (q :: K) wx := by
  have h2 := h.bel hb
  have hs := h.below.size
  refine ⟨h2.f, h2.h, h2.g, h2.d, h2.d', h2.ne, h2.lo, fun k hk => ?_, fun k hk => ?_⟩
  · rcases List.mem_cons.1 hk with e | hk
    · subst e
      have h3 := h.f.lt.1
      have h4 := h.h.lt
      exact ⟨⟨fun ho => by have := (FbOwn.lt h.f ho).2; omega, by omega⟩, fun ho => by have := (h.g.lt ho).2; omega, by omega⟩
    · exact h.k k hk
  · rcases List.mem_cons.1 hk with e | hk
    · omega
    · exact h2.kl k hk
theorem PlT.sub {K' : List Nat} (h : PlT w b r br n room E X V Ff Fg K wr) (hs : ∀ q ∈ K', q ∈ K) : PlT w b r br n room E X V Ff Fg K' wr := ⟨h.f, h.h, h.g, h.d, h.d', h.ne, h.lo, fun q hq => h.k q (hs q hq), fun q hq => h.kl q (hs q hq)⟩
theorem PlT.mods (h : PlT w b r br n room E X V Ff Fg K wr) (hM : Mods (fun q => q ∈ K) wr wx) : PlT w b r br n room E X V Ff Fg K wx :=
  ⟨h.f.keep hM (fun hb => (h.k b hb).1.2 rfl) (fun hr => (h.k r hr).1.1 (.inl rfl)) (fun k g hg hS => (h.k g hS).1.1 (.inr ⟨k, hg⟩)) fun q hq => (h.kl q hq).1,
   (hM.block br h.h.lt fun hb => (h.k br hb).2.2 rfl).trans h.h,
   h.g.keep hM (fun q ho hS => (h.k q hS).2.1 ho) fun q hq => (h.kl q hq).1, h.d, h.d', h.ne, h.lo, h.k, fun q hq => ⟨(h.kl q hq).1, Nat.lt_of_lt_of_le (h.kl q hq).2 hM.size⟩⟩
theorem PlT.postF {F' : Plc → List MsgV} {d a : Nat} (h : PlT w b r br n room E X V Ff Fg K wr) (hp : FbPost w b r n room E Ff F' wr d a wx) : ∃ E', PlT w b r br n room E' X V F' Fg K wx ∧ Kp K wr wx ∧ totF E' F' + d = totF E Ff + a := by
  obtain ⟨E', h1, h2, h3, h4⟩ := hp
  have hlo : ∀ q, FbOwn E r q → w.heap.size ≤ q := fun q hq => (FbOwn.lt h.f hq).1
  refine ⟨E', ⟨h1, (h2.block br h.h.lt fun ho => (h.d br ho).2 rfl).trans h.h, h.g.keep h2 (fun q ho hS => (h.d q hS).1 ho) hlo, fun q hq => ?_, h.d', h.ne, h.lo, fun q hq => ⟨⟨fun ho => ?_, (h.k q hq).1.2⟩, (h.k q hq).2⟩, fun q hq => ⟨(h.kl q hq).1, Nat.lt_of_lt_of_le (h.kl q hq).2 h2.size⟩⟩, ⟨h2.size, fun q hq hl => h2.block q hl (h.k q hq).1.1⟩, h4⟩
  · rcases h3 q hq with e | e
    · exact h.d q e
    · have h5 := h.h.lt
      exact ⟨fun ho => by have := (h.g.lt ho).2; omega, by omega⟩
  · rcases h3 q ho with e | e
    · exact (h.k q hq).1.1 e
    · have := (h.kl q hq).2
      omega
theorem PlT.postG {F' : Plc → List MsgV} (h : PlT w b r br n room E X V Ff Fg K wr) (hp : RfPost w n X V F' wr wx) : ∃ V', PlT w b r br n room E X V' Ff F' K wx ∧ Kp K wr wx := by
  obtain ⟨V', h1, h2, h3⟩ := hp
  have hlo : ∀ q, RfOwn n X V q → w.heap.size ≤ q := fun q hq => (h.g.lt hq).1
  refine ⟨V', ⟨h.f.keep h2 (fun ho => (h.d' b ho).1 rfl) (fun ho => (h.d r (.inl rfl)).1 ho) (fun k g hg ho => (h.d g (.inr ⟨k, hg⟩)).1 ho) hlo, (h2.block br h.h.lt fun ho => (h.d' br ho).2 rfl).trans h.h, h1, fun q hq => ⟨fun ho => ?_, (h.d q hq).2⟩, fun q hq => ?_, h.ne, h.lo, fun q hq => ⟨(h.k q hq).1, ⟨fun ho => ?_, (h.k q hq).2.2⟩⟩, fun q hq => ⟨(h.kl q hq).1, Nat.lt_of_lt_of_le (h.kl q hq).2 h2.size⟩⟩, ⟨h2.size, fun q hq hl => h2.block q hl (h.k q hq).2.1⟩⟩
  · rcases h3 q ho with e | e
    · exact (h.d q hq).1 e
    · have := (FbOwn.lt h.f hq).2
      omega
  · rcases h3 q hq with e | e
    · exact h.d' q e
    · have h5 := h.h.lt
      have h6 := h.f.lt.1
      omega
  · rcases h3 q ho with e | e
    · exact (h.k q hq).2.1 e
    · have := (h.kl q hq).2
      omega
/-- The document's struct is written anew, with what stands there. -/
theorem PlT.again (h : PlT w b r br n room E X V Ff Fg K wr) (hM : Mods (fun q => q = br) wr wx) (hh : RfH br n room X wx) : PlT w b r br n room E X V Ff Fg K wx ∧ Kp K wr wx :=
  ⟨⟨h.f.keep hM h.ne (fun e => (h.d r (.inl rfl)).2 e) (fun k g hg e => (h.d g (.inr ⟨k, hg⟩)).2 e) fun q (hq : q = br) => by rw [hq]; exact h.lo, hh, h.g.keep hM (fun q ho e => (h.d' q ho).2 e) fun q (hq : q = br) => by rw [hq]; exact h.lo, h.d, h.d', h.ne, h.lo, h.k, fun q hq => ⟨(h.kl q hq).1, Nat.lt_of_lt_of_le (h.kl q hq).2 hM.size⟩⟩, hM.size, fun q hq hl => hM.block q hl fun e => (h.k q hq).2.2 e⟩
theorem PlT.keep {S : Nat → Prop} (h : PlT w b r br n room E X V Ff Fg K wr) (hM : Mods S wr wx) (hS : ∀ q, q < wr.heap.size → (FbOwn E r q ∨ q = b ∨ RfOwn n X V q ∨ q = br) → ¬ S q) (hlo : ∀ q, S q → w.heap.size ≤ q) : PlT w b r br n room E X V Ff Fg K wx :=
  ⟨h.f.keep hM (hS b h.f.lt.1 (.inr (.inl rfl))) (hS r h.f.lt.2 (.inl (.inl rfl))) (fun k g hg => hS g (FbOwn.lt h.f (.inr ⟨k, hg⟩)).2 (.inl (.inr ⟨k, hg⟩))) hlo, (hM.block br h.h.lt (hS br h.h.lt (.inr (.inr (.inr rfl))))).trans h.h, h.g.keep hM (fun q ho => hS q (h.g.lt ho).2 (.inr (.inr (.inl ho)))) hlo, h.d, h.d', h.ne, h.lo, h.k, fun q hq => ⟨(h.kl q hq).1, Nat.lt_of_lt_of_le (h.kl q hq).2 hM.size⟩⟩
theorem RfB.rebase {w1 : World} (h : RfB w1 n X V Fg wx) (hb : Below w.heap.size w w1) : RfB w n X V Fg wx :=
  ⟨fun p hp => (h.lst p hp).base_le fun g e => Nat.le_trans hb.size ((h.lst p hp).lt g e).1, fun p c hp hc => (h.row p c hp hc).base_le fun g e => Nat.le_trans hb.size ((h.row p c hp hc).lt g e).1, h.xx, h.xv, h.vv, hb.trans (h.below.mono hb.size)⟩
theorem totR_le {m : Nat} (h : LeF Ff m) : totR n Ff ≤ 4 * (n * m) := sumP_le h 4
theorem PlT.own (h : PlT w b r br n room E X V Ff Fg K wr) : ¬ RfOwn n X V br := fun ho => (h.d' br ho).2 rfl
end
/-- The law's state: both hold the same. -/
def Pl (w : World) (b br n : Nat) (room : Int) (F : Plc → List MsgV) (K : List Nat) (wr : World) : Prop :=
  ∃ r E X V, PlT w b r br n room E X V F F K wr ∧ totF E F = totR n F
section
variable {n : Nat} {room : Int} {F : Plc → List MsgV}
theorem totR_send (hn : 1 ≤ n) (l : List MsgV) : totR n (sendF n room F l) = totR n F + sentN n room F l := by
  rcases fitsE_form n room F l with hf | ⟨i, k, hf⟩
  · obtain ⟨h1, _⟩ := fits_inv hf
    have e1 : sendF n room F l = addM F l := by unfold sendF; rw [hf]; rfl
    have e2 : sentN n room F l = l.length := by unfold sentN; rw [hf]; rfl
    rw [e1, e2]
    have key : ∀ (l : List MsgV) (F : Plc → List MsgV), (∀ m ∈ l, badM n m = false) → totR n (addM F l) = totR n F + l.length := by
      intro l
      induction l with
      | nil => intro F _; rfl
      | cons m l ih =>
        intro F h
        obtain ⟨p', c', hp, hc, hpl, _⟩ := place_nat hn (bad_ok (h m (List.mem_cons_self ..)))
        have hpl : plM m = ((p' : Int), (c' : Int)) := hpl
        have h3 := totR_upd F n p' c' (F ((p' : Int), (c' : Int)) ++ [m]) hp hc
        have h4 : (F ((p' : Int), (c' : Int)) ++ [m]).length = (F ((p' : Int), (c' : Int))).length + 1 := by simp
        rw [h4] at h3
        simp only [addM, hpl]
        rw [ih _ fun x hx => h x (List.mem_cons_of_mem _ hx)]
        simp only [List.length_cons]
        omega
    refine key l F fun m hm => ?_
    obtain ⟨i, hi, rfl⟩ := List.mem_iff_getElem.1 hm
    have := h1 i hi
    unfold badB at this
    rw [List.getElem?_eq_getElem hi] at this
    exact this
  · have e1 : sendF n room F l = F := by unfold sendF; rw [hf]; rfl
    have e2 : sentN n room F l = 0 := by unfold sentN; rw [hf]; rfl
    rw [e1, e2]
    rfl
theorem totR_take (hn : 1 ≤ n) (p c k : Int) : totR n (takeF n F p c k) + tookN n F p c k = totR n F := by
  unfold takeF tookN
  obtain ⟨pk, hpk⟩ : ∃ pk, peekP n F p c k = pk := ⟨_, rfl⟩
  obtain ⟨M, ok⟩ := pk
  rw [hpk]
  cases ok with
  | false => rfl
  | true =>
    obtain ⟨hok, kn, rfl, hk, _⟩ := peek_ok hpk
    obtain ⟨p', c', hp, hc, hpl, _⟩ := place_nat hn hok
    simp only [if_true]
    rw [hpl] at hk ⊢
    have h3 := totR_upd F n p' c' ((F ((p' : Int), (c' : Int))).eraseIdx (kn : Int).toNat) hp hc
    rw [Int.toNat_natCast] at h3 ⊢
    rw [List.length_eraseIdx_of_lt hk] at h3
    omega
theorem totR_nil : totR n (fun _ => []) = 0 := by
  have h1 : ∀ p c, sumC (fun _ => []) p c = 0 := fun p c => by
    induction c with
    | zero => rfl
    | succ c ih => simp [sumC, ih]
  simp [totR, sumP, h1]
end
end

section
open Go.RowKit Go.Extern.Stop Go.Stop Go.Extern

theorem fits_code (n : Int) (room : Int) (F : Plc → List MsgV) (l : List MsgV) : 0 ≤ codeE (fitsE n room F l) ∧ codeE (fitsE n room F l) ≤ 10 ∧ isK (fitsE n room F l) (codeE (fitsE n room F l)) fsT (atE (fitsE n room F l)) = true ∧ onlyK (fitsE n room F l) (codeE (fitsE n room F l)) = true := by
  have h : fitsE n room F l = .nil ∨ ∃ i k : Nat, k ≤ 5 ∧ fitsE n room F l = .wrap fsT i (.sent k) := by
    unfold fitsE
    split
    · exact .inr ⟨_, 0, by omega, rfl⟩
    · split
      · exact .inr ⟨_, 5, by omega, rfl⟩
      · exact .inl rfl
  rcases h with h | ⟨i, k, hk, h⟩
  · rw [h]
    exact ⟨by simp [codeE], by simp [codeE], by simp [codeE, isK, ErrT.isNil], by simp [codeE, onlyK, ErrT.code]⟩
  · rw [h]
    refine ⟨by simp only [codeE]; omega, by simp only [codeE]; omega, ?_, ?_⟩
    · have e : ¬ ((k : Int) + 1 = 0) := by omega
      simp [codeE, atE, isK, ErrT.code, e]
    · simp [codeE, onlyK, ErrT.code]
set_option maxRecDepth 100000 in
set_option maxHeartbeats 16000000 in
theorem fabricPlays (A : Nat → Addr) (cores room : Int) (va : Value) (na : Nat) (fa : Nat → AskF) (w : World) (hs : SentAt w A) (_h1 : in64 cores) (_h2 : in64 room) (ha : AsksF w va na fa) : Calls Tryd.prog 4 #[.int .i64 cores, .int .i64 room, va] w (TruePost w) := by
  have HS := Lib.hid hs
  obtain ⟨hna, pa, ca, rfl, hask⟩ := ha
  have HASK := Lib.hid hask
  have hna9 : na ≤ 9223372036854775807 := by unfold maxLen at hna; omega
  clear hs hask _h1 _h2 hna
  by_cases hok : (1 ≤ cores ∧ cores ≤ 64) ∧ 1 ≤ room ∧ room ≤ 64
  · obtain ⟨⟨c1, c2⟩, r1, r2⟩ := hok
    obtain ⟨n, rfl⟩ := Int.eq_ofNat_of_zero_le (show 0 ≤ cores by omega)
    obtain ⟨rm, rfl⟩ := Int.eq_ofNat_of_zero_le (show 0 ≤ room by omega)
    have n1 : 1 ≤ n := by omega
    have n2 : n ≤ 64 := by omega
    have rm1 : 1 ≤ rm := by omega
    have rm2 : rm ≤ 64 := by omega
    go_enter Tryd.func4, Tryd.ntmps4
    go_wp2_with fail
    refine (fnew_ok n rm w (by omega) (by omega) (by omega) (by omega)).mono ?_
    rintro ev w1 ⟨b, r, rfl, hf⟩
    have HF := Lib.hid hf
    clear hf c1 c2 r1 r2
    go_wp2_with fail
    refine (rnew_ok n rm w1 n1 n2 (by omega) (by omega)).mono ?_
    rintro ev w2 ⟨br, X, rfl, hh, hg, ho, hlo⟩
    have HP := Lib.hid (show Pl w b br n rm (fun _ => []) [] w2 from by
      have hbw := HF.out.below
      have hl := HF.out.lt
      have hX : ∀ q, RfOwn n X (fun _ _ => nilS) q → w1.heap.size ≤ q := fun q hq => (hg.lt hq).1
      refine ⟨r, [], X, _, ⟨HF.out.bel hg.below, hh, ⟨fun p hp => (hg.lst p hp).base_le fun g e => Nat.le_trans hbw.size ((hg.lst p hp).lt g e).1, fun p c hp hc => (hg.row p c hp hc).base_le fun g e => Nat.le_trans hbw.size ((hg.row p c hp hc).lt g e).1, hg.xx, hg.xv, hg.vv, hbw.trans (hg.below.mono hbw.size)⟩, fun q hq => ⟨fun e => ?_, ?_⟩, fun q hq => ⟨?_, fun e => ho (e ▸ hq)⟩, by omega, by have := hbw.size; omega, fun q hq => (by cases hq), fun q hq => (by cases hq)⟩, by rw [totR_nil]; rfl⟩
      · have := hX q e
        have := (FbOwn.lt HF.out hq).2
        omega
      · have := (FbOwn.lt HF.out hq).2
        omega
      · have := hX q hq
        omega)
    clear hh hg ho hlo HF
    go_wp2_with fail
    change Calls Tryd.prog _ #[ErrT.nil.val A, .int .i64 (0 : Int), .string fbT, .int .i64 0] _ _
    refine (is_c A .nil 0 fbT 0 w2 (HS.out.below (by obtain ⟨_, _, _, _, h, _⟩ := HP.out; exact h.below)) trivial (by omega) (by omega)).mono ?_
    rintro ev w3 ⟨rfl, hb⟩
    rw [show isK .nil 0 fbT 0 = true by simp [isK, ErrT.isNil]]
    have HP := Lib.hid (show Pl w b br n rm (fun _ => []) [] w3 from by
      obtain ⟨r, E, X, V, h, e⟩ := HP.out
      exact ⟨r, E, X, V, h.bel hb, e⟩)
    clear hb
    go_wp2_with fail
    go_loopw [12] (fun s12 wr => ∃ (i : Nat) (F : Plc → List MsgV), s12 = .int .i64 i ∧ i ≤ 50 ∧ LeF F rm ∧ Pl w b br n rm F [] wr) (fun s12 _ => 50 - (intOf s12).toNat)
    case atStart => exact ⟨0, _, rfl, by omega, LeF.nil rm, HP.out⟩
    case round =>
      clear HP
      obtain ⟨i, F, rfl, hi50, hle, hp⟩ := hrel
      have HLE := Lib.hid hle
      have HP := Lib.hid hp
      clear hle hp
      by_cases hin : i < na
      · have k1 : decide (i < na) = true := by simpa using hin
        have k2 : decide ((i : Int) < (na : Int)) = true := by simp; omega
        by_cases hi5 : i < 50
        · have k3 : decide (i < 50) = true := by simpa using hi5
          have k4 : decide ((i : Int) < 50) = true := by simp; omega
          obtain ⟨hms, ga, oa, rfl, hga, hca⟩ := HASK.out i hin
          obtain ⟨⟨kd, pl, co, kk, lv, nl, ll⟩, hfa⟩ : ∃ q, fa i = q := ⟨_, rfl⟩
          rw [hfa] at hms hca
          obtain ⟨r, E, X, V, ht, htot⟩ := HP.out
          have HT := Lib.hid ht
          have HTOT := Lib.hid htot
          have HMS := Lib.hid hms
          have hbw := ht.below
          have a0 := (hbw.cell (p := ⟨ga, _, none⟩) hga).trans (hca 0 _ rfl)
          have a1 := (hbw.cell (p := ⟨ga, _, none⟩) hga).trans (hca 1 _ rfl)
          have a2 := (hbw.cell (p := ⟨ga, _, none⟩) hga).trans (hca 2 _ rfl)
          have a3 := (hbw.cell (p := ⟨ga, _, none⟩) hga).trans (hca 3 _ rfl)
          have a4 := (hbw.cell (p := ⟨ga, _, none⟩) hga).trans (hca 4 _ rfl)
          simp only [Nat.add_zero, ← Nat.add_assoc] at a0 a1 a2 a3 a4
          obtain ⟨_, adl, cpl, hlv, hel⟩ := hms.sl
          simp only at hlv
          subst hlv
          have HEL := Lib.hid hel
          clear hca hga hms ht htot hbw hfa HP hel
          go_upto_region 9 with fail
          obtain ⟨h13, hh⟩ : ∃ h, h = wr.heap.size := ⟨_, rfl⟩
          have hb : Below wr.heap.size wr (wr.alloc (.cells #[.int .i64 kd, .int .i64 pl, .int .i64 co, .int .i64 kk, .slice adl nl cpl] 46)) := (Below.refl _ _).alloc (Nat.le_refl _) _
          have HX4 := Lib.hid (show (wr.alloc (.cells #[.int .i64 kd, .int .i64 pl, .int .i64 co, .int .i64 kk, .slice adl nl cpl] 46)).heap[h13]? = some (.cells #[.int .i64 kd, .int .i64 pl, .int .i64 co, .int .i64 kk, .slice adl nl cpl] 46 (0, 0)) from by rw [hh]; exact heap_alloc_new _ _)
          have HT4 := Lib.hid (HT.out.add hb h13 (by omega) (by rw [hh]; simp))
          rw [← hh]
          clear hb hh a0 a1 a2 a3 a4 HT
          generalize wr.alloc (.cells #[.int .i64 kd, .int .i64 pl, .int .i64 co, .int .i64 kk, .slice adl nl cpl] 46) = w4 at *
          have hncp : nl ≤ cpl := HMS.out.cap _ _ _ rfl
          have HNCP := Lib.hid hncp
          have hnm : nl ≤ 9223372036854775807 := by have := HMS.out.big; unfold maxLen at this; omega
          have HSL0 := Lib.hid HMS.out.sl
          have HLL := Lib.hid HMS.out.len
          clear HMS HEL
          have hxq := HX4.out
          have q0 := cell_of hxq 0
          have q1 := cell_of hxq 1
          have q2 := cell_of hxq 2
          have q3 := cell_of hxq 3
          have q4 := cell_of hxq 4
          simp only [List.getElem?_toArray, List.getElem?_cons_zero, List.getElem?_cons_succ] at q0 q1 q2 q3 q4
          have hlq := (Array.getElem?_eq_some_iff.1 hxq).1
          have z4 := frozen_of hxq 4
          go_upto_if 73 with fail
          go_cut [77] from 73 to 76 (fun _ wx => ∃ l' : List MsgV, l'.length ≤ 12 ∧ l'.length ≤ cpl ∧ slc w 13 (.slice adl l'.length cpl) l'.length (flatM l') ∧ wx.heap[h13]? = some (.cells #[.int .i64 kd, .int .i64 pl, .int .i64 co, .int .i64 kk, .slice adl l'.length cpl] 46 (0, 0)) ∧ PlT w b r br n rm E X V F F [h13] wx)
          case first =>
            by_cases hbig : 12 < nl
            · have g1 : decide (12 < nl) = true := by simpa using hbig
              have g2 : decide (12 < (nl : Int)) = true := by simp; omega
              have hl12 : (ll.take 12).length = 12 := by have e : ll.length = nl := HLL.out; rw [List.length_take, e]; omega
              have HSQ := Lib.hid (show slc w 13 (.slice adl 12 cpl) 12 (flatM (ll.take 12)) from slc_takeM HSL0.out HLL.out.symm (by omega))
              have HL12 := Lib.hid hl12
              clear hl12
              go_wp2_with fail
              have HX5 := Lib.hid (show (w4.setCell ⟨h13, 4, none⟩ (.slice adl 12 cpl)).heap[h13]? = some (.cells #[.int .i64 kd, .int .i64 pl, .int .i64 co, .int .i64 kk, .slice adl 12 cpl] 46 (0, 0)) from (heap_setCell_at (k := 4) HX4.out _).trans rfl)
              have HT5 := Lib.hid (HT4.out.mods ((Mods.refl (fun q => q ∈ [h13]) w4).setCell (p := ⟨h13, 4, none⟩) (List.mem_singleton.2 rfl) (.slice adl 12 cpl)))
              clear hxq hlq q0 q1 q2 q3 q4 z4
              generalize w4.setCell ⟨h13, 4, none⟩ (.slice adl 12 cpl) = w5 at *
              go_meet
              case rel => exact ⟨ll.take 12, by rw [HL12.out]; omega, by rw [HL12.out]; have := HNCP.out; omega, by rw [HL12.out]; exact HSQ.out, by rw [HL12.out]; exact HX5.out, HT5.out⟩
            · have g1 : decide (12 < nl) = false := by simpa using hbig
              have g2 : decide (12 < (nl : Int)) = false := by simp; omega
              go_wp2_with fail
              go_meet
              case rel => exact ⟨ll, by (have e : ll.length = nl := HLL.out; rw [e]; omega), by rw [HLL.out]; exact hncp, by rw [HLL.out]; exact HSL0.out, by rw [HLL.out]; exact HX4.out, HT4.out⟩
          case rest =>
            obtain ⟨l', hl12, hlc, hsl, hx5, ht5⟩ := hcut
            have HSL := Lib.hid hsl
            have HX5 := Lib.hid hx5
            have HT5 := Lib.hid ht5
            have HLC := Lib.hid hlc
            have HL12 := Lib.hid hl12
            clear hsl hx5 ht5 hlc HX4 HT4 HSL0 HLL hxq hlq q0 q1 q2 q3 q4 z4
            generalize wc = w5 at *
            have HAPW := Lib.hid (show 0 < l'.length → ∀ q, (Value.slice adl l'.length cpl).ownBlock = some q → q < w.heap.size from fun h0 q hq => by
              obtain ⟨_, a', c', hv, hc⟩ := HSL.out
              simp only [Value.slice.injEq, true_and] at hv
              obtain ⟨rfl, rfl⟩ := hv
              obtain ⟨g, o, rfl, hg, _⟩ := hc h0
              have e : g = q := Option.some.inj hq
              omega)
            have HFQ := Lib.hid (show ∀ q, (F q).length ≤ 100000 from fun q => by have := HLE.out q; omega)
            have hxq := HX5.out
            have q0 := cell_of hxq 0
            have q1 := cell_of hxq 1
            have q2 := cell_of hxq 2
            have q3 := cell_of hxq 3
            have q4 := cell_of hxq 4
            simp only [List.getElem?_toArray, List.getElem?_cons_zero, List.getElem?_cons_succ] at q0 q1 q2 q3 q4
            have hlq := (Array.getElem?_eq_some_iff.1 hxq).1
            go_upto_block 2 with fail
            clear hxq hlq q0 q1 q2 q3 q4
            go_cut [14, 15, 16, 17, 18, 19, 20, 21, 22, 23, 24, 25, 26] from 79 to 183 (fun s14 _ _ _ _ _ _ _ _ _ _ _ _ wx => s14 = .bool true ∧ ∃ F', LeF F' rm ∧ Pl w b br n rm F' [h13] wx ∧ wx.heap[h13]? = some (.cells #[.int .i64 kd, .int .i64 pl, .int .i64 co, .int .i64 kk, .slice adl l'.length cpl] 46 (0, 0)))
            case first =>
              by_cases kd1 : kd = 1
              · subst kd1
                obtain ⟨g0, o0, k0, e0⟩ := HT5.out.g.frm n1 0 (by omega)
                obtain ⟨g1, o1, k1, e1⟩ := HT5.out.g.frm n1 1 (by omega)
                obtain ⟨g2, o2, k2, e2⟩ := HT5.out.g.frm n1 2 (by omega)
                obtain ⟨g3, o3, k3, e3⟩ := HT5.out.g.frm n1 3 (by omega)
                have HE := Lib.hid (show hdrV n rm X = #[.int .i64 n, .int .i64 rm, .slice (some ⟨g0, o0, none⟩) n k0, .slice (some ⟨g1, o1, none⟩) n k1, .slice (some ⟨g2, o2, none⟩) n k2, .slice (some ⟨g3, o3, none⟩) n k3] from by rw [← e0, ← e1, ← e2, ← e3]; rfl)
                have hbr : w5.heap[br]? = some (.cells #[.int .i64 n, .int .i64 rm, .slice (some ⟨g0, o0, none⟩) n k0, .slice (some ⟨g1, o1, none⟩) n k1, .slice (some ⟨g2, o2, none⟩) n k2, .slice (some ⟨g3, o3, none⟩) n k3] 50 (0, 0)) := by rw [← HE.out]; exact HT5.out.h
                clear e0 e1 e2 e3
                have hxq := HX5.out
                have q0 := cell_of hxq 0
                have q1 := cell_of hxq 1
                have q2 := cell_of hxq 2
                have q3 := cell_of hxq 3
                have q4 := cell_of hxq 4
                simp only [List.getElem?_toArray, List.getElem?_cons_zero, List.getElem?_cons_succ] at q0 q1 q2 q3 q4
                have hlq := (Array.getElem?_eq_some_iff.1 hxq).1
                have hxb := hbr
                have b0 := cell_of hxb 0
                have b1 := cell_of hxb 1
                have b2 := cell_of hxb 2
                have b3 := cell_of hxb 3
                have b4 := cell_of hxb 4
                have b5 := cell_of hxb 5
                simp only [List.getElem?_toArray, List.getElem?_cons_zero, List.getElem?_cons_succ] at b0 b1 b2 b3 b4 b5
                go_upto_region 17 with fail
                obtain ⟨h16, hh⟩ : ∃ h, h = w5.heap.size := ⟨_, rfl⟩
                have hb : Below w5.heap.size w5 (w5.alloc (.cells #[.int .i64 n, .int .i64 rm, .slice (some ⟨g0, o0, none⟩) n k0, .slice (some ⟨g1, o1, none⟩) n k1, .slice (some ⟨g2, o2, none⟩) n k2, .slice (some ⟨g3, o3, none⟩) n k3] 50)) := (Below.refl _ _).alloc (Nat.le_refl _) _
                have HO6 := Lib.hid (show (w5.alloc (.cells #[.int .i64 n, .int .i64 rm, .slice (some ⟨g0, o0, none⟩) n k0, .slice (some ⟨g1, o1, none⟩) n k1, .slice (some ⟨g2, o2, none⟩) n k2, .slice (some ⟨g3, o3, none⟩) n k3] 50)).heap[h16]? = some (.cells #[.int .i64 n, .int .i64 rm, .slice (some ⟨g0, o0, none⟩) n k0, .slice (some ⟨g1, o1, none⟩) n k1, .slice (some ⟨g2, o2, none⟩) n k2, .slice (some ⟨g3, o3, none⟩) n k3] 50 (0, 0)) from by rw [hh]; exact heap_alloc_new _ _)
                have HT6 := Lib.hid (HT5.out.add hb h16 (by omega) (by rw [hh]; simp))
                have HX6 := Lib.hid ((hb.block h13 (Array.getElem?_eq_some_iff.1 HX5.out).1).trans HX5.out)
                rw [← hh]
                clear hb hh hxq hlq q0 q1 q2 q3 q4 hbr HT5 HX5
                clear hxb b0 b1 b2 b3 b4 b5
                generalize w5.alloc (.cells #[.int .i64 n, .int .i64 rm, .slice (some ⟨g0, o0, none⟩) n k0, .slice (some ⟨g1, o1, none⟩) n k1, .slice (some ⟨g2, o2, none⟩) n k2, .slice (some ⟨g3, o3, none⟩) n k3] 50) = w6 at *
                have hxq := HX6.out
                have q0 := cell_of hxq 0
                have q1 := cell_of hxq 1
                have q2 := cell_of hxq 2
                have q3 := cell_of hxq 3
                have q4 := cell_of hxq 4
                simp only [List.getElem?_toArray, List.getElem?_cons_zero, List.getElem?_cons_succ] at q0 q1 q2 q3 q4
                have hlq := (Array.getElem?_eq_some_iff.1 hxq).1
                go_wp2_with fail
                refine (fsend_c A w b r n rm E F _ l' w6 HT6.out.f (HS.out.below HT6.out.below) (HSL.out.below HT6.out.below) (fun h0 q hq ho => by have h3 := HAPW.out h0 q hq; have := (FbOwn.lt HT6.out.f ho).1; omega) (by omega) HFQ.out (by omega)).mono ?_
                rintro ev w7 ⟨rfl, hp⟩
                clear hxq hlq q0 q1 q2 q3 q4
                obtain ⟨E7, ht7, hk7, htt7⟩ := HT6.out.postF hp
                have HT7 := Lib.hid ht7
                have HTT := Lib.hid htt7
                have HX7 := Lib.hid (hk7.at (by simp) HX6.out)
                have HO7 := Lib.hid (hk7.at (List.mem_cons_self ..) HO6.out)
                clear hp ht7 hk7 htt7
                obtain ⟨fe, hfe⟩ : ∃ fe, fitsE n rm F l' = fe := ⟨_, rfl⟩
                rw [hfe]
                have HFE := Lib.hid hfe
                obtain ⟨ve, hve⟩ : ∃ ve, ErrT.val A fe = ve := ⟨_, rfl⟩
                rw [hve]
                have HVE := Lib.hid hve
                clear hfe hve
                have hxq := HX7.out
                have q0 := cell_of hxq 0
                have q1 := cell_of hxq 1
                have q2 := cell_of hxq 2
                have q3 := cell_of hxq 3
                have q4 := cell_of hxq 4
                simp only [List.getElem?_toArray, List.getElem?_cons_zero, List.getElem?_cons_succ] at q0 q1 q2 q3 q4
                have hlq := (Array.getElem?_eq_some_iff.1 hxq).1
                go_wp2_with fail
                refine (rsend_c w h16 n rm X V F _ l' w7 (by unfold RfH; rw [HE.out]; exact HO7.out) HT7.out.g (HSL.out.below HT7.out.below) n1 n2 (HT7.out.k h16 (List.mem_cons_self ..)).2.1 (fun h0 q hq ho => by have h3 := HAPW.out h0 q hq; have := (HT7.out.g.lt ho).1; omega) (by omega) HFQ.out (fun p m c e => by simp only [Value.slice.injEq] at e; have := HLC.out; omega)).mono ?_
                rintro ev w8 ⟨rfl, hp⟩
                rw [HFE.out]
                clear hxq hlq q0 q1 q2 q3 q4
                obtain ⟨V8, ht8, hk8⟩ := HT7.out.postG hp
                have HT8 := Lib.hid ht8
                have HX8 := Lib.hid (hk8.at (by simp) HX7.out)
                have HO8 := Lib.hid (hk8.at (List.mem_cons_self ..) HO7.out)
                clear hp ht8 hk8
                have hbr : w8.heap[br]? = some (.cells #[.int .i64 n, .int .i64 rm, .slice (some ⟨g0, o0, none⟩) n k0, .slice (some ⟨g1, o1, none⟩) n k1, .slice (some ⟨g2, o2, none⟩) n k2, .slice (some ⟨g3, o3, none⟩) n k3] 50 (0, 0)) := by rw [← HE.out]; exact HT8.out.h
                have hxq := HX8.out
                have q0 := cell_of hxq 0
                have q1 := cell_of hxq 1
                have q2 := cell_of hxq 2
                have q3 := cell_of hxq 3
                have q4 := cell_of hxq 4
                simp only [List.getElem?_toArray, List.getElem?_cons_zero, List.getElem?_cons_succ] at q0 q1 q2 q3 q4
                have hlq := (Array.getElem?_eq_some_iff.1 hxq).1
                have hxb := hbr
                have b0 := cell_of hxb 0
                have b1 := cell_of hxb 1
                have b2 := cell_of hxb 2
                have b3 := cell_of hxb 3
                have b4 := cell_of hxb 4
                have b5 := cell_of hxb 5
                simp only [List.getElem?_toArray, List.getElem?_cons_zero, List.getElem?_cons_succ] at b0 b1 b2 b3 b4 b5
                have zb0 := frozen_of hxb 0
                have zb1 := frozen_of hxb 1
                have zb2 := frozen_of hxb 2
                have zb3 := frozen_of hxb 3
                have zb4 := frozen_of hxb 4
                have zb5 := frozen_of hxb 5
                have hxoo := HO8.out
                have oo0 := cell_of hxoo 0
                have oo1 := cell_of hxoo 1
                have oo2 := cell_of hxoo 2
                have oo3 := cell_of hxoo 3
                have oo4 := cell_of hxoo 4
                have oo5 := cell_of hxoo 5
                simp only [List.getElem?_toArray, List.getElem?_cons_zero, List.getElem?_cons_succ] at oo0 oo1 oo2 oo3 oo4 oo5
                go_upto_region 24 with fail
                have hs6 := set_six (a0 := .int .i64 n) (a1 := .int .i64 rm) (a2 := .slice (some ⟨g0, o0, none⟩) n k0) (a3 := .slice (some ⟨g1, o1, none⟩) n k1) (a4 := .slice (some ⟨g2, o2, none⟩) n k2) (a5 := .slice (some ⟨g3, o3, none⟩) n k3) hbr
                have hs7 : RfH br n rm X (setSix w8 br (.int .i64 n) (.int .i64 rm) (.slice (some ⟨g0, o0, none⟩) n k0) (.slice (some ⟨g1, o1, none⟩) n k1) (.slice (some ⟨g2, o2, none⟩) n k2) (.slice (some ⟨g3, o3, none⟩) n k3)) := by unfold RfH; rw [HE.out]; exact hs6
                obtain ⟨ht9, hk9⟩ := HT8.out.again (setSix_mods w8 br (.int .i64 n) (.int .i64 rm) (.slice (some ⟨g0, o0, none⟩) n k0) (.slice (some ⟨g1, o1, none⟩) n k1) (.slice (some ⟨g2, o2, none⟩) n k2) (.slice (some ⟨g3, o3, none⟩) n k3)) hs7
                have HT9 := Lib.hid ht9
                have HX9 := Lib.hid (hk9.at (by simp) HX8.out)
                clear hs6 hs7 ht9 hk9 hxq hlq q0 q1 q2 q3 q4
                clear hxb b0 b1 b2 b3 b4 b5 zb0 zb1 zb2 zb3 zb4 zb5
                clear hxoo oo0 oo1 oo2 oo3 oo4 oo5
                clear hbr
                change Code.wp _ _ _ _ (setSix w8 br (.int .i64 n) (.int .i64 rm) (.slice (some ⟨g0, o0, none⟩) n k0) (.slice (some ⟨g1, o1, none⟩) n k1) (.slice (some ⟨g2, o2, none⟩) n k2) (.slice (some ⟨g3, o3, none⟩) n k3))
                generalize setSix w8 br (.int .i64 n) (.int .i64 rm) (.slice (some ⟨g0, o0, none⟩) n k0) (.slice (some ⟨g1, o1, none⟩) n k1) (.slice (some ⟨g2, o2, none⟩) n k2) (.slice (some ⟨g3, o3, none⟩) n k3) = w9 at *
                go_wp2_with fail
                have hi := is_c A fe (codeE fe) fsT (atE fe) w9 (HS.out.below (HT9.out.below)) (by rw [← HFE.out]; exact fitsE_wf _ _ _ _) (by rw [← HFE.out]; exact (fits_code n rm F l').1) (by rw [← HFE.out]; exact (fits_code n rm F l').2.1)
                rw [HVE.out] at hi
                refine hi.mono ?_
                clear hi
                rintro ev wi ⟨rfl, hb⟩
                rw [show isK fe (codeE fe) fsT (atE fe) = true by rw [← HFE.out]; exact (fits_code n rm F l').2.2.1]
                have TI := Lib.hid (HT9.out.bel hb)
                have XI := Lib.hid ((hb.block h13 (Array.getElem?_eq_some_iff.1 HX9.out).1).trans HX9.out)
                clear hb
                go_wp2_with fail
                have hi := only_c A fe (codeE fe) wi (HS.out.below (TI.out.below)) (by rw [← HFE.out]; exact fitsE_wf _ _ _ _) (by rw [← HFE.out]; exact (fits_code n rm F l').1) (by rw [← HFE.out]; exact (fits_code n rm F l').2.1)
                rw [HVE.out] at hi
                refine hi.mono ?_
                clear hi
                rintro ev wj ⟨rfl, hb⟩
                rw [show onlyK fe (codeE fe) = true by rw [← HFE.out]; exact (fits_code n rm F l').2.2.2]
                have TJ := Lib.hid (TI.out.bel hb)
                have XJ := Lib.hid ((hb.block h13 (Array.getElem?_eq_some_iff.1 XI.out).1).trans XI.out)
                clear hb
                go_wp2_with fail
                go_meet
                case rel => exact ⟨rfl, sendF n rm F l', HLE.out.send n l', ⟨r, E7, X, V8, TJ.out.sub (by simp), by have h3 := HTT.out; have h4 := HTOT.out; rw [totR_send n1]; omega⟩, XJ.out⟩
              · have f1 : (kd == 1) = false := by simpa using kd1
                by_cases kd2 : kd = 2
                · subst kd2
                  obtain ⟨g0, o0, k0, e0⟩ := HT5.out.g.frm n1 0 (by omega)
                  obtain ⟨g1, o1, k1, e1⟩ := HT5.out.g.frm n1 1 (by omega)
                  obtain ⟨g2, o2, k2, e2⟩ := HT5.out.g.frm n1 2 (by omega)
                  obtain ⟨g3, o3, k3, e3⟩ := HT5.out.g.frm n1 3 (by omega)
                  have HE := Lib.hid (show hdrV n rm X = #[.int .i64 n, .int .i64 rm, .slice (some ⟨g0, o0, none⟩) n k0, .slice (some ⟨g1, o1, none⟩) n k1, .slice (some ⟨g2, o2, none⟩) n k2, .slice (some ⟨g3, o3, none⟩) n k3] from by rw [← e0, ← e1, ← e2, ← e3]; rfl)
                  have hbr : w5.heap[br]? = some (.cells #[.int .i64 n, .int .i64 rm, .slice (some ⟨g0, o0, none⟩) n k0, .slice (some ⟨g1, o1, none⟩) n k1, .slice (some ⟨g2, o2, none⟩) n k2, .slice (some ⟨g3, o3, none⟩) n k3] 50 (0, 0)) := by rw [← HE.out]; exact HT5.out.h
                  clear e0 e1 e2 e3
                  have hxq := HX5.out
                  have q0 := cell_of hxq 0
                  have q1 := cell_of hxq 1
                  have q2 := cell_of hxq 2
                  have q3 := cell_of hxq 3
                  have q4 := cell_of hxq 4
                  simp only [List.getElem?_toArray, List.getElem?_cons_zero, List.getElem?_cons_succ] at q0 q1 q2 q3 q4
                  have hlq := (Array.getElem?_eq_some_iff.1 hxq).1
                  have hxb := hbr
                  have b0 := cell_of hxb 0
                  have b1 := cell_of hxb 1
                  have b2 := cell_of hxb 2
                  have b3 := cell_of hxb 3
                  have b4 := cell_of hxb 4
                  have b5 := cell_of hxb 5
                  simp only [List.getElem?_toArray, List.getElem?_cons_zero, List.getElem?_cons_succ] at b0 b1 b2 b3 b4 b5
                  go_upto_region 17 with fail
                  obtain ⟨h16, hh⟩ : ∃ h, h = w5.heap.size := ⟨_, rfl⟩
                  have hb : Below w5.heap.size w5 (w5.alloc (.cells #[.int .i64 n, .int .i64 rm, .slice (some ⟨g0, o0, none⟩) n k0, .slice (some ⟨g1, o1, none⟩) n k1, .slice (some ⟨g2, o2, none⟩) n k2, .slice (some ⟨g3, o3, none⟩) n k3] 50)) := (Below.refl _ _).alloc (Nat.le_refl _) _
                  have HO6 := Lib.hid (show (w5.alloc (.cells #[.int .i64 n, .int .i64 rm, .slice (some ⟨g0, o0, none⟩) n k0, .slice (some ⟨g1, o1, none⟩) n k1, .slice (some ⟨g2, o2, none⟩) n k2, .slice (some ⟨g3, o3, none⟩) n k3] 50)).heap[h16]? = some (.cells #[.int .i64 n, .int .i64 rm, .slice (some ⟨g0, o0, none⟩) n k0, .slice (some ⟨g1, o1, none⟩) n k1, .slice (some ⟨g2, o2, none⟩) n k2, .slice (some ⟨g3, o3, none⟩) n k3] 50 (0, 0)) from by rw [hh]; exact heap_alloc_new _ _)
                  have HT6 := Lib.hid (HT5.out.add hb h16 (by omega) (by rw [hh]; simp))
                  have HX6 := Lib.hid ((hb.block h13 (Array.getElem?_eq_some_iff.1 HX5.out).1).trans HX5.out)
                  rw [← hh]
                  clear hb hh hxq hlq q0 q1 q2 q3 q4 hbr HT5 HX5
                  clear hxb b0 b1 b2 b3 b4 b5
                  generalize w5.alloc (.cells #[.int .i64 n, .int .i64 rm, .slice (some ⟨g0, o0, none⟩) n k0, .slice (some ⟨g1, o1, none⟩) n k1, .slice (some ⟨g2, o2, none⟩) n k2, .slice (some ⟨g3, o3, none⟩) n k3] 50) = w6 at *
                  have hxq := HX6.out
                  have q0 := cell_of hxq 0
                  have q1 := cell_of hxq 1
                  have q2 := cell_of hxq 2
                  have q3 := cell_of hxq 3
                  have q4 := cell_of hxq 4
                  simp only [List.getElem?_toArray, List.getElem?_cons_zero, List.getElem?_cons_succ] at q0 q1 q2 q3 q4
                  have hlq := (Array.getElem?_eq_some_iff.1 hxq).1
                  go_wp2_with fail
                  refine (ffits_c A w b r n rm E F _ l' w6 HT6.out.f (HS.out.below HT6.out.below) (HSL.out.below HT6.out.below) (by omega) HFQ.out (by omega)).mono ?_
                  rintro ev w7 ⟨rfl, hb⟩
                  clear hxq hlq q0 q1 q2 q3 q4
                  have HT7 := Lib.hid (HT6.out.bel hb)
                  have HX7 := Lib.hid ((hb.block h13 (Array.getElem?_eq_some_iff.1 HX6.out).1).trans HX6.out)
                  have HO7 := Lib.hid ((hb.block h16 (Array.getElem?_eq_some_iff.1 HO6.out).1).trans HO6.out)
                  have HNE := Lib.hid (show h13 ≠ h16 from fun e => by
                    have h3 := HX6.out
                    rw [e, HO6.out] at h3
                    cases h3)
                  clear hb
                  obtain ⟨fe, hfe⟩ : ∃ fe, fitsE n rm F l' = fe := ⟨_, rfl⟩
                  rw [hfe]
                  have HFE := Lib.hid hfe
                  obtain ⟨ve, hve⟩ : ∃ ve, ErrT.val A fe = ve := ⟨_, rfl⟩
                  rw [hve]
                  have HVE := Lib.hid hve
                  clear hfe hve
                  go_wp2_with fail
                  refine (twin_c w br n rm X V F w7 HT7.out.h HT7.out.g n1 n2 HFQ.out).mono ?_
                  rintro ev w8 ⟨X', V', rfl, hg8, hb8⟩
                  obtain ⟨g0q, o0q, k0q, e0⟩ := hg8.frm n1 0 (by omega)
                  obtain ⟨g1q, o1q, k1q, e1⟩ := hg8.frm n1 1 (by omega)
                  obtain ⟨g2q, o2q, k2q, e2⟩ := hg8.frm n1 2 (by omega)
                  obtain ⟨g3q, o3q, k3q, e3⟩ := hg8.frm n1 3 (by omega)
                  have HE2 := Lib.hid (show hdrV n rm X' = #[.int .i64 n, .int .i64 rm, .slice (some ⟨g0q, o0q, none⟩) n k0q, .slice (some ⟨g1q, o1q, none⟩) n k1q, .slice (some ⟨g2q, o2q, none⟩) n k2q, .slice (some ⟨g3q, o3q, none⟩) n k3q] from by rw [← e0, ← e1, ← e2, ← e3]; rfl)
                  have HFR := Lib.hid (show ∀ q, RfOwn n X' V' q → w7.heap.size ≤ q from fun q hq => (hg8.lt hq).1)
                  have HG8 := Lib.hid (RfB.rebase hg8 HT7.out.below)
                  have HT8 := Lib.hid (HT7.out.bel hb8)
                  have HX8 := Lib.hid ((hb8.block h13 (Array.getElem?_eq_some_iff.1 HX7.out).1).trans HX7.out)
                  have HO8 := Lib.hid ((hb8.block h16 (Array.getElem?_eq_some_iff.1 HO7.out).1).trans HO7.out)
                  have HSZ := Lib.hid (show h16 < w7.heap.size ∧ h13 < w7.heap.size from ⟨(Array.getElem?_eq_some_iff.1 HO7.out).1, (Array.getElem?_eq_some_iff.1 HX7.out).1⟩)
                  rw [HE2.out]
                  clear e0 e1 e2 e3 hg8 hb8
                  have hxoo := HO8.out
                  have oo0 := cell_of hxoo 0
                  have oo1 := cell_of hxoo 1
                  have oo2 := cell_of hxoo 2
                  have oo3 := cell_of hxoo 3
                  have oo4 := cell_of hxoo 4
                  have oo5 := cell_of hxoo 5
                  simp only [List.getElem?_toArray, List.getElem?_cons_zero, List.getElem?_cons_succ] at oo0 oo1 oo2 oo3 oo4 oo5
                  have zoo0 := frozen_of hxoo 0
                  have zoo1 := frozen_of hxoo 1
                  have zoo2 := frozen_of hxoo 2
                  have zoo3 := frozen_of hxoo 3
                  have zoo4 := frozen_of hxoo 4
                  have zoo5 := frozen_of hxoo 5
                  go_upto_region 21 with fail
                  have hs6 := set_six (a0 := .int .i64 n) (a1 := .int .i64 rm) (a2 := .slice (some ⟨g0q, o0q, none⟩) n k0q) (a3 := .slice (some ⟨g1q, o1q, none⟩) n k1q) (a4 := .slice (some ⟨g2q, o2q, none⟩) n k2q) (a5 := .slice (some ⟨g3q, o3q, none⟩) n k3q) hxoo
                  have HH9 := Lib.hid (show RfH h16 n rm X' (setSix w8 h16 (.int .i64 n) (.int .i64 rm) (.slice (some ⟨g0q, o0q, none⟩) n k0q) (.slice (some ⟨g1q, o1q, none⟩) n k1q) (.slice (some ⟨g2q, o2q, none⟩) n k2q) (.slice (some ⟨g3q, o3q, none⟩) n k3q)) from by unfold RfH; rw [HE2.out]; exact hs6)
                  have hM9 := setSix_mods w8 h16 (.int .i64 n) (.int .i64 rm) (.slice (some ⟨g0q, o0q, none⟩) n k0q) (.slice (some ⟨g1q, o1q, none⟩) n k1q) (.slice (some ⟨g2q, o2q, none⟩) n k2q) (.slice (some ⟨g3q, o3q, none⟩) n k3q)
                  have HT9 := Lib.hid (HT8.out.mods ⟨hM9.os, hM9.tape, hM9.output, hM9.size, fun q hq hn => hM9.block q hq fun e => hn (by rw [e]; exact List.mem_cons_self ..)⟩)
                  have HX9 := Lib.hid ((hM9.block h13 (Array.getElem?_eq_some_iff.1 HX8.out).1 HNE.out).trans HX8.out)
                  have HG9 := Lib.hid (HG8.out.keep hM9 (fun q ho (e : q = h16) => by have := HFR.out q ho; have := HSZ.out.1; omega) (fun q (hq : q = h16) => by rw [hq]; exact (HT8.out.kl h16 (List.mem_cons_self ..)).1))
                  have HW9 := Lib.hid hM9.size
                  clear hs6 hM9
                  clear hxoo oo0 oo1 oo2 oo3 oo4 oo5 zoo0 zoo1 zoo2 zoo3 zoo4 zoo5
                  change Code.wp _ _ _ _ (setSix w8 h16 (.int .i64 n) (.int .i64 rm) (.slice (some ⟨g0q, o0q, none⟩) n k0q) (.slice (some ⟨g1q, o1q, none⟩) n k1q) (.slice (some ⟨g2q, o2q, none⟩) n k2q) (.slice (some ⟨g3q, o3q, none⟩) n k3q))
                  generalize setSix w8 h16 (.int .i64 n) (.int .i64 rm) (.slice (some ⟨g0q, o0q, none⟩) n k0q) (.slice (some ⟨g1q, o1q, none⟩) n k1q) (.slice (some ⟨g2q, o2q, none⟩) n k2q) (.slice (some ⟨g3q, o3q, none⟩) n k3q) = w9 at *
                  have hxq := HX9.out
                  have q0 := cell_of hxq 0
                  have q1 := cell_of hxq 1
                  have q2 := cell_of hxq 2
                  have q3 := cell_of hxq 3
                  have q4 := cell_of hxq 4
                  simp only [List.getElem?_toArray, List.getElem?_cons_zero, List.getElem?_cons_succ] at q0 q1 q2 q3 q4
                  have hlq := (Array.getElem?_eq_some_iff.1 hxq).1
                  go_wp2_with fail
                  refine (rsend_c w h16 n rm X' V' F _ l' w9 HH9.out HG9.out (HSL.out.below HT9.out.below) n1 n2 (fun ho => by have := HFR.out h16 ho; have := HSZ.out.1; omega) (fun h0 q hq ho => by have h3 := HAPW.out h0 q hq; have := (HG9.out.lt ho).1; omega) (by omega) HFQ.out (fun p m c e => by simp only [Value.slice.injEq] at e; have := HLC.out; omega)).mono ?_
                  rintro ev w10 ⟨rfl, hp⟩
                  rw [HFE.out]
                  clear hxq hlq q0 q1 q2 q3 q4
                  obtain ⟨V10, _, hm10, _⟩ := hp
                  have HT10 := Lib.hid (HT9.out.keep hm10 (fun q _ ho hS => by
                    have h3 := HFR.out q hS
                    rcases ho with ho | rfl | ho | rfl
                    · have := (FbOwn.lt HT7.out.f ho).2; omega
                    · have := HT7.out.f.lt.1; omega
                    · have := (HT7.out.g.lt ho).2; omega
                    · have := HT7.out.h.lt; omega) fun q hq => (HG9.out.lt hq).1)
                  have HX10 := Lib.hid ((hm10.block h13 (Array.getElem?_eq_some_iff.1 HX9.out).1 fun ho => by have := HFR.out h13 ho; have := HSZ.out.2; omega).trans HX9.out)
                  clear hm10
                  have hxq := HX10.out
                  have q0 := cell_of hxq 0
                  have q1 := cell_of hxq 1
                  have q2 := cell_of hxq 2
                  have q3 := cell_of hxq 3
                  have q4 := cell_of hxq 4
                  simp only [List.getElem?_toArray, List.getElem?_cons_zero, List.getElem?_cons_succ] at q0 q1 q2 q3 q4
                  have hlq := (Array.getElem?_eq_some_iff.1 hxq).1
                  go_upto_region 24 with fail
                  clear hxq hlq q0 q1 q2 q3 q4
                  go_wp2_with fail
                  have hi := is_c A fe (codeE fe) fsT (atE fe) w10 (HS.out.below (HT10.out.below)) (by rw [← HFE.out]; exact fitsE_wf _ _ _ _) (by rw [← HFE.out]; exact (fits_code n rm F l').1) (by rw [← HFE.out]; exact (fits_code n rm F l').2.1)
                  rw [HVE.out] at hi
                  refine hi.mono ?_
                  clear hi
                  rintro ev wi ⟨rfl, hb⟩
                  rw [show isK fe (codeE fe) fsT (atE fe) = true by rw [← HFE.out]; exact (fits_code n rm F l').2.2.1]
                  have TI := Lib.hid (HT10.out.bel hb)
                  have XI := Lib.hid ((hb.block h13 (Array.getElem?_eq_some_iff.1 HX10.out).1).trans HX10.out)
                  clear hb
                  go_wp2_with fail
                  have hi := only_c A fe (codeE fe) wi (HS.out.below (TI.out.below)) (by rw [← HFE.out]; exact fitsE_wf _ _ _ _) (by rw [← HFE.out]; exact (fits_code n rm F l').1) (by rw [← HFE.out]; exact (fits_code n rm F l').2.1)
                  rw [HVE.out] at hi
                  refine hi.mono ?_
                  clear hi
                  rintro ev wj ⟨rfl, hb⟩
                  rw [show onlyK fe (codeE fe) = true by rw [← HFE.out]; exact (fits_code n rm F l').2.2.2]
                  have TJ := Lib.hid (TI.out.bel hb)
                  have XJ := Lib.hid ((hb.block h13 (Array.getElem?_eq_some_iff.1 XI.out).1).trans XI.out)
                  clear hb
                  go_wp2_with fail
                  go_meet
                  case rel => exact ⟨rfl, F, HLE.out, ⟨r, E, X, V, TJ.out.sub (by simp), HTOT.out⟩, XJ.out⟩
                · have f2 : (kd == 2) = false := by simpa using kd2
                  by_cases kd3 : kd = 3
                  · subst kd3
                    have hxq := HX5.out
                    have q0 := cell_of hxq 0
                    have q1 := cell_of hxq 1
                    have q2 := cell_of hxq 2
                    have q3 := cell_of hxq 3
                    have q4 := cell_of hxq 4
                    simp only [List.getElem?_toArray, List.getElem?_cons_zero, List.getElem?_cons_succ] at q0 q1 q2 q3 q4
                    have hlq := (Array.getElem?_eq_some_iff.1 hxq).1
                    go_wp2_with fail
                    refine (fpeek_c w b r n rm pl co kk E F w5 HT5.out.f).mono ?_
                    rintro ev w6 ⟨rfl, hb⟩
                    clear hxq hlq q0 q1 q2 q3 q4
                    have HT6 := Lib.hid (HT5.out.bel hb)
                    have HX6 := Lib.hid ((hb.block h13 (Array.getElem?_eq_some_iff.1 HX5.out).1).trans HX5.out)
                    clear hb
                    obtain ⟨pk, hpk⟩ : ∃ pk, peekP n F pl co kk = pk := ⟨_, rfl⟩
                    rw [hpk]
                    have HPK := Lib.hid hpk
                    clear hpk
                    obtain ⟨M, mb⟩ := pk
                    obtain ⟨x1, x2, x3, x4, x5, x6, x7, x8, x9, x10, x11, x12, x13⟩ := M
                    simp only [MsgV.v]
                    go_upto_region 27 with fail
                    obtain ⟨h19, hh⟩ : ∃ h, h = w6.heap.size := ⟨_, rfl⟩
                    have hb : Below w6.heap.size w6 (w6.alloc (.cells #[.int .i64 x1, .int .i64 x2, .int .i64 x3, .int .i64 x4, .int .i64 x5, .int .i64 x6, .int .i64 x7, .int .u32 x8, .int .u32 x9, .int .u32 x10, .int .u32 x11, .int .u32 x12, .bool x13] 32)) := (Below.refl _ _).alloc (Nat.le_refl _) _
                    have HY7 := Lib.hid (show (w6.alloc (.cells #[.int .i64 x1, .int .i64 x2, .int .i64 x3, .int .i64 x4, .int .i64 x5, .int .i64 x6, .int .i64 x7, .int .u32 x8, .int .u32 x9, .int .u32 x10, .int .u32 x11, .int .u32 x12, .bool x13] 32)).heap[h19]? = some (.cells #[.int .i64 x1, .int .i64 x2, .int .i64 x3, .int .i64 x4, .int .i64 x5, .int .i64 x6, .int .i64 x7, .int .u32 x8, .int .u32 x9, .int .u32 x10, .int .u32 x11, .int .u32 x12, .bool x13] 32 (0, 0)) from by rw [hh]; exact heap_alloc_new _ _)
                    have HT7 := Lib.hid (HT6.out.bel hb)
                    have HX7 := Lib.hid ((hb.block h13 (Array.getElem?_eq_some_iff.1 HX6.out).1).trans HX6.out)
                    rw [← hh]
                    clear hb hh
                    generalize w6.alloc (.cells #[.int .i64 x1, .int .i64 x2, .int .i64 x3, .int .i64 x4, .int .i64 x5, .int .i64 x6, .int .i64 x7, .int .u32 x8, .int .u32 x9, .int .u32 x10, .int .u32 x11, .int .u32 x12, .bool x13] 32) = w7 at *
                    have hxq := HX7.out
                    have q0 := cell_of hxq 0
                    have q1 := cell_of hxq 1
                    have q2 := cell_of hxq 2
                    have q3 := cell_of hxq 3
                    have q4 := cell_of hxq 4
                    simp only [List.getElem?_toArray, List.getElem?_cons_zero, List.getElem?_cons_succ] at q0 q1 q2 q3 q4
                    have hlq := (Array.getElem?_eq_some_iff.1 hxq).1
                    go_wp2_with fail
                    refine (rpeek_c w br n rm X V F pl co kk w7 HT7.out.h HT7.out.g n1 n2).mono ?_
                    rintro ev w8 ⟨rfl, hb⟩
                    clear hxq hlq q0 q1 q2 q3 q4
                    rw [HPK.out]
                    simp only [MsgV.v]
                    have HT8 := Lib.hid (HT7.out.bel hb)
                    have HX8 := Lib.hid ((hb.block h13 (Array.getElem?_eq_some_iff.1 HX7.out).1).trans HX7.out)
                    have HZ8 := Lib.hid ((hb.block h19 (Array.getElem?_eq_some_iff.1 HY7.out).1).trans HY7.out)
                    clear hb
                    go_upto_region 28 with fail
                    obtain ⟨h21, hh⟩ : ∃ h, h = w8.heap.size := ⟨_, rfl⟩
                    have hb : Below w8.heap.size w8 (w8.alloc (.cells #[.int .i64 x1, .int .i64 x2, .int .i64 x3, .int .i64 x4, .int .i64 x5, .int .i64 x6, .int .i64 x7, .int .u32 x8, .int .u32 x9, .int .u32 x10, .int .u32 x11, .int .u32 x12, .bool x13] 32)) := (Below.refl _ _).alloc (Nat.le_refl _) _
                    have HY9 := Lib.hid (show (w8.alloc (.cells #[.int .i64 x1, .int .i64 x2, .int .i64 x3, .int .i64 x4, .int .i64 x5, .int .i64 x6, .int .i64 x7, .int .u32 x8, .int .u32 x9, .int .u32 x10, .int .u32 x11, .int .u32 x12, .bool x13] 32)).heap[h21]? = some (.cells #[.int .i64 x1, .int .i64 x2, .int .i64 x3, .int .i64 x4, .int .i64 x5, .int .i64 x6, .int .i64 x7, .int .u32 x8, .int .u32 x9, .int .u32 x10, .int .u32 x11, .int .u32 x12, .bool x13] 32 (0, 0)) from by rw [hh]; exact heap_alloc_new _ _)
                    have HT9 := Lib.hid (HT8.out.bel hb)
                    have HX9 := Lib.hid ((hb.block h13 (Array.getElem?_eq_some_iff.1 HX8.out).1).trans HX8.out)
                    have HZ9 := Lib.hid ((hb.block h19 (Array.getElem?_eq_some_iff.1 HZ8.out).1).trans HZ8.out)
                    rw [← hh]
                    clear hb hh
                    generalize w8.alloc (.cells #[.int .i64 x1, .int .i64 x2, .int .i64 x3, .int .i64 x4, .int .i64 x5, .int .i64 x6, .int .i64 x7, .int .u32 x8, .int .u32 x9, .int .u32 x10, .int .u32 x11, .int .u32 x12, .bool x13] 32) = w9 at *
                    have hxu := HZ9.out
                    have u0 := cell_of hxu 0
                    have u1 := cell_of hxu 1
                    have u2 := cell_of hxu 2
                    have u3 := cell_of hxu 3
                    have u4 := cell_of hxu 4
                    have u5 := cell_of hxu 5
                    have u6 := cell_of hxu 6
                    have u7 := cell_of hxu 7
                    have u8 := cell_of hxu 8
                    have u9 := cell_of hxu 9
                    have u10 := cell_of hxu 10
                    have u11 := cell_of hxu 11
                    have u12 := cell_of hxu 12
                    simp only [List.getElem?_toArray, List.getElem?_cons_zero, List.getElem?_cons_succ] at u0 u1 u2 u3 u4 u5 u6 u7 u8 u9 u10 u11 u12
                    have hlu := (Array.getElem?_eq_some_iff.1 hxu).1
                    have hxv := HY9.out
                    have v0 := cell_of hxv 0
                    have v1 := cell_of hxv 1
                    have v2 := cell_of hxv 2
                    have v3 := cell_of hxv 3
                    have v4 := cell_of hxv 4
                    have v5 := cell_of hxv 5
                    have v6 := cell_of hxv 6
                    have v7 := cell_of hxv 7
                    have v8 := cell_of hxv 8
                    have v9 := cell_of hxv 9
                    have v10 := cell_of hxv 10
                    have v11 := cell_of hxv 11
                    have v12 := cell_of hxv 12
                    simp only [List.getElem?_toArray, List.getElem?_cons_zero, List.getElem?_cons_succ] at v0 v1 v2 v3 v4 v5 v6 v7 v8 v9 v10 v11 v12
                    have hlv := (Array.getElem?_eq_some_iff.1 hxv).1
                    have heq := fun w => run_eqMs x1 x2 x3 x4 x5 x6 x7 x8 x9 x10 x11 x12 x1 x2 x3 x4 x5 x6 x7 x8 x9 x10 x11 x12 x13 x13 w
                    rw [(eqM_iff _ _).2 rfl] at heq
                    go_wp2_with fail
                    go_meet
                    case rel => exact ⟨rfl, F, HLE.out, ⟨r, E, X, V, HT9.out, HTOT.out⟩, HX9.out⟩
                  · have f3 : (kd == 3) = false := by simpa using kd3
                    by_cases kd4 : kd = 4
                    · subst kd4
                      have hxq := HX5.out
                      have q0 := cell_of hxq 0
                      have q1 := cell_of hxq 1
                      have q2 := cell_of hxq 2
                      have q3 := cell_of hxq 3
                      have q4 := cell_of hxq 4
                      simp only [List.getElem?_toArray, List.getElem?_cons_zero, List.getElem?_cons_succ] at q0 q1 q2 q3 q4
                      have hlq := (Array.getElem?_eq_some_iff.1 hxq).1
                      go_wp2_with fail
                      refine (ftake_c w b r n rm pl co kk E F w5 HT5.out.f).mono ?_
                      rintro ev w6 ⟨rfl, hp⟩
                      clear hxq hlq q0 q1 q2 q3 q4
                      obtain ⟨E6, ht6, hk6, htt6⟩ := HT5.out.postF hp
                      have HT6 := Lib.hid ht6
                      have HTT := Lib.hid htt6
                      have HX6 := Lib.hid (hk6.at (List.mem_cons_self ..) HX5.out)
                      clear hp ht6 hk6 htt6
                      obtain ⟨pk, hpk⟩ : ∃ pk, peekP n F pl co kk = pk := ⟨_, rfl⟩
                      rw [hpk]
                      have HPK := Lib.hid hpk
                      clear hpk
                      obtain ⟨M, mb⟩ := pk
                      obtain ⟨x1, x2, x3, x4, x5, x6, x7, x8, x9, x10, x11, x12, x13⟩ := M
                      simp only [MsgV.v]
                      go_upto_region 31 with fail
                      obtain ⟨h23, hh⟩ : ∃ h, h = w6.heap.size := ⟨_, rfl⟩
                      have hb : Below w6.heap.size w6 (w6.alloc (.cells #[.int .i64 x1, .int .i64 x2, .int .i64 x3, .int .i64 x4, .int .i64 x5, .int .i64 x6, .int .i64 x7, .int .u32 x8, .int .u32 x9, .int .u32 x10, .int .u32 x11, .int .u32 x12, .bool x13] 32)) := (Below.refl _ _).alloc (Nat.le_refl _) _
                      have HY7 := Lib.hid (show (w6.alloc (.cells #[.int .i64 x1, .int .i64 x2, .int .i64 x3, .int .i64 x4, .int .i64 x5, .int .i64 x6, .int .i64 x7, .int .u32 x8, .int .u32 x9, .int .u32 x10, .int .u32 x11, .int .u32 x12, .bool x13] 32)).heap[h23]? = some (.cells #[.int .i64 x1, .int .i64 x2, .int .i64 x3, .int .i64 x4, .int .i64 x5, .int .i64 x6, .int .i64 x7, .int .u32 x8, .int .u32 x9, .int .u32 x10, .int .u32 x11, .int .u32 x12, .bool x13] 32 (0, 0)) from by rw [hh]; exact heap_alloc_new _ _)
                      have HT7 := Lib.hid (HT6.out.add hb h23 (by omega) (by rw [hh]; simp))
                      have HX7 := Lib.hid ((hb.block h13 (Array.getElem?_eq_some_iff.1 HX6.out).1).trans HX6.out)
                      rw [← hh]
                      clear hb hh
                      generalize w6.alloc (.cells #[.int .i64 x1, .int .i64 x2, .int .i64 x3, .int .i64 x4, .int .i64 x5, .int .i64 x6, .int .i64 x7, .int .u32 x8, .int .u32 x9, .int .u32 x10, .int .u32 x11, .int .u32 x12, .bool x13] 32) = w7 at *
                      have hxq := HX7.out
                      have q0 := cell_of hxq 0
                      have q1 := cell_of hxq 1
                      have q2 := cell_of hxq 2
                      have q3 := cell_of hxq 3
                      have q4 := cell_of hxq 4
                      simp only [List.getElem?_toArray, List.getElem?_cons_zero, List.getElem?_cons_succ] at q0 q1 q2 q3 q4
                      have hlq := (Array.getElem?_eq_some_iff.1 hxq).1
                      go_wp2_with fail
                      refine (rtake_c w br n rm X V F pl co kk w7 HT7.out.h HT7.out.g n1 n2 HFQ.out).mono ?_
                      rintro ev w8 ⟨rfl, hp⟩
                      clear hxq hlq q0 q1 q2 q3 q4
                      rw [HPK.out]
                      simp only [MsgV.v]
                      obtain ⟨V8, ht8, hk8⟩ := HT7.out.postG hp
                      have HT8 := Lib.hid ht8
                      have HX8 := Lib.hid (hk8.at (by simp) HX7.out)
                      have HZ8 := Lib.hid (hk8.at (List.mem_cons_self ..) HY7.out)
                      clear hp ht8 hk8
                      go_upto_region 32 with fail
                      obtain ⟨h25, hh⟩ : ∃ h, h = w8.heap.size := ⟨_, rfl⟩
                      have hb : Below w8.heap.size w8 (w8.alloc (.cells #[.int .i64 x1, .int .i64 x2, .int .i64 x3, .int .i64 x4, .int .i64 x5, .int .i64 x6, .int .i64 x7, .int .u32 x8, .int .u32 x9, .int .u32 x10, .int .u32 x11, .int .u32 x12, .bool x13] 32)) := (Below.refl _ _).alloc (Nat.le_refl _) _
                      have HY9 := Lib.hid (show (w8.alloc (.cells #[.int .i64 x1, .int .i64 x2, .int .i64 x3, .int .i64 x4, .int .i64 x5, .int .i64 x6, .int .i64 x7, .int .u32 x8, .int .u32 x9, .int .u32 x10, .int .u32 x11, .int .u32 x12, .bool x13] 32)).heap[h25]? = some (.cells #[.int .i64 x1, .int .i64 x2, .int .i64 x3, .int .i64 x4, .int .i64 x5, .int .i64 x6, .int .i64 x7, .int .u32 x8, .int .u32 x9, .int .u32 x10, .int .u32 x11, .int .u32 x12, .bool x13] 32 (0, 0)) from by rw [hh]; exact heap_alloc_new _ _)
                      have HT9 := Lib.hid (HT8.out.bel hb)
                      have HX9 := Lib.hid ((hb.block h13 (Array.getElem?_eq_some_iff.1 HX8.out).1).trans HX8.out)
                      have HZ9 := Lib.hid ((hb.block h23 (Array.getElem?_eq_some_iff.1 HZ8.out).1).trans HZ8.out)
                      rw [← hh]
                      clear hb hh
                      generalize w8.alloc (.cells #[.int .i64 x1, .int .i64 x2, .int .i64 x3, .int .i64 x4, .int .i64 x5, .int .i64 x6, .int .i64 x7, .int .u32 x8, .int .u32 x9, .int .u32 x10, .int .u32 x11, .int .u32 x12, .bool x13] 32) = w9 at *
                      have hxu := HZ9.out
                      have u0 := cell_of hxu 0
                      have u1 := cell_of hxu 1
                      have u2 := cell_of hxu 2
                      have u3 := cell_of hxu 3
                      have u4 := cell_of hxu 4
                      have u5 := cell_of hxu 5
                      have u6 := cell_of hxu 6
                      have u7 := cell_of hxu 7
                      have u8 := cell_of hxu 8
                      have u9 := cell_of hxu 9
                      have u10 := cell_of hxu 10
                      have u11 := cell_of hxu 11
                      have u12 := cell_of hxu 12
                      simp only [List.getElem?_toArray, List.getElem?_cons_zero, List.getElem?_cons_succ] at u0 u1 u2 u3 u4 u5 u6 u7 u8 u9 u10 u11 u12
                      have hlu := (Array.getElem?_eq_some_iff.1 hxu).1
                      have hxv := HY9.out
                      have v0 := cell_of hxv 0
                      have v1 := cell_of hxv 1
                      have v2 := cell_of hxv 2
                      have v3 := cell_of hxv 3
                      have v4 := cell_of hxv 4
                      have v5 := cell_of hxv 5
                      have v6 := cell_of hxv 6
                      have v7 := cell_of hxv 7
                      have v8 := cell_of hxv 8
                      have v9 := cell_of hxv 9
                      have v10 := cell_of hxv 10
                      have v11 := cell_of hxv 11
                      have v12 := cell_of hxv 12
                      simp only [List.getElem?_toArray, List.getElem?_cons_zero, List.getElem?_cons_succ] at v0 v1 v2 v3 v4 v5 v6 v7 v8 v9 v10 v11 v12
                      have hlv := (Array.getElem?_eq_some_iff.1 hxv).1
                      have heq := fun w => run_eqMs x1 x2 x3 x4 x5 x6 x7 x8 x9 x10 x11 x12 x1 x2 x3 x4 x5 x6 x7 x8 x9 x10 x11 x12 x13 x13 w
                      rw [(eqM_iff _ _).2 rfl] at heq
                      go_wp2_with fail
                      go_meet
                      case rel => exact ⟨rfl, takeF n F pl co kk, HLE.out.take n pl co kk, ⟨r, E6, X, V8, HT9.out.sub (by simp), by have h3 := HTT.out; have h4 := HTOT.out; have h5 := totR_take (F := F) n1 pl co kk; omega⟩, HX9.out⟩
                    · have f4 : (kd == 4) = false := by simpa using kd4
                      have hxq := HX5.out
                      have q0 := cell_of hxq 0
                      have q1 := cell_of hxq 1
                      have q2 := cell_of hxq 2
                      have q3 := cell_of hxq 3
                      have q4 := cell_of hxq 4
                      simp only [List.getElem?_toArray, List.getElem?_cons_zero, List.getElem?_cons_succ] at q0 q1 q2 q3 q4
                      have hlq := (Array.getElem?_eq_some_iff.1 hxq).1
                      go_wp2_with fail
                      go_meet
                      case rel => exact ⟨rfl, F, HLE.out, ⟨r, E, X, V, HT5.out, HTOT.out⟩, HX5.out⟩
            case rest =>
              obtain ⟨rfl, F', hle', hp', hx'⟩ := hcut
              have HLE2 := Lib.hid hle'
              obtain ⟨r', E', X', V', ht', htot'⟩ := hp'
              have HTT := Lib.hid ht'
              have HTO := Lib.hid htot'
              have HX9 := Lib.hid hx'
              clear hle' ht' htot' hx' HT5 HX5
              generalize wc = w9 at *
              go_upto_region 33 with fail
              have hxq := HX9.out
              have q0 := cell_of hxq 0
              have q1 := cell_of hxq 1
              have q2 := cell_of hxq 2
              have q3 := cell_of hxq 3
              have q4 := cell_of hxq 4
              simp only [List.getElem?_toArray, List.getElem?_cons_zero, List.getElem?_cons_succ] at q0 q1 q2 q3 q4
              have hlq := (Array.getElem?_eq_some_iff.1 hxq).1
              refine wp_region_lexA ⟨[25, 26], []⟩ (fun x => Below w9.heap.size w9 x) (by kernel_rfl) (by kernel_rfl) (Below.refl _ _).drew ?_
              intro S hto hof hne
              have y1 : ∀ z : Wd S, z.w.cell? ⟨h13, 1, none⟩ = some (.int .i64 pl) := fun z => ((hto z).cell (p := ⟨h13, 1, none⟩) hlq).trans q1
              have y2 : ∀ z : Wd S, z.w.cell? ⟨h13, 2, none⟩ = some (.int .i64 co) := fun z => ((hto z).cell (p := ⟨h13, 2, none⟩) hlq).trans q2
              have Hof := Lib.hid hof
              have HTO2 := Lib.hid hto
              have HB := Lib.hid (show Below w9.heap.size w9 w9.drew from (Below.refl _ _).drew)
              have htl : totR n F' ≤ 1000000 := by
                have h3 := totR_le (n := n) HLE2.out
                have h4 : n * rm ≤ 64 * 64 := Nat.mul_le_mul n2 rm2
                omega
              obtain ⟨tt, htt⟩ : ∃ tt, totR n F' = tt := ⟨_, rfl⟩
              have HTQ := Lib.hid htt
              clear hto hof hxq hlq q0 q1 q2 q3 q4
              rw [htt] at htl
              clear htt
              refine lexW_light 4 (by kernel_rfl) ?_
              simp only [List.take_succ_cons, List.take_zero, List.drop_succ_cons, List.drop_zero]
              repeat (first | go_big_quiet_skip | (go_big_quiet_want; go_big_quiet_op; go_big_quiet_on))
              refine wpQuiet_nil ?_
              refine lexW_heavy (by kernel_rfl) ?_
              go_wp2_with fail
              refine (fall_c w b r' n rm E' F' w9.drew (HTT.out.bel HB.out).f (by rw [HTO.out, HTQ.out]; exact htl)).mono ?_
              rintro ev wi ⟨rfl, hb⟩
              rw [HTO.out, HTQ.out]
              have HB := Lib.hid (HB.out.trans (hb.mono HB.out.size))
              clear hb
              go_wp2_with fail
              refine lexQ_more (Hof.out _ HB.out) ?_
              refine lexW_light 1 (by kernel_rfl) ?_
              simp only [List.take_succ_cons, List.take_zero, List.drop_succ_cons, List.drop_zero]
              repeat (first | go_big_quiet_skip | (go_big_quiet_want; go_big_quiet_op; go_big_quiet_on))
              refine wpQuiet_nil ?_
              refine lexW_pure (by kernel_rfl) (by rfl) rfl Tryd.func25 rfl (by kernel_rfl) (fun x => rall_c w br n rm rm X' V' F' x.w (HTT.out.bel (HTO2.out x)).h (HTT.out.bel (HTO2.out x)).g n1 n2 (by omega) HLE2.out) (by go_simp) ?_
              simp only [Act.put, List.setIfInBounds_toArray, List.set_cons_zero, List.set_cons_succ]
              rw [HTQ.out]
              refine lexW_light 8 (by kernel_rfl) ?_
              simp only [List.take_succ_cons, List.take_zero, List.drop_succ_cons, List.drop_zero]
              repeat (first | go_big_quiet_skip | (go_big_quiet_want; go_big_quiet_op; go_big_quiet_on))
              refine wpQuiet_nil ?_
              refine lexW_heavy (by kernel_rfl) ?_
              go_wp2_with fail
              refine (flen_c w b r' n rm pl co E' F' wi (HTT.out.bel HB.out).f).mono ?_
              rintro ev wj ⟨rfl, hb⟩
              have HB := Lib.hid (HB.out.trans (hb.mono HB.out.size))
              clear hb
              go_wp2_with fail
              refine lexQ_more (Hof.out _ HB.out) ?_
              refine lexW_light 5 (by kernel_rfl) ?_
              simp only [List.take_succ_cons, List.take_zero, List.drop_succ_cons, List.drop_zero]
              repeat (first | go_big_quiet_skip | (go_big_quiet_want; go_big_quiet_op; go_big_quiet_on))
              refine wpQuiet_nil ?_
              refine lexW_pure (by kernel_rfl) (by rfl) rfl Tryd.func26 rfl (by kernel_rfl) (fun x => rlen_c w br n rm X' V' F' pl co x.w (HTT.out.bel (HTO2.out x)).h (HTT.out.bel (HTO2.out x)).g n1 n2) (by go_simp) ?_
              simp only [Act.put, List.setIfInBounds_toArray, List.set_cons_zero, List.set_cons_succ]
              refine lexW_light 2 (by kernel_rfl) ?_
              simp only [List.take_succ_cons, List.take_zero, List.drop_succ_cons, List.drop_zero]
              repeat (first | go_big_quiet_skip | (go_big_quiet_want; go_big_quiet_op; go_big_quiet_on))
              refine wpQuiet_nil ?_
              refine lexW_done ?_
              clear y1 y2 Hof HTO2 hne
              go_wp2_with fail
              go_roundw
              case rel => exact ⟨i + 1, F', by go_num, by omega, HLE2.out, ⟨r', E', X', V', (HTT.out.bel HB.out).sub (fun q hq => by cases hq), HTO.out⟩⟩
              case measure => simp [intOf] <;> omega
        · have k3 : decide (i < 50) = false := by simpa using hi5
          have k4 : decide ((i : Int) < 50) = false := by simp; omega
          have HBW := Lib.hid (show Below w.heap.size w wr from by obtain ⟨_, _, _, _, h, _⟩ := HP.out; exact h.below)
          go_wp2_with fail
          refine (fabricRuns A wr (HS.out.below HBW.out)).mono ?_
          rintro ev w4 ⟨rfl, hb⟩
          have HBW := Lib.hid (HBW.out.trans (hb.mono HBW.out.size))
          clear hb
          go_wp2_with fail
          go_ret
          exact ⟨rfl, HBW.out⟩
      · have k1 : decide (i < na) = false := by simpa using hin
        have k2 : decide ((i : Int) < (na : Int)) = false := by simp; omega
        have HBW := Lib.hid (show Below w.heap.size w wr from by obtain ⟨_, _, _, _, h, _⟩ := HP.out; exact h.below)
        go_wp2_with fail
        refine (fabricRuns A wr (HS.out.below HBW.out)).mono ?_
        rintro ev w4 ⟨rfl, hb⟩
        have HBW := Lib.hid (HBW.out.trans (hb.mono HBW.out.size))
        clear hb
        go_wp2_with fail
        go_ret
        exact ⟨rfl, HBW.out⟩
  · obtain ⟨at_, hat⟩ : ∃ a : Int, a = (if 1 ≤ cores ∧ cores ≤ 64 then 1 else 0) := ⟨_, rfl⟩
    have HAT := Lib.hid hat
    have HFE := Lib.hid (show fnewE cores room = .wrap fbT at_ (.sent 0) from by unfold fnewE; rw [if_neg hok, hat])
    have HOK := Lib.hid hok
    clear hat hok
    go_enter Tryd.func4, Tryd.ntmps4
    go_wp2_with fail
    refine (fnew_bad A cores room w HS.out HOK.out).mono ?_
    rintro ev w' ⟨rfl, hww⟩
    obtain rfl := hww
    rw [HFE.out]
    obtain ⟨ve, hve⟩ : ∃ ve, (ErrT.wrap fbT at_ (.sent 0)).val A = ve := ⟨_, rfl⟩
    have HVE := Lib.hid hve
    rw [hve]
    clear hve
    go_wp2_with fail
    refine (rnew_bad cores room w HOK.out).mono ?_
    rintro ev w' ⟨rfl, hww⟩
    obtain rfl := hww
    rw [← HAT.out]
    go_wp2_with fail
    have hi := is_c A (.wrap fbT at_ (.sent 0)) 1 fbT at_ w HS.out ⟨rfl, show (0 : Nat) < 10 by omega⟩ (by omega) (by omega)
    rw [HVE.out] at hi
    refine hi.mono ?_
    clear hi
    rintro ev w1 ⟨rfl, hb⟩
    rw [show isK (.wrap fbT at_ (.sent 0)) 1 fbT at_ = true by simp [isK, ErrT.code]]
    have HB := Lib.hid hb
    clear hb
    go_wp2_with fail
    go_loopw [12] (fun s12 wr => s12 = .int .i64 0 ∧ Below w.heap.size w wr) (fun _ _ => 0)
    case atStart => exact ⟨rfl, HB.out⟩
    case round =>
      clear HB
      obtain ⟨rfl, hb⟩ := hrel
      have HB := Lib.hid hb
      clear hb
      by_cases h0 : 0 < na
      · have k1 : decide (0 < na) = true := by simpa using h0
        have k2 : decide (0 < (na : Int)) = true := by simp; omega
        go_wp2_with fail
        refine (fabricRuns A wr (HS.out.below HB.out)).mono ?_
        rintro ev w4 ⟨rfl, hb⟩
        have HB := Lib.hid (HB.out.trans (hb.mono HB.out.size))
        clear hb
        go_wp2_with fail
        go_ret
        exact ⟨rfl, HB.out⟩
      · have k1 : decide (0 < na) = false := by simpa using h0
        have k2 : decide (0 < (na : Int)) = false := by simp; omega
        go_wp2_with fail
        refine (fabricRuns A wr (HS.out.below HB.out)).mono ?_
        rintro ev w4 ⟨rfl, hb⟩
        have HB := Lib.hid (HB.out.trans (hb.mono HB.out.size))
        clear hb
        go_wp2_with fail
        go_ret
        exact ⟨rfl, HB.out⟩
end
end Go.Proofs.YtbefkkefglkleaaDoor
