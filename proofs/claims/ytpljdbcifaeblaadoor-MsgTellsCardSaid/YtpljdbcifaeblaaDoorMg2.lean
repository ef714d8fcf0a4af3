/- msg.Put. -/
import Derived.Test.YtpljdbcifaeblaaDoorMg1
import Derived.Test.YtpljdbcifaeblaaDoorPk2
import Derived.Test.YtpljdbcifaeblaaDoorPg3
import Derived.Deep.Cut
import Derived.Deep.CutRange
import Derived.Deep.CutBlock
namespace Go.Proofs.YtpljdbcifaeblaaDoor
open Go.RowKit Go.Extern.Stop Go.Stop Go.Extern

def intV (l : List Int) : List Value := l.map fun n => .int .i64 n
theorem intV_length (l : List Int) : (intV l).length = l.length := by simp [intV]
theorem intV_append (l r : List Int) : intV (l ++ r) = intV l ++ intV r := by simp [intV]
theorem intV_one (l : List Int) : ∀ u ∈ intV l, u.oneCell' = true := by
  intro u hu
  simp only [intV, List.mem_map] at hu
  obtain ⟨n, _, rfl⟩ := hu
  rfl
theorem intV_at {l : List Int} {i : Nat} {n : Int} (h : l[i]? = some n) : (intV l)[i]? = some (.int .i64 n) := by simp [intV, h]
theorem nInfoI64 : (Tryd.prog.info? 3).map (fun i => (i.zero, i.size, i.bytes)) = some (some (.int .i64 0), 1, 8) := by kernel_rfl
/-- A fresh row that was built of cells. -/
theorem winRow_built (w : World) (base : Nat) (e : TypeId) (size n : Nat) (cs : List Value) (h : cs.length = n * size) (hn : n ≤ maxLen) (hb : base ≤ w.heap.size) : winRow (w.alloc (.cells cs.toArray e)) base e size (.slice (some ⟨w.heap.size, 0, none⟩) n n) n cs :=
  ⟨h, .inr ⟨w.heap.size, 0, n, cs.toArray, rfl, hb, heap_alloc_new w _, Nat.le_refl _, hn, by simp [h], by simp [← h]⟩⟩
def encL : List Int → List Nat
  | [] => []
  | n :: l => enc (zig n) ++ encL l
theorem encL_append (l r : List Int) : encL (l ++ r) = encL l ++ encL r := by
  induction l with
  | nil => rfl
  | cons n l ih => simp [encL, ih]
theorem encL_take {l : List Int} {i : Nat} {n : Int} (h : l[i]? = some n) : encL (l.take (i + 1)) = encL (l.take i) ++ enc (zig n) := by
  obtain ⟨h1, h2⟩ := List.getElem?_eq_some_iff.1 h
  rw [← List.take_append_getElem h1, encL_append, h2]
  simp [encL]
theorem encL_len : ∀ (l : List Int), (∀ n ∈ l, in64 n) → (encL l).length ≤ 10 * l.length
  | [], _ => by simp [encL]
  | n :: l, h => by
    have h1 := enc_len10 (zig_lt (h n (List.mem_cons_self ..)))
    have h2 := encL_len l fun x hx => h x (List.mem_cons_of_mem _ hx)
    simp only [encL, List.length_append, List.length_cons]
    omega
def numsA (m : MsgV) : List Int := [m.kind, m.core, m.line] ++ ((if mgW m.kind then [m.word, m.val] else []) ++ ((if mg9 m.kind then [m.epoch] else []) ++ ((if mgM m.kind then [m.mode] else []) ++ ((if mgD m.kind then [m.epoch] else []) ++ (if mgS m.kind then [m.state, hasN m.has] else [])))))
def numsM (m : MsgV) : List Int := numsA m ++ (if m.has then [m.d0, m.d1, m.d2, m.d3] else [])
theorem encL_if1 (b : Bool) (x : Int) : encL (if b then [x] else []) = encIf b x := by cases b <;> simp [encL, encIf]
theorem encL_if2 (b : Bool) (x y : Int) : encL (if b then [x, y] else []) = encIf b x ++ encIf b y := by cases b <;> simp [encL, encIf]
theorem encL_if4 (b : Bool) (x y z q : Int) : encL (if b then [x, y, z, q] else []) = encIf b x ++ (encIf b y ++ (encIf b z ++ encIf b q)) := by cases b <;> simp [encL, encIf]
theorem encL_nums (m : MsgV) : encL (numsM m) = encM m := by
  unfold numsM numsA encM
  simp only [encL_append, encL_if1, encL_if2, encL_if4, List.append_assoc]
  simp [encL, encIf]
theorem in64_has (b : Bool) : in64 (hasN b) := by cases b <;> simp [hasN, in64]
theorem numsM_fit {m : MsgV} (hf : m.fit) : ∀ n ∈ numsM m, in64 n := by
  have a1 := hf.kind
  have a2 := hf.core
  have a3 := hf.line
  have a4 := hf.state
  have a5 := hf.mode
  have a6 := hf.epoch
  have a7 := hf.word
  have a8 := hf.val.big
  have a9 := hf.d0.big
  have a10 := hf.d1.big
  have a11 := hf.d2.big
  have a12 := hf.d3.big
  have a13 := in64_has m.has
  have i1 : ∀ (c : Bool) (x n : Int), in64 x → n ∈ (if c then [x] else []) → in64 n := fun c x n hx hn => by cases c <;> simp at hn; rw [hn]; exact hx
  have i2 : ∀ (c : Bool) (x y n : Int), in64 x → in64 y → n ∈ (if c then [x, y] else []) → in64 n := fun c x y n hx hy hn => by
    cases c <;> simp at hn
    rcases hn with rfl | rfl <;> assumption
  intro n hn
  simp only [numsM, numsA, List.mem_append, List.mem_cons, List.not_mem_nil, or_false] at hn
  rcases hn with ((rfl | rfl | rfl) | hn | hn | hn | hn | hn) | hn
  · exact a1
  · exact a2
  · exact a3
  · exact i2 _ _ _ _ a7 a8 hn
  · exact i1 _ _ _ a6 hn
  · exact i1 _ _ _ a5 hn
  · exact i1 _ _ _ a6 hn
  · exact i2 _ _ _ _ a4 a13 hn
  · split at hn
    · simp only [List.mem_cons, List.not_mem_nil, or_false] at hn
      rcases hn with rfl | rfl | rfl | rfl <;> assumption
    · cases hn
theorem numsM_len (m : MsgV) : (numsA m).length ≤ 11 ∧ (numsM m).length ≤ 15 := by
  have i1 : ∀ (c : Bool) (x : Int), (if c then [x] else []).length ≤ 1 := fun c x => by cases c <;> simp
  have i2 : ∀ (c : Bool) (x y : Int), (if c then [x, y] else []).length ≤ 2 := fun c x y => by cases c <;> simp
  have i4 : (if m.has then [m.d0, m.d1, m.d2, m.d3] else []).length ≤ 4 := by split <;> simp
  have e1 := i2 (mgW m.kind) m.word m.val
  have e2 := i1 (mg9 m.kind) m.epoch
  have e3 := i1 (mgM m.kind) m.mode
  have e4 := i1 (mgD m.kind) m.epoch
  have e5 := i2 (mgS m.kind) m.state (hasN m.has)
  simp only [numsM, numsA, List.length_append, List.length_cons, List.length_nil]
  omega
/-- What Put answers. -/
def putM (m : MsgV) : List Nat := if rightM m then encM m else []
def MPutP (w : World) (m : MsgV) (ev : Ending) (w' : World) : Prop :=
  ∃ u, ev = .returned u ∧ winRow w' w.heap.size 5 1 u (putM m).length (byteV (putM m)) ∧ Below w.heap.size w w'
/-- The message, and the numbers so far. -/
structure PSt (w : World) (h1 : Nat) (m : MsgV) (s : Value) (nl : Nat) (l : List Int) (wx : World) : Prop where
  row : winRow wx (h1 + 1) 3 1 s nl (intV l)
  msg : wx.heap[h1]? = some (.cells #[.int .i64 m.kind, .int .i64 m.core, .int .i64 m.line, .int .i64 m.state, .int .i64 m.mode, .int .i64 m.epoch, .int .i64 m.word, .int .u32 m.val, .int .u32 m.d0, .int .u32 m.d1, .int .u32 m.d2, .int .u32 m.d3, .bool m.has] 54 (0, 0))
  below : Below w.heap.size w wx
  lo : w.heap.size ≤ h1
section
variable {w wr wq wz : World} {h1 : Nat} {m : MsgV} {s : Value} {nl : Nat} {l : List Int}
theorem PSt.lt (h : PSt w h1 m s nl l wr) : h1 < wr.heap.size := (Array.getElem?_eq_some_iff.1 h.msg).1
theorem PSt.bel (h : PSt w h1 m s nl l wr) (hb : Below wr.heap.size wr wq) : PSt w h1 m s nl l wq :=
  ⟨h.row.below hb, (hb.block h1 h.lt).trans h.msg, h.below.trans (hb.mono h.below.size), h.lo⟩
theorem PSt.more {n : List Int} {g off cap k : Nat} (h : PSt w h1 m s nl l wr) (hall : Below wr.heap.size wr wq)
    (hrow : winRow wz (h1 + 1) 3 1 (.slice (some ⟨g, off, none⟩) (nl + k) cap) (nl + k) (intV l ++ intV n)) (hgrow : wq.grownBy wz s.ownBlock) : PSt w h1 m (.slice (some ⟨g, off, none⟩) (nl + k) cap) (nl + k) (l ++ n) wz := by
  have h2 := h.bel hall
  have hM : Mods (fun k => s.ownBlock = some k) wq wz := Mods.grown hgrow fun k hk => hk
  refine ⟨by rw [intV_append]; exact hrow, (hM.block h1 h2.lt fun hx => by have := (h2.row.lt h1 hx).1; omega).trans h2.msg, h2.below.trans (hM.below h2.below.size fun k hx => by have := (h2.row.lt k hx).1; have := h2.lo; omega), h2.lo⟩
theorem PSt.numb (h : PSt w h1 m s nl l wr) : l.length = nl := by have := h.row.1; rw [intV_length] at this; omega
end
def Halt (p : Prop) : Prop := p
theorem halt {p : Prop} (h : Halt p) : p := h
theorem index_line0 (x y z q : Int) (w : World) : (Instr.index 52 (.agg #[.int .u32 x, .int .u32 y, .int .u32 z, .int .u32 q]) (.int .i64 0)).run Tryd.prog w = .ok (.int .u32 x) w := by kernel_rfl
theorem index_line1 (x y z q : Int) (w : World) : (Instr.index 52 (.agg #[.int .u32 x, .int .u32 y, .int .u32 z, .int .u32 q]) (.int .i64 1)).run Tryd.prog w = .ok (.int .u32 y) w := by kernel_rfl
theorem index_line2 (x y z q : Int) (w : World) : (Instr.index 52 (.agg #[.int .u32 x, .int .u32 y, .int .u32 z, .int .u32 q]) (.int .i64 2)).run Tryd.prog w = .ok (.int .u32 z) w := by kernel_rfl
theorem index_line3 (x y z q : Int) (w : World) : (Instr.index 52 (.agg #[.int .u32 x, .int .u32 y, .int .u32 z, .int .u32 q]) (.int .i64 3)).run Tryd.prog w = .ok (.int .u32 q) w := by kernel_rfl
set_option maxRecDepth 100000 in
set_option maxHeartbeats 8000000 in
theorem mput_c (m : MsgV) (w : World) (hf : m.fit) : Calls Tryd.prog 29 #[m.v] w (MPutP w m) := by
  obtain ⟨i0, hi0, hi1⟩ := Option.map_eq_some_iff.1 nInfoI64
  simp only [Prod.mk.injEq] at hi1
  obtain ⟨hz0, hz1, hz2⟩ := hi1
  have HI := Lib.hid hi0
  have HZ0 := Lib.hid hz0
  have HZ1 := Lib.hid hz1
  have HZ2 := Lib.hid hz2
  have HFT := Lib.hid (numsM_fit hf)
  have HV := Lib.hid hf.val
  have HD := Lib.hid (And.intro (And.intro hf.d0 hf.d1) (And.intro hf.d2 hf.d3))
  obtain ⟨K, C, N, t, o, ep, wd, v, x, y, z, q, b⟩ := m
  simp only at HV HD
  have HEN := Lib.hid (encL_nums ⟨K, C, N, t, o, ep, wd, v, x, y, z, q, b⟩)
  have HLN := Lib.hid (numsM_len ⟨K, C, N, t, o, ep, wd, v, x, y, z, q, b⟩)
  have hv1 : 0 ≤ v := HV.out.1
  have hv2 : v ≤ 4294967295 := HV.out.2
  simp only [MsgV.v]
  clear hf hi0 hz0 hz1 hz2 HV
  have hX := heap_alloc_new w (.cells #[.int .i64 K, .int .i64 C, .int .i64 N, .int .i64 t, .int .i64 o, .int .i64 ep, .int .i64 wd, .int .u32 v, .int .u32 x, .int .u32 y, .int .u32 z, .int .u32 q, .bool b] 54)
  have hba : Below w.heap.size w (w.alloc (.cells #[.int .i64 K, .int .i64 C, .int .i64 N, .int .i64 t, .int .i64 o, .int .i64 ep, .int .i64 wd, .int .u32 v, .int .u32 x, .int .u32 y, .int .u32 z, .int .u32 q, .bool b] 54)) := (Below.refl _ _).alloc (Nat.le_refl _) _
  have HX := Lib.hid hX
  have HBA := Lib.hid hba
  have HCN := Lib.hid (cell_of hX)
  clear hX hba
  go_enter Tryd.func29, Tryd.ntmps29
  go_wp2_with fail
  refine (mright_c ⟨K, C, N, t, o, ep, wd, v, x, y, z, q, b⟩ (w.alloc (.cells #[.int .i64 K, .int .i64 C, .int .i64 N, .int .i64 t, .int .i64 o, .int .i64 ep, .int .i64 wd, .int .u32 v, .int .u32 x, .int .u32 y, .int .u32 z, .int .u32 q, .bool b] 54))).mono ?_
  rintro ev w2 ⟨rfl, hb2⟩
  have HB2 := Lib.hid (HBA.out.trans (hb2.mono (by simp)))
  have HX2 := Lib.hid ((hb2.block w.heap.size (by simp)).trans HX.out)
  have HSZ := Lib.hid (show w.heap.size + 1 ≤ w2.heap.size by have := hb2.size; simp at this; omega)
  clear hb2 HX HBA HCN
  cases hr : rightM ⟨K, C, N, t, o, ep, wd, v, x, y, z, q, b⟩ with
  | false =>
    have HR := Lib.hid hr
    clear hr
    go_wp2_with fail
    go_ret
    unfold MPutP
    rw [show putM ⟨K, C, N, t, o, ep, wd, v, x, y, z, q, b⟩ = [] by unfold putM; rw [HR.out]; rfl]
    exact ⟨_, rfl, winRow_nil _ _ _ _, HB2.out⟩
  | true =>
    have HR := Lib.hid hr
    have HK := Lib.hid ((rightM_iff _).1 hr).kind
    clear hr
    obtain ⟨h1, hh1⟩ : ∃ h1, h1 = w.heap.size := ⟨_, rfl⟩
    have HH1 := Lib.hid (show w.heap.size ≤ h1 ∧ h1 + 1 ≤ w2.heap.size by have := HSZ.out; omega)
    rw [← hh1] at HX2 ⊢
    clear hh1 HSZ
    have hxm := HX2.out
    have q0 := cell_of hxm 0
    have q1 := cell_of hxm 1
    have q2 := cell_of hxm 2
    simp only [List.getElem?_toArray, List.getElem?_cons_zero, List.getElem?_cons_succ] at q0 q1 q2
    have hlx := (Array.getElem?_eq_some_iff.1 hxm).1
    go_upto_block 0 with fail
    have HS0 := Lib.hid (show PSt w h1 ⟨K, C, N, t, o, ep, wd, v, x, y, z, q, b⟩ (.slice (some ⟨w2.heap.size, 0, none⟩) 3 3) 3 [K, C, N] (w2.alloc (.cells (intV [K, C, N]).toArray 3)) from by
      have hb : Below w2.heap.size w2 (w2.alloc (.cells (intV [K, C, N]).toArray 3)) := (Below.refl _ _).alloc (Nat.le_refl _) _
      exact ⟨winRow_built w2 _ _ 1 3 (intV [K, C, N]) rfl (by decide) HH1.out.2, (hb.block h1 hlx).trans HX2.out, HB2.out.trans (hb.mono HB2.out.size), HH1.out.1⟩)
    clear q0 q1 q2 hxm hlx HX2 HB2
    obtain ⟨hA, hhA⟩ : ∃ hA, hA = w2.heap.size := ⟨_, rfl⟩
    rw [← hhA] at HS0 ⊢
    simp only [intV, List.map_cons, List.map_nil] at HS0
    generalize w2.alloc (.cells #[.int .i64 K, .int .i64 C, .int .i64 N] 3) = w3 at *
    clear hhA HH1
    obtain ⟨LA, hLA⟩ : ∃ l, numsA ⟨K, C, N, t, o, ep, wd, v, x, y, z, q, b⟩ = l := ⟨_, rfl⟩
    have HLA := Lib.hid hLA
    obtain ⟨nA, hnA⟩ : ∃ n, LA.length = n := ⟨_, rfl⟩
    have HNA := Lib.hid hnA
    clear hLA hnA
    go_cut [3] from 21 to 65 (fun s3 wx => PSt w h1 ⟨K, C, N, t, o, ep, wd, v, x, y, z, q, b⟩ s3 nA LA wx)
    case first =>
      by_cases h3 : K = 3
      · subst h3
        clear HK
        have hxm := HS0.out.msg
        have q6 := cell_of hxm 6
        have q7 := cell_of hxm 7
        simp only [List.getElem?_toArray, List.getElem?_cons_zero, List.getElem?_cons_succ] at q6 q7
        have hlx := (Array.getElem?_eq_some_iff.1 hxm).1
        go_wp2_with (at_builtin; refine wpList_append_win _ rfl _ _ 88 rfl (h1 + 1) 3 i0 _ 1 8 Tryd.underlying88 HI.out HZ0.out HZ1.out HZ2.out rfl (by decide) _ _ _ rfl (HS0.out.row.below ((Below.refl _ _).alloc (Nat.le_refl _) _)) ⟨w3.heap.size, 0, none⟩ 2 2 (intV [wd, v]) rfl rfl (by exact cells_new w3 [_, _] _) (intV_one _) (by omega) (by decide) (by decide) (by have := HS0.out.lt; simp; omega) ?_; intro gwt3 offwt3 capwt3 wt3 hrow8 hgrow8 hat8 hlt8; refine halt ?_)
        have HT3 := Lib.hid (HS0.out.more (n := [wd, v]) ((Below.refl _ _).alloc (Nat.le_refl _) _) hrow8 hgrow8)
        clear hrow8 hgrow8 hat8 hlt8 hxm hlx q6 q7
        unfold Halt
        go_wp2_with fail
        go_meet
        case rel =>
          rw [show LA = [3, C, N, wd, v] from HLA.out.symm.trans rfl, show nA = 5 from HNA.out.symm.trans (by rw [← HLA.out]; rfl)]
          exact HT3.out
      have g3 : (K == 3) = false := by simpa using h3
      by_cases h8 : K = 8
      · subst h8
        clear HK
        have hxm := HS0.out.msg
        have q6 := cell_of hxm 6
        have q7 := cell_of hxm 7
        simp only [List.getElem?_toArray, List.getElem?_cons_zero, List.getElem?_cons_succ] at q6 q7
        have hlx := (Array.getElem?_eq_some_iff.1 hxm).1
        go_wp2_with (at_builtin; refine wpList_append_win _ rfl _ _ 88 rfl (h1 + 1) 3 i0 _ 1 8 Tryd.underlying88 HI.out HZ0.out HZ1.out HZ2.out rfl (by decide) _ _ _ rfl (HS0.out.row.below ((Below.refl _ _).alloc (Nat.le_refl _) _)) ⟨w3.heap.size, 0, none⟩ 2 2 (intV [wd, v]) rfl rfl (by exact cells_new w3 [_, _] _) (intV_one _) (by omega) (by decide) (by decide) (by have := HS0.out.lt; simp; omega) ?_; intro gwt3 offwt3 capwt3 wt3 hrow8 hgrow8 hat8 hlt8; refine halt ?_)
        have HT3 := Lib.hid (HS0.out.more (n := [wd, v]) ((Below.refl _ _).alloc (Nat.le_refl _) _) hrow8 hgrow8)
        clear hrow8 hgrow8 hat8 hlt8 hxm hlx q6 q7
        unfold Halt
        go_wp2_with fail
        go_meet
        case rel =>
          rw [show LA = [8, C, N, wd, v] from HLA.out.symm.trans rfl, show nA = 5 from HNA.out.symm.trans (by rw [← HLA.out]; rfl)]
          exact HT3.out
      have g8 : (K == 8) = false := by simpa using h8
      by_cases h14 : K = 14
      · subst h14
        clear HK
        have hxm := HS0.out.msg
        have q6 := cell_of hxm 6
        have q7 := cell_of hxm 7
        simp only [List.getElem?_toArray, List.getElem?_cons_zero, List.getElem?_cons_succ] at q6 q7
        have hlx := (Array.getElem?_eq_some_iff.1 hxm).1
        go_wp2_with (at_builtin; refine wpList_append_win _ rfl _ _ 88 rfl (h1 + 1) 3 i0 _ 1 8 Tryd.underlying88 HI.out HZ0.out HZ1.out HZ2.out rfl (by decide) _ _ _ rfl (HS0.out.row.below ((Below.refl _ _).alloc (Nat.le_refl _) _)) ⟨w3.heap.size, 0, none⟩ 2 2 (intV [wd, v]) rfl rfl (by exact cells_new w3 [_, _] _) (intV_one _) (by omega) (by decide) (by decide) (by have := HS0.out.lt; simp; omega) ?_; intro gwt3 offwt3 capwt3 wt3 hrow8 hgrow8 hat8 hlt8; refine halt ?_)
        have HT3 := Lib.hid (HS0.out.more (n := [wd, v]) ((Below.refl _ _).alloc (Nat.le_refl _) _) hrow8 hgrow8)
        clear hrow8 hgrow8 hat8 hlt8 hxm hlx q6 q7
        unfold Halt
        go_wp2_with fail
        go_meet
        case rel =>
          rw [show LA = [14, C, N, wd, v] from HLA.out.symm.trans rfl, show nA = 5 from HNA.out.symm.trans (by rw [← HLA.out]; rfl)]
          exact HT3.out
      have g14 : (K == 14) = false := by simpa using h14
      by_cases h9 : K = 9
      · subst h9
        clear HK
        have hxm := HS0.out.msg
        have q5 := cell_of hxm 5
        simp only [List.getElem?_toArray, List.getElem?_cons_zero, List.getElem?_cons_succ] at q5
        have hlx := (Array.getElem?_eq_some_iff.1 hxm).1
        go_wp2_with (at_builtin; refine wpList_append_win _ rfl _ _ 88 rfl (h1 + 1) 3 i0 _ 1 8 Tryd.underlying88 HI.out HZ0.out HZ1.out HZ2.out rfl (by decide) _ _ _ rfl (HS0.out.row.below ((Below.refl _ _).alloc (Nat.le_refl _) _)) ⟨w3.heap.size, 0, none⟩ 1 1 (intV [ep]) rfl rfl (by exact cells_new w3 [_] _) (intV_one _) (by omega) (by decide) (by decide) (by have := HS0.out.lt; simp; omega) ?_; intro gwt3 offwt3 capwt3 wt3 hrow8 hgrow8 hat8 hlt8; refine halt ?_)
        have HT3 := Lib.hid (HS0.out.more (n := [ep]) ((Below.refl _ _).alloc (Nat.le_refl _) _) hrow8 hgrow8)
        clear hrow8 hgrow8 hat8 hlt8 hxm hlx q5
        unfold Halt
        have hxm := HT3.out.msg
        have q4 := cell_of hxm 4
        simp only [List.getElem?_toArray, List.getElem?_cons_zero, List.getElem?_cons_succ] at q4
        have hlx := (Array.getElem?_eq_some_iff.1 hxm).1
        go_wp2_with (at_builtin; refine wpList_append_win _ rfl _ _ 88 rfl (h1 + 1) 3 i0 _ 1 8 Tryd.underlying88 HI.out HZ0.out HZ1.out HZ2.out rfl (by decide) _ _ _ rfl (HT3.out.row.below ((Below.refl _ _).alloc (Nat.le_refl _) _)) ⟨wt3.heap.size, 0, none⟩ 1 1 (intV [o]) rfl rfl (by exact cells_new wt3 [_] _) (intV_one _) (by omega) (by decide) (by decide) (by have := HT3.out.lt; simp; omega) ?_; intro gwt4 offwt4 capwt4 wt4 hrow8 hgrow8 hat8 hlt8; refine halt ?_)
        have HT4 := Lib.hid (HT3.out.more (n := [o]) ((Below.refl _ _).alloc (Nat.le_refl _) _) hrow8 hgrow8)
        clear hrow8 hgrow8 hat8 hlt8 hxm hlx q4
        unfold Halt
        go_wp2_with fail
        go_meet
        case rel =>
          rw [show LA = [9, C, N, ep, o] from HLA.out.symm.trans rfl, show nA = 5 from HNA.out.symm.trans (by rw [← HLA.out]; rfl)]
          exact HT4.out
      have g9 : (K == 9) = false := by simpa using h9
      by_cases h5 : K = 5
      · subst h5
        clear HK
        have hxm := HS0.out.msg
        have q4 := cell_of hxm 4
        simp only [List.getElem?_toArray, List.getElem?_cons_zero, List.getElem?_cons_succ] at q4
        have hlx := (Array.getElem?_eq_some_iff.1 hxm).1
        go_wp2_with (at_builtin; refine wpList_append_win _ rfl _ _ 88 rfl (h1 + 1) 3 i0 _ 1 8 Tryd.underlying88 HI.out HZ0.out HZ1.out HZ2.out rfl (by decide) _ _ _ rfl (HS0.out.row.below ((Below.refl _ _).alloc (Nat.le_refl _) _)) ⟨w3.heap.size, 0, none⟩ 1 1 (intV [o]) rfl rfl (by exact cells_new w3 [_] _) (intV_one _) (by omega) (by decide) (by decide) (by have := HS0.out.lt; simp; omega) ?_; intro gwt3 offwt3 capwt3 wt3 hrow8 hgrow8 hat8 hlt8; refine halt ?_)
        have HT3 := Lib.hid (HS0.out.more (n := [o]) ((Below.refl _ _).alloc (Nat.le_refl _) _) hrow8 hgrow8)
        clear hrow8 hgrow8 hat8 hlt8 hxm hlx q4
        unfold Halt
        go_wp2_with fail
        go_meet
        case rel =>
          rw [show LA = [5, C, N, o] from HLA.out.symm.trans rfl, show nA = 4 from HNA.out.symm.trans (by rw [← HLA.out]; rfl)]
          exact HT3.out
      have g5 : (K == 5) = false := by simpa using h5
      by_cases h13 : K = 13
      · subst h13
        clear HK
        have hxm := HS0.out.msg
        have q4 := cell_of hxm 4
        have q5 := cell_of hxm 5
        simp only [List.getElem?_toArray, List.getElem?_cons_zero, List.getElem?_cons_succ] at q4 q5
        have hlx := (Array.getElem?_eq_some_iff.1 hxm).1
        go_wp2_with (at_builtin; refine wpList_append_win _ rfl _ _ 88 rfl (h1 + 1) 3 i0 _ 1 8 Tryd.underlying88 HI.out HZ0.out HZ1.out HZ2.out rfl (by decide) _ _ _ rfl (HS0.out.row.below ((Below.refl _ _).alloc (Nat.le_refl _) _)) ⟨w3.heap.size, 0, none⟩ 2 2 (intV [o, ep]) rfl rfl (by exact cells_new w3 [_, _] _) (intV_one _) (by omega) (by decide) (by decide) (by have := HS0.out.lt; simp; omega) ?_; intro gwt3 offwt3 capwt3 wt3 hrow8 hgrow8 hat8 hlt8; refine halt ?_)
        have HT3 := Lib.hid (HS0.out.more (n := [o, ep]) ((Below.refl _ _).alloc (Nat.le_refl _) _) hrow8 hgrow8)
        clear hrow8 hgrow8 hat8 hlt8 hxm hlx q4 q5
        unfold Halt
        go_upto_region 16 with fail
        have hxm := HT3.out.msg
        have q3 := cell_of hxm 3
        have q12 := cell_of hxm 12
        simp only [List.getElem?_toArray, List.getElem?_cons_zero, List.getElem?_cons_succ] at q3 q12
        have hlx := (Array.getElem?_eq_some_iff.1 hxm).1
        have hown : ∀ k, (Value.slice (some ⟨gwt3, offwt3, none⟩) 5 capwt3).ownBlock = some k → h1 ≠ k := fun k hk e => by have := (HT3.out.row.lt k hk).1; omega
        refine wp_region_lexA ⟨[51], []⟩ (fun x => Mods (fun k => (Value.slice (some ⟨gwt3, offwt3, none⟩) 5 capwt3).ownBlock = some k) wt3 x) (by kernel_rfl) (by kernel_rfl) (Mods.refl _ _).drew ?_
        intro S hto hof hne
        have x3 : ∀ z : Wd S, z.w.cell? ⟨h1, 3, none⟩ = some (.int .i64 t) := fun z => ((hto z).cell (p := ⟨h1, 3, none⟩) hlx (fun h => hown _ h rfl)).trans q3
        have x12 : ∀ z : Wd S, z.w.cell? ⟨h1, 12, none⟩ = some (.bool b) := fun z => ((hto z).cell (p := ⟨h1, 12, none⟩) hlx (fun h => hown _ h rfl)).trans q12
        have Hof := Lib.hid hof
        clear hto hof q3 q12 hxm hown
        refine lexW_light 5 (by kernel_rfl) ?_
        simp only [List.take_succ_cons, List.take_zero, List.drop_succ_cons, List.drop_zero]
        repeat (first | go_big_quiet_skip | (go_big_quiet_want; go_big_quiet_op; go_big_quiet_on))
        refine wpQuiet_nil ?_
        refine lexW_pure (by kernel_rfl) (by rfl) rfl Tryd.func51 rfl (by kernel_rfl) (fun x => flag_c b x.w) (by go_simp) ?_
        simp only [Act.put, List.setIfInBounds_toArray, List.set_cons_zero, List.set_cons_succ]
        clear x3 x12 hlx
        refine lexW_heavy (by kernel_rfl) ?_
        go_wp2_with fail
        refine lexQ_more (Hof.out _ (Mods.of_below ((Below.refl _ _).drew.alloc (Nat.le_refl _) _))) ?_
        refine lexW_heavy (by kernel_rfl) ?_
        go_wp2_with (at_builtin; refine wpList_append_win _ rfl _ _ 88 rfl (h1 + 1) 3 i0 _ 1 8 Tryd.underlying88 HI.out HZ0.out HZ1.out HZ2.out rfl (by decide) _ _ _ rfl (HT3.out.row.below ((Below.refl _ _).drew.alloc (Nat.le_refl _) _)) ⟨wt3.drew.heap.size, 0, none⟩ 2 2 (intV [t, hasN b]) rfl rfl (by exact cells_new wt3.drew [_, _] _) (intV_one _) (by omega) (by decide) (by decide) (by have := HT3.out.lt; simp; omega) ?_; intro gwt5 offwt5 capwt5 wt5 hrow8 hgrow8 hat8 hlt8; refine halt ?_)
        have HT5 := Lib.hid (HT3.out.more (n := [t, hasN b]) ((Below.refl _ _).drew.alloc (Nat.le_refl _) _) hrow8 hgrow8)
        have HMZ := Lib.hid ((Mods.of_below (S := fun k => (Value.slice (some ⟨gwt3, offwt3, none⟩) 5 capwt3).ownBlock = some k) ((Below.refl wt3.heap.size wt3).drew.alloc (Nat.le_refl _) _)).trans (Mods.grown hgrow8 fun k hk => hk) fun _ _ h => h)
        clear hrow8 hgrow8 hat8 hlt8
        unfold Halt
        go_wp2_with fail
        refine lexQ_more (Hof.out _ HMZ.out) ?_
        refine lexW_light 1 (by kernel_rfl) ?_
        simp only [List.take_succ_cons, List.take_zero, List.drop_succ_cons, List.drop_zero]
        repeat (first | go_big_quiet_skip | (go_big_quiet_want; go_big_quiet_op; go_big_quiet_on))
        refine wpQuiet_nil ?_
        refine lexW_done ?_
        clear Hof HMZ hne
        go_wp2_with fail
        go_meet
        case rel =>
          rw [show LA = [13, C, N, o, ep, t, hasN b] from HLA.out.symm.trans rfl, show nA = 7 from HNA.out.symm.trans (by rw [← HLA.out]; rfl)]
          exact HT5.out
      have g13 : (K == 13) = false := by simpa using h13
      by_cases h11 : K = 11
      · subst h11
        clear HK
        go_upto_region 16 with fail
        have hxm := HS0.out.msg
        have q3 := cell_of hxm 3
        have q12 := cell_of hxm 12
        simp only [List.getElem?_toArray, List.getElem?_cons_zero, List.getElem?_cons_succ] at q3 q12
        have hlx := (Array.getElem?_eq_some_iff.1 hxm).1
        have hown : ∀ k, (Value.slice (some ⟨hA, 0, none⟩) 3 3).ownBlock = some k → h1 ≠ k := fun k hk e => by have := (HS0.out.row.lt k hk).1; omega
        refine wp_region_lexA ⟨[51], []⟩ (fun x => Mods (fun k => (Value.slice (some ⟨hA, 0, none⟩) 3 3).ownBlock = some k) w3 x) (by kernel_rfl) (by kernel_rfl) (Mods.refl _ _).drew ?_
        intro S hto hof hne
        have x3 : ∀ z : Wd S, z.w.cell? ⟨h1, 3, none⟩ = some (.int .i64 t) := fun z => ((hto z).cell (p := ⟨h1, 3, none⟩) hlx (fun h => hown _ h rfl)).trans q3
        have x12 : ∀ z : Wd S, z.w.cell? ⟨h1, 12, none⟩ = some (.bool b) := fun z => ((hto z).cell (p := ⟨h1, 12, none⟩) hlx (fun h => hown _ h rfl)).trans q12
        have Hof := Lib.hid hof
        clear hto hof q3 q12 hxm hown
        refine lexW_light 5 (by kernel_rfl) ?_
        simp only [List.take_succ_cons, List.take_zero, List.drop_succ_cons, List.drop_zero]
        repeat (first | go_big_quiet_skip | (go_big_quiet_want; go_big_quiet_op; go_big_quiet_on))
        refine wpQuiet_nil ?_
        refine lexW_pure (by kernel_rfl) (by rfl) rfl Tryd.func51 rfl (by kernel_rfl) (fun x => flag_c b x.w) (by go_simp) ?_
        simp only [Act.put, List.setIfInBounds_toArray, List.set_cons_zero, List.set_cons_succ]
        clear x3 x12 hlx
        refine lexW_heavy (by kernel_rfl) ?_
        go_wp2_with fail
        refine lexQ_more (Hof.out _ (Mods.of_below ((Below.refl _ _).drew.alloc (Nat.le_refl _) _))) ?_
        refine lexW_heavy (by kernel_rfl) ?_
        go_wp2_with (at_builtin; refine wpList_append_win _ rfl _ _ 88 rfl (h1 + 1) 3 i0 _ 1 8 Tryd.underlying88 HI.out HZ0.out HZ1.out HZ2.out rfl (by decide) _ _ _ rfl (HS0.out.row.below ((Below.refl _ _).drew.alloc (Nat.le_refl _) _)) ⟨w3.drew.heap.size, 0, none⟩ 2 2 (intV [t, hasN b]) rfl rfl (by exact cells_new w3.drew [_, _] _) (intV_one _) (by omega) (by decide) (by decide) (by have := HS0.out.lt; simp; omega) ?_; intro gwt3 offwt3 capwt3 wt3 hrow8 hgrow8 hat8 hlt8; refine halt ?_)
        have HT3 := Lib.hid (HS0.out.more (n := [t, hasN b]) ((Below.refl _ _).drew.alloc (Nat.le_refl _) _) hrow8 hgrow8)
        have HMZ := Lib.hid ((Mods.of_below (S := fun k => (Value.slice (some ⟨hA, 0, none⟩) 3 3).ownBlock = some k) ((Below.refl w3.heap.size w3).drew.alloc (Nat.le_refl _) _)).trans (Mods.grown hgrow8 fun k hk => hk) fun _ _ h => h)
        clear hrow8 hgrow8 hat8 hlt8
        unfold Halt
        go_wp2_with fail
        refine lexQ_more (Hof.out _ HMZ.out) ?_
        refine lexW_light 1 (by kernel_rfl) ?_
        simp only [List.take_succ_cons, List.take_zero, List.drop_succ_cons, List.drop_zero]
        repeat (first | go_big_quiet_skip | (go_big_quiet_want; go_big_quiet_op; go_big_quiet_on))
        refine wpQuiet_nil ?_
        refine lexW_done ?_
        clear Hof HMZ hne
        go_wp2_with fail
        go_meet
        case rel =>
          rw [show LA = [11, C, N, t, hasN b] from HLA.out.symm.trans rfl, show nA = 5 from HNA.out.symm.trans (by rw [← HLA.out]; rfl)]
          exact HT3.out
      have g11 : (K == 11) = false := by simpa using h11
      have HCL := Lib.hid (show mgW K = false ∧ mg9 K = false ∧ mgM K = false ∧ mgD K = false ∧ mgS K = false by
        refine ⟨?_, ?_, ?_, ?_, ?_⟩ <;> simp [mgW, mg9, mgM, mgD, mgS] <;> omega)
      clear h3 h8 h14 h9 h5 h13 h11
      go_wp2_with fail
      go_meet
      case rel =>
        rw [show LA = [K, C, N] from HLA.out.symm.trans (by simp [numsA, HCL.out]), show nA = 3 from HNA.out.symm.trans (by rw [← HLA.out]; simp [numsA, HCL.out])]
        exact HS0.out
    case rest =>
      have HS1 := Lib.hid hcut
      obtain ⟨a3, c3, hs3⟩ := hcut.row.len
      subst hs3
      clear hcut HS0
      generalize wc = w5 at *
      have hxm := HS1.out.msg
      have q12 := cell_of hxm 12
      simp only [List.getElem?_toArray, List.getElem?_cons_zero, List.getElem?_cons_succ] at q12
      have hlx := (Array.getElem?_eq_some_iff.1 hxm).1
      go_upto_if 67 with fail
      clear hxm hlx q12
      have HD1 := HD.out
      have x1 : 0 ≤ x := HD1.1.1.1
      have x2 : x ≤ 4294967295 := HD1.1.1.2
      have y1 : 0 ≤ y := HD1.1.2.1
      have y2 : y ≤ 4294967295 := HD1.1.2.2
      have z1 : 0 ≤ z := HD1.2.1.1
      have z2 : z ≤ 4294967295 := HD1.2.1.2
      have p1 : 0 ≤ q := HD1.2.2.1
      have p2 : q ≤ 4294967295 := HD1.2.2.2
      clear HD1
      obtain ⟨LB, hLB⟩ : ∃ l, numsM ⟨K, C, N, t, o, ep, wd, v, x, y, z, q, b⟩ = l := ⟨_, rfl⟩
      have HLB := Lib.hid (show LB = LA ++ (if b then [x, y, z, q] else []) by rw [← hLB, ← HLA.out]; rfl)
      have HLB2 := Lib.hid hLB
      obtain ⟨nB, hnB⟩ : ∃ n, LB.length = n := ⟨_, rfl⟩
      have HNB := Lib.hid hnB
      clear hLB hnB
      go_cut [3, 5] from 68 to 78 (fun s3 _ wx => PSt w h1 ⟨K, C, N, t, o, ep, wd, v, x, y, z, q, b⟩ s3 nB LB wx)
      case first =>
        cases b with
        | false =>
          go_wp2_with fail
          go_meet
          case rel =>
            have e : LB = LA := by rw [HLB.out]; simp
            rw [e, show nB = nA by rw [← HNB.out, ← HNA.out, e]]
            exact HS1.out
        | true =>
          have hxm := HS1.out.msg
          have q8 := cell_of hxm 8
          have q9 := cell_of hxm 9
          have q10 := cell_of hxm 10
          have q11 := cell_of hxm 11
          simp only [List.getElem?_toArray, List.getElem?_cons_zero, List.getElem?_cons_succ] at q8 q9 q10 q11
          have hlx := (Array.getElem?_eq_some_iff.1 hxm).1
          go_wp2_with fail
          clear hxm hlx q8 q9 q10 q11
          go_loopw [3, 70] (fun s3 s70 wr => ∃ (k : Nat) (i : Int), k ≤ 4 ∧ i = k ∧ s70 = .int .i64 i ∧ PSt w h1 ⟨K, C, N, t, o, ep, wd, v, x, y, z, q, true⟩ s3 (nA + k) (LA ++ [x, y, z, q].take k) wr) (fun _ s70 _ => 4 - (intOf s70).toNat)
          case atStart => exact ⟨0, 0, by omega, rfl, rfl, by simpa using HS1.out⟩
          case round =>
            clear HS1
            obtain ⟨k, i, hk, hik, rfl, hS⟩ := hrel
            obtain ⟨ar, cr, hs3⟩ := hS.row.len
            subst hs3
            have hk5 : k = 0 ∨ k = 1 ∨ k = 2 ∨ k = 3 ∨ k = 4 := by omega
            rcases hk5 with rfl | rfl | rfl | rfl | rfl
            · obtain rfl : i = 0 := by omega
              have HS := Lib.hid hS
              clear hS hik hk
              have ix := index_line0 x y z q
              have hxm := HS.out.msg
              have q0 := cell_of hxm 0
              simp only [List.getElem?_toArray, List.getElem?_cons_zero] at q0
              have hlx := (Array.getElem?_eq_some_iff.1 hxm).1
              go_wp2_with (at_builtin; refine wpList_append_win _ rfl _ _ 88 rfl (h1 + 1) 3 i0 _ 1 8 Tryd.underlying88 HI.out HZ0.out HZ1.out HZ2.out rfl (by decide) _ _ _ rfl (HS.out.row.below ((Below.refl _ _).alloc (Nat.le_refl _) _)) ⟨wr.heap.size, 0, none⟩ 1 1 (intV [x]) rfl rfl (by exact cells_new wr [_] _) (intV_one _) (by omega) (by have := HNA.out; have := HLN.out.1; rw [HLA.out] at this; unfold maxLen; omega) (by have := HNA.out; have := HLN.out.1; rw [HLA.out] at this; omega) (by have := HS.out.lt; simp; omega) ?_; intro gw8 offw8 capw8 w8 hrow8 hgrow8 hat8 hlt8; refine halt ?_)
              have HT := Lib.hid (HS.out.more (n := [x]) ((Below.refl _ _).alloc (Nat.le_refl _) _) hrow8 hgrow8)
              clear hrow8 hgrow8 hat8 hlt8 hxm hlx q0
              unfold Halt
              go_wp2_with fail
              go_roundw
              case rel => exact ⟨1, 1, by omega, rfl, by go_num, by simpa using HT.out⟩
              case measure => simp [intOf]
            · obtain rfl : i = 1 := by omega
              have HS := Lib.hid hS
              clear hS hik hk
              have ix := index_line1 x y z q
              have hxm := HS.out.msg
              have q0 := cell_of hxm 0
              simp only [List.getElem?_toArray, List.getElem?_cons_zero] at q0
              have hlx := (Array.getElem?_eq_some_iff.1 hxm).1
              go_wp2_with (at_builtin; refine wpList_append_win _ rfl _ _ 88 rfl (h1 + 1) 3 i0 _ 1 8 Tryd.underlying88 HI.out HZ0.out HZ1.out HZ2.out rfl (by decide) _ _ _ rfl (HS.out.row.below ((Below.refl _ _).alloc (Nat.le_refl _) _)) ⟨wr.heap.size, 0, none⟩ 1 1 (intV [y]) rfl rfl (by exact cells_new wr [_] _) (intV_one _) (by omega) (by have := HNA.out; have := HLN.out.1; rw [HLA.out] at this; unfold maxLen; omega) (by have := HNA.out; have := HLN.out.1; rw [HLA.out] at this; omega) (by have := HS.out.lt; simp; omega) ?_; intro gw8 offw8 capw8 w8 hrow8 hgrow8 hat8 hlt8; refine halt ?_)
              have HT := Lib.hid (HS.out.more (n := [y]) ((Below.refl _ _).alloc (Nat.le_refl _) _) hrow8 hgrow8)
              clear hrow8 hgrow8 hat8 hlt8 hxm hlx q0
              unfold Halt
              go_wp2_with fail
              go_roundw
              case rel => exact ⟨2, 2, by omega, rfl, by go_num, by simpa using HT.out⟩
              case measure => simp [intOf]
            · obtain rfl : i = 2 := by omega
              have HS := Lib.hid hS
              clear hS hik hk
              have ix := index_line2 x y z q
              have hxm := HS.out.msg
              have q0 := cell_of hxm 0
              simp only [List.getElem?_toArray, List.getElem?_cons_zero] at q0
              have hlx := (Array.getElem?_eq_some_iff.1 hxm).1
              go_wp2_with (at_builtin; refine wpList_append_win _ rfl _ _ 88 rfl (h1 + 1) 3 i0 _ 1 8 Tryd.underlying88 HI.out HZ0.out HZ1.out HZ2.out rfl (by decide) _ _ _ rfl (HS.out.row.below ((Below.refl _ _).alloc (Nat.le_refl _) _)) ⟨wr.heap.size, 0, none⟩ 1 1 (intV [z]) rfl rfl (by exact cells_new wr [_] _) (intV_one _) (by omega) (by have := HNA.out; have := HLN.out.1; rw [HLA.out] at this; unfold maxLen; omega) (by have := HNA.out; have := HLN.out.1; rw [HLA.out] at this; omega) (by have := HS.out.lt; simp; omega) ?_; intro gw8 offw8 capw8 w8 hrow8 hgrow8 hat8 hlt8; refine halt ?_)
              have HT := Lib.hid (HS.out.more (n := [z]) ((Below.refl _ _).alloc (Nat.le_refl _) _) hrow8 hgrow8)
              clear hrow8 hgrow8 hat8 hlt8 hxm hlx q0
              unfold Halt
              go_wp2_with fail
              go_roundw
              case rel => exact ⟨3, 3, by omega, rfl, by go_num, by simpa using HT.out⟩
              case measure => simp [intOf]
            · obtain rfl : i = 3 := by omega
              have HS := Lib.hid hS
              clear hS hik hk
              have ix := index_line3 x y z q
              have hxm := HS.out.msg
              have q0 := cell_of hxm 0
              simp only [List.getElem?_toArray, List.getElem?_cons_zero] at q0
              have hlx := (Array.getElem?_eq_some_iff.1 hxm).1
              go_wp2_with (at_builtin; refine wpList_append_win _ rfl _ _ 88 rfl (h1 + 1) 3 i0 _ 1 8 Tryd.underlying88 HI.out HZ0.out HZ1.out HZ2.out rfl (by decide) _ _ _ rfl (HS.out.row.below ((Below.refl _ _).alloc (Nat.le_refl _) _)) ⟨wr.heap.size, 0, none⟩ 1 1 (intV [q]) rfl rfl (by exact cells_new wr [_] _) (intV_one _) (by omega) (by have := HNA.out; have := HLN.out.1; rw [HLA.out] at this; unfold maxLen; omega) (by have := HNA.out; have := HLN.out.1; rw [HLA.out] at this; omega) (by have := HS.out.lt; simp; omega) ?_; intro gw8 offw8 capw8 w8 hrow8 hgrow8 hat8 hlt8; refine halt ?_)
              have HT := Lib.hid (HS.out.more (n := [q]) ((Below.refl _ _).alloc (Nat.le_refl _) _) hrow8 hgrow8)
              clear hrow8 hgrow8 hat8 hlt8 hxm hlx q0
              unfold Halt
              go_wp2_with fail
              go_roundw
              case rel => exact ⟨4, 4, by omega, rfl, by go_num, by simpa using HT.out⟩
              case measure => simp [intOf]
            · obtain rfl : i = 4 := by omega
              have HS := Lib.hid hS
              clear hS hik hk
              go_wp2_with fail
              go_meet
              case rel =>
                rw [show LB = LA ++ [x, y, z, q] from HLB.out, show nB = nA + 4 by rw [← HNB.out, ← HNA.out, HLB.out]; simp]
                exact HS.out
      case rest =>
        have HS2 := Lib.hid hcut
        have HSL := Lib.hid hcut.row.slc
        obtain ⟨a6, c6, hs6⟩ := hcut.row.len
        subst hs6
        clear hcut HS1 x1 x2 y1 y2 z1 z2 p1 p2
        generalize wc = w6 at *
        obtain ⟨_, a7, c7, he7, hel⟩ := HSL.out
        simp only [Value.slice.injEq, true_and] at he7
        obtain ⟨rfl, rfl⟩ := he7
        have HEL := Lib.hid hel
        clear hel HSL
        have HNL := Lib.hid (show nB ≤ 15 by have := HLN.out.2; rw [HLB2.out, HNB.out] at this; exact this)
        go_wp2_with fail
        go_loopw [6, 81] (fun s6 s81 wr => ∃ i : Nat, i ≤ nB ∧ s81 = .int .i64 i ∧ winRow wr w6.heap.size 5 1 s6 (encL (LB.take i)).length (byteV (encL (LB.take i))) ∧ Below w6.heap.size w6 wr) (fun _ s81 _ => nB - (intOf s81).toNat)
        case atStart => exact ⟨0, by omega, rfl, winRow_nil _ _ _ _, Below.refl _ _⟩
        case round =>
          obtain ⟨i, hi, rfl, hrow, hB⟩ := hrel
          have HP := Lib.hid hrow
          have HB := Lib.hid hB
          obtain ⟨ab, cb, hs6⟩ := hrow.len
          subst hs6
          clear hrow hB
          by_cases hin : i < nB
          · have g2 : decide ((i : Int) < (nB : Int)) = true := by simp; omega
            have g3 : decide (i < nB) = true := by simp; omega
            obtain ⟨g, off, ha, hg, hc⟩ := HEL.out (by omega)
            subst ha
            obtain ⟨n, hn⟩ : ∃ n, LB[i]? = some n := ⟨_, List.getElem?_eq_getElem (by have := HNB.out; omega)⟩
            have HN := Lib.hid hn
            have e0 := (HB.out.cell (p := ⟨g, off + i, none⟩) hg).trans (hc _ _ (intV_at hn))
            have HBN := Lib.hid (HFT.out n (by rw [HLB2.out]; exact List.mem_of_getElem? hn))
            have HTK := Lib.hid (show (encL (LB.take i)).length ≤ 150 by
              have h := encL_len (LB.take i) fun x hx => HFT.out x (by rw [HLB2.out]; exact List.mem_of_mem_take hx)
              have := HNL.out
              have := HNB.out
              rw [List.length_take] at h
              omega)
            have hi15 : i ≤ 15 := by have := HNL.out; omega
            clear hc hg hn
            go_wp2_with fail
            refine (num_c _ (encL (LB.take i)) n wr HP.out.slc HBN.out (by have := HTK.out; omega)).mono ?_
            rintro ev w8 ⟨u8, rfl, hu, hb⟩
            have HU := Lib.hid (show winRow w8 w6.heap.size 5 1 u8 (encL (LB.take (i + 1))).length (byteV (encL (LB.take (i + 1)))) from by
              rw [encL_take HN.out, List.length_append]
              exact hu.base2 HB.out.size)
            have HB8 := Lib.hid (HB.out.trans (hb.mono HB.out.size))
            clear hu hb e0
            go_wp2_with fail
            go_roundw
            case rel => exact ⟨i + 1, by omega, by go_num, HU.out, HB8.out⟩
            case measure => simp [intOf] <;> omega
          · have g2 : decide ((i : Int) < (nB : Int)) = false := by simp; omega
            have g3 : decide (i < nB) = false := by simp; omega
            have HI9 := Lib.hid (show i = nB by omega)
            go_wp2_with fail
            go_ret
            unfold MPutP
            have e : encM ⟨K, C, N, t, o, ep, wd, v, x, y, z, q, b⟩ = encL (LB.take i) := by rw [← HEN.out, HLB2.out, HI9.out, List.take_of_length_le (by have := HNB.out; omega)]
            rw [show putM ⟨K, C, N, t, o, ep, wd, v, x, y, z, q, b⟩ = encL (LB.take i) by unfold putM; rw [HR.out, ← e]; rfl]
            exact ⟨_, rfl, HP.out.base2 HS2.out.below.size, HS2.out.below.trans (HB.out.mono HS2.out.below.size)⟩

end Go.Proofs.YtpljdbcifaeblaaDoor
