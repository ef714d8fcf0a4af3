/- A program as bytes. -/
import Derived.Test.YtpljdbcifaeblaaDoorPg1
import Derived.Test.YtpljdbcifaeblaaDoorPk2
import Derived.Test.YtpljdbcifaeblaaDoorFlt1
namespace Go.Proofs.YtpljdbcifaeblaaDoor
open Go.RowKit Go.Extern.Stop Go.Stop Go.Extern

def flatP : List OpV → List Value
  | [] => []
  | e :: l => e.cs ++ flatP l
theorem flatP_length (l : List OpV) : (flatP l).length = l.length * 4 := by
  induction l with
  | nil => rfl
  | cons x l ih => simp only [flatP, OpV.cs, List.length_append, List.length_cons, List.length_nil, ih]; omega
theorem flatP_append (l r : List OpV) : flatP (l ++ r) = flatP l ++ flatP r := by
  induction l with
  | nil => rfl
  | cons x l ih => simp [flatP, ih]
theorem flatP_one (l : List OpV) : ∀ u ∈ flatP l, u.oneCell' = true := by
  induction l with
  | nil => intro u hu; cases hu
  | cons x l ih =>
    intro u hu
    simp only [flatP, OpV.cs, List.cons_append, List.nil_append, List.mem_cons] at hu
    rcases hu with rfl | rfl | rfl | rfl | hu
    · rfl
    · rfl
    · rfl
    · rfl
    · exact ih u hu
theorem flatP_at {l : List OpV} {k : Nat} {e : OpV} (h : l[k]? = some e) {c : Nat} {v : Value} (hc : e.cs[c]? = some v) : (flatP l)[k * 4 + c]? = some v := by
  induction l generalizing k with
  | nil => simp at h
  | cons y l ih =>
    have hc6 : c < 4 := (List.getElem?_eq_some_iff.1 hc).1
    cases k with
    | zero =>
      simp only [List.getElem?_cons_zero, Option.some.injEq] at h
      subst h
      rw [Nat.zero_mul, Nat.zero_add]
      simp only [flatP]
      rw [List.getElem?_append_left (by simpa [OpV.cs] using hc6)]
      exact hc
    | succ k =>
      simp only [List.getElem?_cons_succ] at h
      simp only [flatP]
      rw [List.getElem?_append_right (by simp [OpV.cs]; omega)]
      rw [show (k + 1) * 4 + c - (OpV.cs y).length = k * 4 + c by simp [OpV.cs]; omega]
      exact ih h
/-- An operation's numbers lie in their types' bounds. -/
def OpV.fit (o : OpV) : Prop := ((-9223372036854775808 ≤ o.kind ∧ o.kind ≤ 9223372036854775807) ∧ -9223372036854775808 ≤ o.addr ∧ o.addr ≤ 9223372036854775807) ∧ (0 ≤ o.val ∧ o.val ≤ 4294967295) ∧ 0 ≤ o.old ∧ o.old ≤ 4294967295
/-- An operation's bytes. -/
def encOp (o : OpV) : List Nat := enc (zig o.kind) ++ ((if nmA o.kind then enc (zig o.addr) else []) ++ ((if nmV o.kind then enc (zig o.val) else []) ++ (if nmO o.kind then enc (zig o.old) else [])))
def encOps : List OpV → List Nat
  | [] => []
  | o :: l => encOp o ++ encOps l
def encP (l : List OpV) : List Nat := enc (zig l.length) ++ encOps l
def pgT : ByteArray := ⟨#[112, 114, 111, 103, 46, 80, 117, 116]⟩
/-- The first that is not right. -/
def badE (W : Int) : List OpV → Nat → ErrT
  | [], _ => .nil
  | o :: l, i => if rightB o W then badE W l (i + 1) else .wrap pgT i (.sent 0)
def putE (W : Int) (l : List OpV) : ErrT := if 64 < l.length then .wrap pgT l.length (.sent 1) else badE W l 0
/-- What Put answers. -/
def PutP (A : Nat → Addr) (w : World) (W : Int) (l : List OpV) (ev : Ending) (w' : World) : Prop :=
  ∃ u, ev = .returned (.tuple #[u, (putE W l).val A]) ∧ (if (putE W l).isNil then winRow w' w.heap.size 5 1 u (encP l).length (byteV (encP l)) else u = .slice none 0 0) ∧ Below w.heap.size w w'
theorem right_kind {o : OpV} {W : Int} (h : rightB o W = true) : o.kind = 1 ∨ o.kind = 2 ∨ o.kind = 3 ∨ o.kind = 4 := by
  unfold rightB at h
  simp only [Bool.and_eq_true, decide_eq_true_eq] at h
  have := h.1.1.1.2
  omega
theorem slc_none1 (w : World) : slc w 1 (.slice none 0 0) ([] : List Nat).length (byteV []) := ⟨rfl, none, 0, rfl, fun h => absurd h (by simp)⟩
theorem winRow.base2 {w : World} {lo lo' size n : Nat} {e : TypeId} {v : Value} {xs : List Value} (h : winRow w lo' e size v n xs) (hl : lo ≤ lo') : winRow w lo e size v n xs := h.base_le fun g hg => Nat.le_trans hl (h.lt g hg).1

set_option maxRecDepth 100000 in
set_option maxHeartbeats 8000000 in
theorem put_c (A : Nat → Addr) (v : Value) (l : List OpV) (W : Int) (w : World) (hs : SentAt w A) (hv : slc w 4 v l.length (flatP l)) (hfit : ∀ o ∈ l, o.fit) (hl : l.length ≤ 9223372036854775807) :
    Calls Tryd.prog 15 #[v, .int .i64 W] w (PutP A w W l) := by
  have hga := hs.glob 0 (by omega)
  have hgl := hs.glob 1 (by omega)
  simp only [gnum] at hga hgl
  have HS := Lib.hid hs
  obtain ⟨_, ap, cp, rfl, hel⟩ := hv
  have HEL := Lib.hid hel
  have HFT := Lib.hid hfit
  have HLL := Lib.hid hl
  clear hs hel hfit
  obtain ⟨n, hn⟩ : ∃ n, l.length = n := ⟨_, rfl⟩
  by_cases h64 : 64 < l.length
  · have g1 : decide ((n : Int) > 64) = true := by simp; omega
    have hE : putE W l = .wrap pgT l.length (.sent 1) := by unfold putE; rw [if_pos h64]
    have HE := Lib.hid hE
    rw [hn]
    clear hE h64
    rw [hn] at hl
    go_enter Tryd.func15, Tryd.ntmps15
    go_wp2_with fail
    refine (wrap_c A pgT n (.sent 1) w).mono ?_
    rintro e w' ⟨rfl, rfl⟩
    go_wp2_with fail
    go_ret2
    unfold PutP
    rw [HE.out, hn]
    exact ⟨_, rfl, rfl, Below.refl _ _⟩
  · have g1 : decide ((n : Int) > 64) = false := by simp; omega
    have hE : putE W l = badE W l 0 := by unfold putE; rw [if_neg h64]
    have HE := Lib.hid hE
    rw [hn]
    have HN := Lib.hid hn
    have h65 : n ≤ 64 := by omega
    clear hE h64 hl hn
    go_enter Tryd.func15, Tryd.ntmps15
    go_wp2_with fail
    refine (num_c _ [] n w (slc_none1 w) (by omega) (by simp)).mono ?_
    rintro ev w1 ⟨u, rfl, hu, hb1⟩
    rw [List.nil_append, List.length_nil, Nat.zero_add] at hu
    have HL10 := Lib.hid (enc_len10 (zig_lt (show -9223372036854775808 ≤ (n : Int) ∧ (n : Int) ≤ 9223372036854775807 by omega)))
    have HU := Lib.hid hu
    have HB1 := Lib.hid hb1
    clear hu hb1
    go_wp2_with fail
    go_loopw [6, 22] (fun s6 s22 wr => ∃ (i : Nat) (P0 : List Nat), i ≤ n ∧ s22 = .int .i64 i ∧ badE W l 0 = badE W (l.drop i) i ∧ encP l = P0 ++ encOps (l.drop i) ∧ winRow wr w.heap.size 5 1 s6 P0.length (byteV P0) ∧ P0.length ≤ 10 + 40 * i ∧ Below w.heap.size w wr) (fun _ s22 _ => n - (intOf s22).toNat)
    case atStart => exact ⟨0, enc (zig n), by omega, rfl, rfl, by unfold encP; rw [HN.out]; rfl, HU.out, by have := HL10.out; omega, HB1.out⟩
    case round =>
      clear HU HB1
      obtain ⟨i, P0, hi, rfl, hbad, hpre, hrow, hpl, hB⟩ := hrel
      have HBAD := Lib.hid hbad
      have HPRE := Lib.hid hpre
      have HP := Lib.hid hrow
      have HB := Lib.hid hB
      have HLP := Lib.hid hpl
      obtain ⟨ab, cb, rfl⟩ := hrow.len
      clear hbad hpre hrow hpl hB
      by_cases hin : i < n
      · have g2 : decide ((i : Int) < (n : Int)) = true := by simp; omega
        have g3 : decide (i < n) = true := by simp; omega
        obtain ⟨g, off, rfl, hg, hc⟩ := HEL.out (by have := HN.out; omega)
        obtain ⟨o, ho⟩ : ∃ o, l[i]? = some o := ⟨_, List.getElem?_eq_getElem (by have := HN.out; omega)⟩
        have hof := HFT.out o (List.mem_of_getElem? ho)
        have e0 := (HB.out.cell (p := ⟨g, off + (i * 4 + 0), none⟩) hg).trans (hc _ _ (flatP_at ho (c := 0) rfl))
        have e1 := (HB.out.cell (p := ⟨g, off + (i * 4 + 1), none⟩) hg).trans (hc _ _ (flatP_at ho (c := 1) rfl))
        have e2 := (HB.out.cell (p := ⟨g, off + (i * 4 + 2), none⟩) hg).trans (hc _ _ (flatP_at ho (c := 2) rfl))
        have e3 := (HB.out.cell (p := ⟨g, off + (i * 4 + 3), none⟩) hg).trans (hc _ _ (flatP_at ho (c := 3) rfl))
        simp only [Nat.add_zero, ← Nat.add_assoc] at e0 e1 e2 e3
        have HDR := Lib.hid (show l.drop i = o :: l.drop (i + 1) by obtain ⟨h1, h2⟩ := List.getElem?_eq_some_iff.1 ho; rw [List.drop_eq_getElem_cons h1, h2])
        obtain ⟨kd, ad, va, ol⟩ := o
        obtain ⟨⟨hkd, had⟩, hva, hol⟩ := hof
        simp only at e0 e1 e2 e3 hkd had hva hol
        have HAD := Lib.hid had
        have HVA := Lib.hid hva
        have HOL := Lib.hid hol
        have hv1 := hva.1
        have hv2 := hva.2
        have ho1 := hol.1
        have ho2 := hol.2
        clear hc hg ho hkd had hva hol
        go_wp2_with fail
        obtain ⟨hE, hhE⟩ : ∃ hE, hE = wr.heap.size := ⟨_, rfl⟩
        have hX := heap_alloc_new wr (.cells #[.int .i64 kd, .int .i64 ad, .int .u32 va, .int .u32 ol] 29)
        have hba : Below wr.heap.size wr (wr.alloc (.cells #[.int .i64 kd, .int .i64 ad, .int .u32 va, .int .u32 ol] 29)) := (Below.refl _ _).alloc (Nat.le_refl _) _
        refine (right_c ⟨kd, ad, va, ol⟩ W (wr.alloc (.cells #[.int .i64 kd, .int .i64 ad, .int .u32 va, .int .u32 ol] 29))).mono ?_
        rintro ev w3 ⟨rfl, hb3⟩
        have HX3 := Lib.hid ((hb3.block wr.heap.size (by simp)).trans hX)
        have HBZ := hba.trans (hb3.mono hba.size)
        have HP0 := Lib.hid (HP.out.below HBZ)
        have HB3 := Lib.hid (HB.out.trans (HBZ.mono HB.out.size))
        rw [← hhE] at HX3 ⊢
        have HL0 := Lib.hid (show P0.length ≤ 10 + 40 * i ∧ P0.length ≤ 2600 by have := HLP.out; omega)
        clear hX hba hb3 HBZ HP HB HLP e0 e1 e2 e3 hhE
        cases hr : rightB ⟨kd, ad, va, ol⟩ W with
        | false =>
          have HR := Lib.hid hr
          clear hr
          have hga3 := (HS.out.below HB3.out).glob 0 (by omega)
          simp only [gnum] at hga3
          go_wp2_with fail
          refine (wrap_c A pgT i (.sent 0) w3).mono ?_
          rintro e w' ⟨rfl, rfl⟩
          go_wp2_with fail
          go_ret2
          unfold PutP
          rw [HE.out, HBAD.out, HDR.out, badE, if_neg (by rw [HR.out]; simp)]
          exact ⟨_, rfl, rfl, HB3.out⟩
        | true =>
          have HR := Lib.hid hr
          rcases right_kind hr with h | h | h | h
          · simp only at h
            subst h
            clear hr
            have hbad := HBAD.out
            have hpre := HPRE.out
            have hdr := HDR.out
            rw [hdr] at hbad
            have hbad := Lib.hid hbad
            have hpre := Lib.hid hpre
            have hdr := Lib.hid hdr
            have q0 := cell_of HX3.out 0
            have q1 := cell_of HX3.out 1
            have q2 := cell_of HX3.out 2
            have q3 := cell_of HX3.out 3
            simp only [List.getElem?_toArray, List.getElem?_cons_zero, List.getElem?_cons_succ] at q0 q1 q2 q3
            have hl3 := (Array.getElem?_eq_some_iff.1 HX3.out).1
            go_wp2_with fail
            refine (num_c _ P0 ((1 : Int) : Int) w3 HP0.out.slc (by omega) (by have := HL0.out; omega)).mono ?_
            rintro ev w4 ⟨u1, rfl, hu, hb⟩
            rw [← List.length_append] at hu
            have hln : (P0 ++ enc (zig ((1 : Int) : Int))).length = P0.length + (enc (zig ((1 : Int) : Int))).length := List.length_append
            have hle := enc_len10 (zig_lt (n := ((1 : Int) : Int)) (by omega))
            generalize hPQ : P0 ++ enc (zig ((1 : Int) : Int)) = P1 at hu hln
            have HQ1 := Lib.hid hPQ
            have HL1 := Lib.hid (show P1.length ≤ P0.length + 10 ∧ P1.length ≤ 2610 by have := HL0.out; omega)
            have HP1 := Lib.hid (hu.base2 HB3.out.size)
            have HB4 := Lib.hid (HB3.out.trans (hb.mono HB3.out.size))
            have HX4 := Lib.hid ((hb.block hE (Array.getElem?_eq_some_iff.1 HX3.out).1).trans HX3.out)
            obtain ⟨a1, c1, rfl⟩ := hu.len
            clear hu hb hln hle hPQ hl3 q0 q1 q2 q3
            have q0 := cell_of HX4.out 0
            have q1 := cell_of HX4.out 1
            have q2 := cell_of HX4.out 2
            have q3 := cell_of HX4.out 3
            simp only [List.getElem?_toArray, List.getElem?_cons_zero, List.getElem?_cons_succ] at q0 q1 q2 q3
            have hl4 := (Array.getElem?_eq_some_iff.1 HX4.out).1
            go_wp2_with fail
            refine (named_c (1 : Int) w4).mono ?_
            rintro ev w5 ⟨rfl, hb⟩
            rw [show nmA (1 : Int) = true from rfl, show nmV (1 : Int) = false from rfl, show nmO (1 : Int) = false from rfl]
            have hbf : Below w5.heap.size w5 (w5.alloc (.cells #[.bool true, .bool false, .bool false] 73)) := (Below.refl _ _).alloc (Nat.le_refl _) _
            have hb6 := hb.trans (hbf.mono hb.size)
            have hF := heap_alloc_new w5 (.cells #[.bool true, .bool false, .bool false] 73)
            have HF0 := Lib.hid hF
            have HX6 := Lib.hid ((hb6.block hE hl4).trans HX4.out)
            have HB6 := Lib.hid (HB4.out.trans (hb6.mono HB4.out.size))
            have HP1 := Lib.hid (HP1.out.below hb6)
            clear hb hbf hb6 hF hl4 q0 q1 q2 q3
            have q1 := cell_of HX6.out 1
            have q2 := cell_of HX6.out 2
            have q3 := cell_of HX6.out 3
            simp only [List.getElem?_toArray, List.getElem?_cons_zero, List.getElem?_cons_succ] at q1 q2 q3
            have hl6 := (Array.getElem?_eq_some_iff.1 HX6.out).1
            go_wp2_with fail
            obtain ⟨hG, hhG⟩ : ∃ hG, hG = w5.heap.size := ⟨_, rfl⟩
            rw [← hhG] at HF0 ⊢
            generalize w5.alloc (.cells #[.bool true, .bool false, .bool false] 73) = w6 at *
            have HF6 := HF0
            clear HF0 hhG hl6 q1 q2 q3
            refine (num_c _ P1 ad w6 HP1.out.slc HAD.out (by have := HL1.out; omega)).mono ?_
            rintro ev w7 ⟨u2, rfl, hu, hb⟩
            rw [← List.length_append] at hu
            have hln : (P1 ++ enc (zig ad)).length = P1.length + (enc (zig ad)).length := List.length_append
            have hle := enc_len10 (zig_lt (n := ad) HAD.out)
            generalize hPQ : P1 ++ enc (zig ad) = P2 at hu hln
            have HQ2 := Lib.hid hPQ
            have HL2 := Lib.hid (show P2.length ≤ P1.length + 10 ∧ P2.length ≤ 2620 by have := HL1.out; omega)
            have HP2 := Lib.hid (hu.base2 HB6.out.size)
            have HB7 := Lib.hid (HB6.out.trans (hb.mono HB6.out.size))
            have HX7 := Lib.hid ((hb.block hE (Array.getElem?_eq_some_iff.1 HX6.out).1).trans HX6.out)
            obtain ⟨a2, c2, rfl⟩ := hu.len
            have HF7 := Lib.hid ((hb.block hG (Array.getElem?_eq_some_iff.1 HF6.out).1).trans HF6.out)
            clear hu hb hln hle hPQ
            have q0 := cell_of HX7.out 0
            have q1 := cell_of HX7.out 1
            have q2 := cell_of HX7.out 2
            have q3 := cell_of HX7.out 3
            simp only [List.getElem?_toArray, List.getElem?_cons_zero, List.getElem?_cons_succ] at q0 q1 q2 q3
            have hl7 := (Array.getElem?_eq_some_iff.1 HX7.out).1
            have f0 := cell_of HF7.out 0
            have f1 := cell_of HF7.out 1
            have f2 := cell_of HF7.out 2
            simp only [List.getElem?_toArray, List.getElem?_cons_zero, List.getElem?_cons_succ] at f0 f1 f2
            go_wp2_with fail
            go_roundw
            case measure => simp [intOf]; omega
            case rel =>
              refine ⟨i + 1, P2, by omega, by go_num, by rw [hbad]; exact if_pos HR.out, ?_, HP2.out, by have := HL0.out; have := HL1.out; have := HL2.out; omega, HB7.out⟩
              rw [hpre, hdr, encOps, ← List.append_assoc]
              refine congrArg (· ++ encOps (l.drop (i + 1))) ?_
              simp only [encOp, show nmA (1 : Int) = true from rfl, show nmV (1 : Int) = false from rfl, show nmO (1 : Int) = false from rfl, if_true, if_false, Bool.false_eq_true, List.append_nil]
              rw [← HQ2.out, ← HQ1.out]
              simp only [List.append_assoc]
          · simp only at h
            subst h
            clear hr
            have hbad := HBAD.out
            have hpre := HPRE.out
            have hdr := HDR.out
            rw [hdr] at hbad
            have hbad := Lib.hid hbad
            have hpre := Lib.hid hpre
            have hdr := Lib.hid hdr
            have q0 := cell_of HX3.out 0
            have q1 := cell_of HX3.out 1
            have q2 := cell_of HX3.out 2
            have q3 := cell_of HX3.out 3
            simp only [List.getElem?_toArray, List.getElem?_cons_zero, List.getElem?_cons_succ] at q0 q1 q2 q3
            have hl3 := (Array.getElem?_eq_some_iff.1 HX3.out).1
            go_wp2_with fail
            refine (num_c _ P0 ((2 : Int) : Int) w3 HP0.out.slc (by omega) (by have := HL0.out; omega)).mono ?_
            rintro ev w4 ⟨u1, rfl, hu, hb⟩
            rw [← List.length_append] at hu
            have hln : (P0 ++ enc (zig ((2 : Int) : Int))).length = P0.length + (enc (zig ((2 : Int) : Int))).length := List.length_append
            have hle := enc_len10 (zig_lt (n := ((2 : Int) : Int)) (by omega))
            generalize hPQ : P0 ++ enc (zig ((2 : Int) : Int)) = P1 at hu hln
            have HQ1 := Lib.hid hPQ
            have HL1 := Lib.hid (show P1.length ≤ P0.length + 10 ∧ P1.length ≤ 2610 by have := HL0.out; omega)
            have HP1 := Lib.hid (hu.base2 HB3.out.size)
            have HB4 := Lib.hid (HB3.out.trans (hb.mono HB3.out.size))
            have HX4 := Lib.hid ((hb.block hE (Array.getElem?_eq_some_iff.1 HX3.out).1).trans HX3.out)
            obtain ⟨a1, c1, rfl⟩ := hu.len
            clear hu hb hln hle hPQ hl3 q0 q1 q2 q3
            have q0 := cell_of HX4.out 0
            have q1 := cell_of HX4.out 1
            have q2 := cell_of HX4.out 2
            have q3 := cell_of HX4.out 3
            simp only [List.getElem?_toArray, List.getElem?_cons_zero, List.getElem?_cons_succ] at q0 q1 q2 q3
            have hl4 := (Array.getElem?_eq_some_iff.1 HX4.out).1
            go_wp2_with fail
            refine (named_c (2 : Int) w4).mono ?_
            rintro ev w5 ⟨rfl, hb⟩
            rw [show nmA (2 : Int) = true from rfl, show nmV (2 : Int) = true from rfl, show nmO (2 : Int) = false from rfl]
            have hbf : Below w5.heap.size w5 (w5.alloc (.cells #[.bool true, .bool true, .bool false] 73)) := (Below.refl _ _).alloc (Nat.le_refl _) _
            have hb6 := hb.trans (hbf.mono hb.size)
            have hF := heap_alloc_new w5 (.cells #[.bool true, .bool true, .bool false] 73)
            have HF0 := Lib.hid hF
            have HX6 := Lib.hid ((hb6.block hE hl4).trans HX4.out)
            have HB6 := Lib.hid (HB4.out.trans (hb6.mono HB4.out.size))
            have HP1 := Lib.hid (HP1.out.below hb6)
            clear hb hbf hb6 hF hl4 q0 q1 q2 q3
            have q1 := cell_of HX6.out 1
            have q2 := cell_of HX6.out 2
            have q3 := cell_of HX6.out 3
            simp only [List.getElem?_toArray, List.getElem?_cons_zero, List.getElem?_cons_succ] at q1 q2 q3
            have hl6 := (Array.getElem?_eq_some_iff.1 HX6.out).1
            go_wp2_with fail
            obtain ⟨hG, hhG⟩ : ∃ hG, hG = w5.heap.size := ⟨_, rfl⟩
            rw [← hhG] at HF0 ⊢
            generalize w5.alloc (.cells #[.bool true, .bool true, .bool false] 73) = w6 at *
            have HF6 := HF0
            clear HF0 hhG hl6 q1 q2 q3
            refine (num_c _ P1 ad w6 HP1.out.slc HAD.out (by have := HL1.out; omega)).mono ?_
            rintro ev w7 ⟨u2, rfl, hu, hb⟩
            rw [← List.length_append] at hu
            have hln : (P1 ++ enc (zig ad)).length = P1.length + (enc (zig ad)).length := List.length_append
            have hle := enc_len10 (zig_lt (n := ad) HAD.out)
            generalize hPQ : P1 ++ enc (zig ad) = P2 at hu hln
            have HQ2 := Lib.hid hPQ
            have HL2 := Lib.hid (show P2.length ≤ P1.length + 10 ∧ P2.length ≤ 2620 by have := HL1.out; omega)
            have HP2 := Lib.hid (hu.base2 HB6.out.size)
            have HB7 := Lib.hid (HB6.out.trans (hb.mono HB6.out.size))
            have HX7 := Lib.hid ((hb.block hE (Array.getElem?_eq_some_iff.1 HX6.out).1).trans HX6.out)
            obtain ⟨a2, c2, rfl⟩ := hu.len
            have HF7 := Lib.hid ((hb.block hG (Array.getElem?_eq_some_iff.1 HF6.out).1).trans HF6.out)
            clear hu hb hln hle hPQ
            have q0 := cell_of HX7.out 0
            have q1 := cell_of HX7.out 1
            have q2 := cell_of HX7.out 2
            have q3 := cell_of HX7.out 3
            simp only [List.getElem?_toArray, List.getElem?_cons_zero, List.getElem?_cons_succ] at q0 q1 q2 q3
            have hl7 := (Array.getElem?_eq_some_iff.1 HX7.out).1
            have f0 := cell_of HF7.out 0
            have f1 := cell_of HF7.out 1
            have f2 := cell_of HF7.out 2
            simp only [List.getElem?_toArray, List.getElem?_cons_zero, List.getElem?_cons_succ] at f0 f1 f2
            go_wp2_with fail
            clear q0 q1 q2 q3 f0 f1 f2 hl7
            refine (num_c _ P2 va w7 HP2.out.slc (by have := HVA.out; omega) (by have := HL2.out; omega)).mono ?_
            rintro ev w8 ⟨u3, rfl, hu, hb⟩
            rw [← List.length_append] at hu
            have hln : (P2 ++ enc (zig va)).length = P2.length + (enc (zig va)).length := List.length_append
            have hle := enc_len10 (zig_lt (n := va) (by have := HVA.out; omega))
            generalize hPQ : P2 ++ enc (zig va) = P3 at hu hln
            have HQ3 := Lib.hid hPQ
            have HL3 := Lib.hid (show P3.length ≤ P2.length + 10 ∧ P3.length ≤ 2630 by have := HL2.out; omega)
            have HP3 := Lib.hid (hu.base2 HB7.out.size)
            have HB8 := Lib.hid (HB7.out.trans (hb.mono HB7.out.size))
            have HX8 := Lib.hid ((hb.block hE (Array.getElem?_eq_some_iff.1 HX7.out).1).trans HX7.out)
            obtain ⟨a3, c3, rfl⟩ := hu.len
            have HF8 := Lib.hid ((hb.block hG (Array.getElem?_eq_some_iff.1 HF7.out).1).trans HF7.out)
            clear hu hb hln hle hPQ
            have q0 := cell_of HX8.out 0
            have q1 := cell_of HX8.out 1
            have q2 := cell_of HX8.out 2
            have q3 := cell_of HX8.out 3
            simp only [List.getElem?_toArray, List.getElem?_cons_zero, List.getElem?_cons_succ] at q0 q1 q2 q3
            have hl8 := (Array.getElem?_eq_some_iff.1 HX8.out).1
            have f0 := cell_of HF8.out 0
            have f1 := cell_of HF8.out 1
            have f2 := cell_of HF8.out 2
            simp only [List.getElem?_toArray, List.getElem?_cons_zero, List.getElem?_cons_succ] at f0 f1 f2
            go_wp2_with fail
            go_roundw
            case measure => simp [intOf]; omega
            case rel =>
              refine ⟨i + 1, P3, by omega, by go_num, by rw [hbad]; exact if_pos HR.out, ?_, HP3.out, by have := HL0.out; have := HL1.out; have := HL2.out; have := HL3.out; omega, HB8.out⟩
              rw [hpre, hdr, encOps, ← List.append_assoc]
              refine congrArg (· ++ encOps (l.drop (i + 1))) ?_
              simp only [encOp, show nmA (2 : Int) = true from rfl, show nmV (2 : Int) = true from rfl, show nmO (2 : Int) = false from rfl, if_true, if_false, Bool.false_eq_true, List.append_nil]
              rw [← HQ3.out, ← HQ2.out, ← HQ1.out]
              simp only [List.append_assoc]
          · simp only at h
            subst h
            clear hr
            have hbad := HBAD.out
            have hpre := HPRE.out
            have hdr := HDR.out
            rw [hdr] at hbad
            have hbad := Lib.hid hbad
            have hpre := Lib.hid hpre
            have hdr := Lib.hid hdr
            have q0 := cell_of HX3.out 0
            have q1 := cell_of HX3.out 1
            have q2 := cell_of HX3.out 2
            have q3 := cell_of HX3.out 3
            simp only [List.getElem?_toArray, List.getElem?_cons_zero, List.getElem?_cons_succ] at q0 q1 q2 q3
            have hl3 := (Array.getElem?_eq_some_iff.1 HX3.out).1
            go_wp2_with fail
            refine (num_c _ P0 ((3 : Int) : Int) w3 HP0.out.slc (by omega) (by have := HL0.out; omega)).mono ?_
            rintro ev w4 ⟨u1, rfl, hu, hb⟩
            rw [← List.length_append] at hu
            have hln : (P0 ++ enc (zig ((3 : Int) : Int))).length = P0.length + (enc (zig ((3 : Int) : Int))).length := List.length_append
            have hle := enc_len10 (zig_lt (n := ((3 : Int) : Int)) (by omega))
            generalize hPQ : P0 ++ enc (zig ((3 : Int) : Int)) = P1 at hu hln
            have HQ1 := Lib.hid hPQ
            have HL1 := Lib.hid (show P1.length ≤ P0.length + 10 ∧ P1.length ≤ 2610 by have := HL0.out; omega)
            have HP1 := Lib.hid (hu.base2 HB3.out.size)
            have HB4 := Lib.hid (HB3.out.trans (hb.mono HB3.out.size))
            have HX4 := Lib.hid ((hb.block hE (Array.getElem?_eq_some_iff.1 HX3.out).1).trans HX3.out)
            obtain ⟨a1, c1, rfl⟩ := hu.len
            clear hu hb hln hle hPQ hl3 q0 q1 q2 q3
            have q0 := cell_of HX4.out 0
            have q1 := cell_of HX4.out 1
            have q2 := cell_of HX4.out 2
            have q3 := cell_of HX4.out 3
            simp only [List.getElem?_toArray, List.getElem?_cons_zero, List.getElem?_cons_succ] at q0 q1 q2 q3
            have hl4 := (Array.getElem?_eq_some_iff.1 HX4.out).1
            go_wp2_with fail
            refine (named_c (3 : Int) w4).mono ?_
            rintro ev w5 ⟨rfl, hb⟩
            rw [show nmA (3 : Int) = true from rfl, show nmV (3 : Int) = true from rfl, show nmO (3 : Int) = true from rfl]
            have hbf : Below w5.heap.size w5 (w5.alloc (.cells #[.bool true, .bool true, .bool true] 73)) := (Below.refl _ _).alloc (Nat.le_refl _) _
            have hb6 := hb.trans (hbf.mono hb.size)
            have hF := heap_alloc_new w5 (.cells #[.bool true, .bool true, .bool true] 73)
            have HF0 := Lib.hid hF
            have HX6 := Lib.hid ((hb6.block hE hl4).trans HX4.out)
            have HB6 := Lib.hid (HB4.out.trans (hb6.mono HB4.out.size))
            have HP1 := Lib.hid (HP1.out.below hb6)
            clear hb hbf hb6 hF hl4 q0 q1 q2 q3
            have q1 := cell_of HX6.out 1
            have q2 := cell_of HX6.out 2
            have q3 := cell_of HX6.out 3
            simp only [List.getElem?_toArray, List.getElem?_cons_zero, List.getElem?_cons_succ] at q1 q2 q3
            have hl6 := (Array.getElem?_eq_some_iff.1 HX6.out).1
            go_wp2_with fail
            obtain ⟨hG, hhG⟩ : ∃ hG, hG = w5.heap.size := ⟨_, rfl⟩
            rw [← hhG] at HF0 ⊢
            generalize w5.alloc (.cells #[.bool true, .bool true, .bool true] 73) = w6 at *
            have HF6 := HF0
            clear HF0 hhG hl6 q1 q2 q3
            refine (num_c _ P1 ad w6 HP1.out.slc HAD.out (by have := HL1.out; omega)).mono ?_
            rintro ev w7 ⟨u2, rfl, hu, hb⟩
            rw [← List.length_append] at hu
            have hln : (P1 ++ enc (zig ad)).length = P1.length + (enc (zig ad)).length := List.length_append
            have hle := enc_len10 (zig_lt (n := ad) HAD.out)
            generalize hPQ : P1 ++ enc (zig ad) = P2 at hu hln
            have HQ2 := Lib.hid hPQ
            have HL2 := Lib.hid (show P2.length ≤ P1.length + 10 ∧ P2.length ≤ 2620 by have := HL1.out; omega)
            have HP2 := Lib.hid (hu.base2 HB6.out.size)
            have HB7 := Lib.hid (HB6.out.trans (hb.mono HB6.out.size))
            have HX7 := Lib.hid ((hb.block hE (Array.getElem?_eq_some_iff.1 HX6.out).1).trans HX6.out)
            obtain ⟨a2, c2, rfl⟩ := hu.len
            have HF7 := Lib.hid ((hb.block hG (Array.getElem?_eq_some_iff.1 HF6.out).1).trans HF6.out)
            clear hu hb hln hle hPQ
            have q0 := cell_of HX7.out 0
            have q1 := cell_of HX7.out 1
            have q2 := cell_of HX7.out 2
            have q3 := cell_of HX7.out 3
            simp only [List.getElem?_toArray, List.getElem?_cons_zero, List.getElem?_cons_succ] at q0 q1 q2 q3
            have hl7 := (Array.getElem?_eq_some_iff.1 HX7.out).1
            have f0 := cell_of HF7.out 0
            have f1 := cell_of HF7.out 1
            have f2 := cell_of HF7.out 2
            simp only [List.getElem?_toArray, List.getElem?_cons_zero, List.getElem?_cons_succ] at f0 f1 f2
            go_wp2_with fail
            clear q0 q1 q2 q3 f0 f1 f2 hl7
            refine (num_c _ P2 va w7 HP2.out.slc (by have := HVA.out; omega) (by have := HL2.out; omega)).mono ?_
            rintro ev w8 ⟨u3, rfl, hu, hb⟩
            rw [← List.length_append] at hu
            have hln : (P2 ++ enc (zig va)).length = P2.length + (enc (zig va)).length := List.length_append
            have hle := enc_len10 (zig_lt (n := va) (by have := HVA.out; omega))
            generalize hPQ : P2 ++ enc (zig va) = P3 at hu hln
            have HQ3 := Lib.hid hPQ
            have HL3 := Lib.hid (show P3.length ≤ P2.length + 10 ∧ P3.length ≤ 2630 by have := HL2.out; omega)
            have HP3 := Lib.hid (hu.base2 HB7.out.size)
            have HB8 := Lib.hid (HB7.out.trans (hb.mono HB7.out.size))
            have HX8 := Lib.hid ((hb.block hE (Array.getElem?_eq_some_iff.1 HX7.out).1).trans HX7.out)
            obtain ⟨a3, c3, rfl⟩ := hu.len
            have HF8 := Lib.hid ((hb.block hG (Array.getElem?_eq_some_iff.1 HF7.out).1).trans HF7.out)
            clear hu hb hln hle hPQ
            have q0 := cell_of HX8.out 0
            have q1 := cell_of HX8.out 1
            have q2 := cell_of HX8.out 2
            have q3 := cell_of HX8.out 3
            simp only [List.getElem?_toArray, List.getElem?_cons_zero, List.getElem?_cons_succ] at q0 q1 q2 q3
            have hl8 := (Array.getElem?_eq_some_iff.1 HX8.out).1
            have f0 := cell_of HF8.out 0
            have f1 := cell_of HF8.out 1
            have f2 := cell_of HF8.out 2
            simp only [List.getElem?_toArray, List.getElem?_cons_zero, List.getElem?_cons_succ] at f0 f1 f2
            go_wp2_with fail
            clear q0 q1 q2 q3 f0 f1 f2 hl8
            refine (num_c _ P3 ol w8 HP3.out.slc (by have := HOL.out; omega) (by have := HL3.out; omega)).mono ?_
            rintro ev w9 ⟨u4, rfl, hu, hb⟩
            rw [← List.length_append] at hu
            have hln : (P3 ++ enc (zig ol)).length = P3.length + (enc (zig ol)).length := List.length_append
            have hle := enc_len10 (zig_lt (n := ol) (by have := HOL.out; omega))
            generalize hPQ : P3 ++ enc (zig ol) = P4 at hu hln
            have HQ4 := Lib.hid hPQ
            have HL4 := Lib.hid (show P4.length ≤ P3.length + 10 ∧ P4.length ≤ 2640 by have := HL3.out; omega)
            have HP4 := Lib.hid (hu.base2 HB8.out.size)
            have HB9 := Lib.hid (HB8.out.trans (hb.mono HB8.out.size))
            have HX9 := Lib.hid ((hb.block hE (Array.getElem?_eq_some_iff.1 HX8.out).1).trans HX8.out)
            obtain ⟨a4, c4, rfl⟩ := hu.len
            have HF9 := Lib.hid ((hb.block hG (Array.getElem?_eq_some_iff.1 HF8.out).1).trans HF8.out)
            clear hu hb hln hle hPQ
            have q0 := cell_of HX9.out 0
            have q1 := cell_of HX9.out 1
            have q2 := cell_of HX9.out 2
            have q3 := cell_of HX9.out 3
            simp only [List.getElem?_toArray, List.getElem?_cons_zero, List.getElem?_cons_succ] at q0 q1 q2 q3
            have hl9 := (Array.getElem?_eq_some_iff.1 HX9.out).1
            have f0 := cell_of HF9.out 0
            have f1 := cell_of HF9.out 1
            have f2 := cell_of HF9.out 2
            simp only [List.getElem?_toArray, List.getElem?_cons_zero, List.getElem?_cons_succ] at f0 f1 f2
            go_wp2_with fail
            go_roundw
            case measure => simp [intOf]; omega
            case rel =>
              refine ⟨i + 1, P4, by omega, by go_num, by rw [hbad]; exact if_pos HR.out, ?_, HP4.out, by have := HL0.out; have := HL1.out; have := HL2.out; have := HL3.out; have := HL4.out; omega, HB9.out⟩
              rw [hpre, hdr, encOps, ← List.append_assoc]
              refine congrArg (· ++ encOps (l.drop (i + 1))) ?_
              simp only [encOp, show nmA (3 : Int) = true from rfl, show nmV (3 : Int) = true from rfl, show nmO (3 : Int) = true from rfl, if_true]
              rw [← HQ4.out, ← HQ3.out, ← HQ2.out, ← HQ1.out]
              simp only [List.append_assoc]
          · simp only at h
            subst h
            clear hr
            have hbad := HBAD.out
            have hpre := HPRE.out
            have hdr := HDR.out
            rw [hdr] at hbad
            have hbad := Lib.hid hbad
            have hpre := Lib.hid hpre
            have hdr := Lib.hid hdr
            have q0 := cell_of HX3.out 0
            have q1 := cell_of HX3.out 1
            have q2 := cell_of HX3.out 2
            have q3 := cell_of HX3.out 3
            simp only [List.getElem?_toArray, List.getElem?_cons_zero, List.getElem?_cons_succ] at q0 q1 q2 q3
            have hl3 := (Array.getElem?_eq_some_iff.1 HX3.out).1
            go_wp2_with fail
            refine (num_c _ P0 ((4 : Int) : Int) w3 HP0.out.slc (by omega) (by have := HL0.out; omega)).mono ?_
            rintro ev w4 ⟨u1, rfl, hu, hb⟩
            rw [← List.length_append] at hu
            have hln : (P0 ++ enc (zig ((4 : Int) : Int))).length = P0.length + (enc (zig ((4 : Int) : Int))).length := List.length_append
            have hle := enc_len10 (zig_lt (n := ((4 : Int) : Int)) (by omega))
            generalize hPQ : P0 ++ enc (zig ((4 : Int) : Int)) = P1 at hu hln
            have HQ1 := Lib.hid hPQ
            have HL1 := Lib.hid (show P1.length ≤ P0.length + 10 ∧ P1.length ≤ 2610 by have := HL0.out; omega)
            have HP1 := Lib.hid (hu.base2 HB3.out.size)
            have HB4 := Lib.hid (HB3.out.trans (hb.mono HB3.out.size))
            have HX4 := Lib.hid ((hb.block hE (Array.getElem?_eq_some_iff.1 HX3.out).1).trans HX3.out)
            obtain ⟨a1, c1, rfl⟩ := hu.len
            clear hu hb hln hle hPQ hl3 q0 q1 q2 q3
            have q0 := cell_of HX4.out 0
            have q1 := cell_of HX4.out 1
            have q2 := cell_of HX4.out 2
            have q3 := cell_of HX4.out 3
            simp only [List.getElem?_toArray, List.getElem?_cons_zero, List.getElem?_cons_succ] at q0 q1 q2 q3
            have hl4 := (Array.getElem?_eq_some_iff.1 HX4.out).1
            go_wp2_with fail
            refine (named_c (4 : Int) w4).mono ?_
            rintro ev w5 ⟨rfl, hb⟩
            rw [show nmA (4 : Int) = false from rfl, show nmV (4 : Int) = false from rfl, show nmO (4 : Int) = false from rfl]
            have hbf : Below w5.heap.size w5 (w5.alloc (.cells #[.bool false, .bool false, .bool false] 73)) := (Below.refl _ _).alloc (Nat.le_refl _) _
            have hb6 := hb.trans (hbf.mono hb.size)
            have hF := heap_alloc_new w5 (.cells #[.bool false, .bool false, .bool false] 73)
            have HF0 := Lib.hid hF
            have HX6 := Lib.hid ((hb6.block hE hl4).trans HX4.out)
            have HB6 := Lib.hid (HB4.out.trans (hb6.mono HB4.out.size))
            have HP1 := Lib.hid (HP1.out.below hb6)
            clear hb hbf hb6 hF hl4 q0 q1 q2 q3
            have q1 := cell_of HX6.out 1
            have q2 := cell_of HX6.out 2
            have q3 := cell_of HX6.out 3
            simp only [List.getElem?_toArray, List.getElem?_cons_zero, List.getElem?_cons_succ] at q1 q2 q3
            have hl6 := (Array.getElem?_eq_some_iff.1 HX6.out).1
            go_wp2_with fail
            go_roundw
            case measure => simp [intOf]; omega
            case rel =>
              refine ⟨i + 1, P1, by omega, by go_num, by rw [hbad]; exact if_pos HR.out, ?_, HP1.out, by have := HL0.out; have := HL1.out; omega, HB6.out⟩
              rw [hpre, hdr, encOps, ← List.append_assoc]
              refine congrArg (· ++ encOps (l.drop (i + 1))) ?_
              simp only [encOp, show nmA (4 : Int) = false from rfl, show nmV (4 : Int) = false from rfl, show nmO (4 : Int) = false from rfl, if_false, Bool.false_eq_true, List.append_nil]
              rw [← HQ1.out]
      · have g2 : decide ((i : Int) < (n : Int)) = false := by simp; omega
        have g3 : decide (i < n) = false := by simp; omega
        have hdn : l.drop i = [] := List.drop_eq_nil_of_le (by have := HN.out; omega)
        have HDN := Lib.hid hdn
        clear hdn
        go_wp2_with fail
        go_ret2
        have hb0 := HBAD.out
        rw [HDN.out] at hb0
        have hp0 := HPRE.out
        rw [HDN.out, encOps, List.append_nil] at hp0
        unfold PutP
        rw [HE.out, hb0, hp0]
        exact ⟨_, rfl, HP.out, HB.out⟩

end Go.Proofs.YtpljdbcifaeblaaDoor
