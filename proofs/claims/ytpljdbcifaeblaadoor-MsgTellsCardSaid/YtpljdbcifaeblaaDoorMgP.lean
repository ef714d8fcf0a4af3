/- Messages: which are right, their bytes, what bytes tell. -/
import Derived.Test.YtpljdbcifaeblaaDoorPg4
import Derived.Test.YtpljdbcifaeblaaDoorRd4
namespace Go.Proofs.YtpljdbcifaeblaaDoor
open Go.RowKit Go.Extern.Stop Go.Stop Go.Extern

/-- A message. -/
structure MsgV where
  kind : Int
  core : Int
  line : Int
  state : Int
  mode : Int
  epoch : Int
  word : Int
  val : Int
  d0 : Int
  d1 : Int
  d2 : Int
  d3 : Int
  has : Bool
def MsgV.cs (m : MsgV) : List Value := [.int .i64 m.kind, .int .i64 m.core, .int .i64 m.line, .int .i64 m.state, .int .i64 m.mode, .int .i64 m.epoch, .int .i64 m.word, .int .u32 m.val, .int .u32 m.d0, .int .u32 m.d1, .int .u32 m.d2, .int .u32 m.d3, .bool m.has]
def MsgV.v (m : MsgV) : Value := .agg #[.int .i64 m.kind, .int .i64 m.core, .int .i64 m.line, .int .i64 m.state, .int .i64 m.mode, .int .i64 m.epoch, .int .i64 m.word, .int .u32 m.val, .int .u32 m.d0, .int .u32 m.d1, .int .u32 m.d2, .int .u32 m.d3, .bool m.has]
def in64 (n : Int) : Prop := -9223372036854775808 ≤ n ∧ n ≤ 9223372036854775807
def in32 (n : Int) : Prop := 0 ≤ n ∧ n ≤ 4294967295
theorem in32.big {n : Int} (h : in32 n) : in64 n := by unfold in32 at h; unfold in64; omega
/-- Its numbers lie in their types' bounds. -/
structure MsgV.fit (m : MsgV) : Prop where
  kind : in64 m.kind
  core : in64 m.core
  line : in64 m.line
  state : in64 m.state
  mode : in64 m.mode
  epoch : in64 m.epoch
  word : in64 m.word
  val : in32 m.val
  d0 : in32 m.d0
  d1 : in32 m.d1
  d2 : in32 m.d2
  d3 : in32 m.d3
def mgW (k : Int) : Bool := decide (k = 3 ∨ k = 8 ∨ k = 14)
def mgM (k : Int) : Bool := decide (k = 5 ∨ k = 9 ∨ k = 13)
def mgE (k : Int) : Bool := decide (k = 9 ∨ k = 13)
def mgS (k : Int) : Bool := decide (k = 11 ∨ k = 13)
def mg9 (k : Int) : Bool := decide (k = 9)
def mgD (k : Int) : Bool := decide (k = 13)
def poolM (k : Int) : Int := if k < 1 then -1 else if k ≤ 4 then 0 else if k ≤ 10 then 1 else if k ≤ 12 then 2 else if k ≤ 15 then 3 else -1
/-- It tells nothing that its kind doesn't name. -/
structure MsgV.Bare (m : MsgV) : Prop where
  word : mgW m.kind = false → m.word = 0 ∧ m.val = 0
  mode : mgM m.kind = false → m.mode = 0
  epoch : mgE m.kind = false → m.epoch = 0
  state : mgS m.kind = false → m.state = 0 ∧ m.has = false
  data : m.has = false → m.d0 = 0 ∧ m.d1 = 0 ∧ m.d2 = 0 ∧ m.d3 = 0
/-- It may be. -/
structure MsgV.Right (m : MsgV) : Prop where
  kind : 1 ≤ m.kind ∧ m.kind ≤ 15
  core : 0 ≤ m.core ∧ m.core ≤ 63
  line : 0 ≤ m.line ∧ m.line ≤ 31
  bare : m.Bare
  word : 0 ≤ m.word ∧ m.word ≤ 3
  state : 0 ≤ m.state ∧ m.state ≤ 4
  mode : 0 ≤ m.mode ∧ m.mode ≤ 3
  epoch : 0 ≤ m.epoch ∧ m.epoch ≤ 255
  gran : m.kind = 13 → m.state ≠ 0 ∧ m.state ≠ 3
def bareB (m : MsgV) : Bool := (mgW m.kind || decide (m.word = 0 ∧ m.val = 0)) && (mgM m.kind || decide (m.mode = 0)) && (mgE m.kind || decide (m.epoch = 0)) && (mgS m.kind || decide (m.state = 0 ∧ m.has = false)) && (m.has || decide (m.d0 = 0 ∧ m.d1 = 0 ∧ m.d2 = 0 ∧ m.d3 = 0))
def rightM (m : MsgV) : Bool := decide (1 ≤ m.kind ∧ m.kind ≤ 15) && decide (0 ≤ m.core ∧ m.core ≤ 63) && decide (0 ≤ m.line ∧ m.line ≤ 31) && bareB m && decide (0 ≤ m.word ∧ m.word ≤ 3) && decide (0 ≤ m.state ∧ m.state ≤ 4) && decide (0 ≤ m.mode ∧ m.mode ≤ 3) && decide (0 ≤ m.epoch ∧ m.epoch ≤ 255) && decide (m.kind = 13 → m.state ≠ 0 ∧ m.state ≠ 3)
theorem bareB_iff (m : MsgV) : bareB m = true ↔ m.Bare := by
  unfold bareB
  simp only [Bool.and_eq_true, Bool.or_eq_true, decide_eq_true_eq]
  constructor
  · rintro ⟨⟨⟨⟨h1, h2⟩, h3⟩, h4⟩, h5⟩
    exact ⟨fun h => h1.resolve_left (by simp [h]), fun h => h2.resolve_left (by simp [h]), fun h => h3.resolve_left (by simp [h]), fun h => h4.resolve_left (by simp [h]), fun h => h5.resolve_left (by simp [h])⟩
  · intro h
    have c : ∀ b : Bool, b = true ∨ b = false := fun b => by cases b <;> simp
    exact ⟨⟨⟨⟨(c _).imp_right h.word, (c _).imp_right h.mode⟩, (c _).imp_right h.epoch⟩, (c _).imp_right h.state⟩, (c _).imp_right h.data⟩
theorem rightM_iff (m : MsgV) : rightM m = true ↔ m.Right := by
  unfold rightM
  simp only [Bool.and_eq_true, decide_eq_true_eq, bareB_iff]
  constructor
  · rintro ⟨⟨⟨⟨⟨⟨⟨⟨h1, h2⟩, h3⟩, h4⟩, h5⟩, h6⟩, h7⟩, h8⟩, h9⟩
    exact ⟨h1, h2, h3, h4, h5, h6, h7, h8, h9⟩
  · intro h
    exact ⟨⟨⟨⟨⟨⟨⟨⟨h.kind, h.core⟩, h.line⟩, h.bare⟩, h.word⟩, h.state⟩, h.mode⟩, h.epoch⟩, h.gran⟩
/-- Its bytes. -/
def encIf (on : Bool) (n : Int) : List Nat := if on then enc (zig n) else []
def hasN (b : Bool) : Int := if b then 1 else 0
def encM (m : MsgV) : List Nat := encIf true m.kind ++ (encIf true m.core ++ (encIf true m.line ++ (encIf (mgW m.kind) m.word ++ (encIf (mgW m.kind) m.val ++ (encIf (mg9 m.kind) m.epoch ++ (encIf (mgM m.kind) m.mode ++ (encIf (mgD m.kind) m.epoch ++ (encIf (mgS m.kind) m.state ++ (encIf (mgS m.kind) (hasN m.has) ++ (encIf m.has m.d0 ++ (encIf m.has m.d1 ++ (encIf m.has m.d2 ++ encIf m.has m.d3))))))))))))
/-- The message that a reader tells. -/
def getM (L : List Nat) (s : Nat × ErrT) : MsgV × Nat × ErrT :=
  let k := rdF L s true 1 15
  let c := rdF L k.2 true 0 63
  let l := rdF L c.2 true 0 31
  let w := rdF L l.2 (mgW k.1) 0 3
  let v := rdF L w.2 (mgW k.1) 0 4294967295
  let e := rdF L v.2 (mg9 k.1) 0 255
  let o := rdF L e.2 (mgM k.1) 0 3
  let p := rdF L o.2 (mgD k.1) 0 255
  let t := rdF L p.2 (mgS k.1) 0 4
  let h := rdF L t.2 (mgS k.1) 0 1
  let x := rdF L h.2 (h.1 == 1) 0 4294967295
  let y := rdF L x.2 (h.1 == 1) 0 4294967295
  let z := rdF L y.2 (h.1 == 1) 0 4294967295
  let q := rdF L z.2 (h.1 == 1) 0 4294967295
  (⟨k.1, c.1, l.1, t.1, o.1, e.1 + p.1, w.1, v.1, x.1, y.1, z.1, q.1, h.1 == 1⟩, q.2)
def mtT : ByteArray := ⟨#[109, 115, 103, 46, 71, 101, 116]⟩
def zeroM : MsgV := ⟨0, 0, 0, 0, 0, 0, 0, 0, 0, 0, 0, 0, false⟩
/-- What Get answers: the message and the error. -/
def tellM (L : List Nat) : MsgV × ErrT :=
  let g := getM L (0, .nil)
  if (endE L g.2.1 g.2.2).isNil then (if rightM g.1 then (g.1, .nil) else (zeroM, .wrap mtT 0 (.sent 3))) else (zeroM, .wrap mtT 0 (endE L g.2.1 g.2.2))

theorem rdF_decI {L : List Nat} {s : Nat × ErrT} {a : Nat} {on : Bool} {lo hi n : Int} (hb : ∀ c ∈ L, c < 256) (h : rdF L s on lo hi = (n, a, .nil)) : s.2 = .nil ∧ (on = true → lo ≤ n ∧ n ≤ hi) ∧ (on = false → n = 0) ∧ L.drop s.1 = encIf on n ++ L.drop a := rdF_dec (e := s.2) hb h
/-- What is read without an error was written so. -/
theorem getM_dec {L : List Nat} {s : Nat × ErrT} {a : Nat} {m : MsgV} (hb : ∀ c ∈ L, c < 256) (h : getM L s = (m, a, .nil)) :
    s.2 = .nil ∧ (m.kind = 13 → m.state ≠ 0 ∧ m.state ≠ 3 → m.Right) ∧ (m.kind ≠ 13 → m.Right) ∧ m.fit ∧ L.drop s.1 = encM m ++ L.drop a := by
  unfold getM at h
  simp only at h
  generalize hk : rdF L s true 1 15 = k at h
  obtain ⟨K, s1⟩ := k
  simp only at h
  generalize hc : rdF L s1 true 0 63 = k at h
  obtain ⟨C, s2⟩ := k
  simp only at h
  generalize hl : rdF L s2 true 0 31 = k at h
  obtain ⟨N, s3⟩ := k
  simp only at h
  generalize hw : rdF L s3 (mgW K) 0 3 = k at h
  obtain ⟨w, s4⟩ := k
  simp only at h
  generalize hv : rdF L s4 (mgW K) 0 4294967295 = k at h
  obtain ⟨v, s5⟩ := k
  simp only at h
  generalize he : rdF L s5 (mg9 K) 0 255 = k at h
  obtain ⟨e, s6⟩ := k
  simp only at h
  generalize ho : rdF L s6 (mgM K) 0 3 = k at h
  obtain ⟨o, s7⟩ := k
  simp only at h
  generalize hp : rdF L s7 (mgD K) 0 255 = k at h
  obtain ⟨p, s8⟩ := k
  simp only at h
  generalize ht : rdF L s8 (mgS K) 0 4 = k at h
  obtain ⟨t, s9⟩ := k
  simp only at h
  generalize hh : rdF L s9 (mgS K) 0 1 = k at h
  obtain ⟨b, s10⟩ := k
  simp only at h
  generalize hx : rdF L s10 (b == 1) 0 4294967295 = k at h
  obtain ⟨x, s11⟩ := k
  simp only at h
  generalize hy : rdF L s11 (b == 1) 0 4294967295 = k at h
  obtain ⟨y, s12⟩ := k
  simp only at h
  generalize hz : rdF L s12 (b == 1) 0 4294967295 = k at h
  obtain ⟨z, s13⟩ := k
  simp only at h
  generalize hq : rdF L s13 (b == 1) 0 4294967295 = k at h
  obtain ⟨q, a14, e14⟩ := k
  simp only [Prod.mk.injEq] at h
  obtain ⟨rfl, rfl, rfl⟩ := h
  have fin : ∀ {s s' : Nat × ErrT} {on : Bool} {lo hi n : Int}, rdF L s on lo hi = (n, s') → s'.2 = .nil → s.2 = .nil ∧ (on = true → lo ≤ n ∧ n ≤ hi) ∧ (on = false → n = 0) ∧ L.drop s.1 = encIf on n ++ L.drop s'.1 := by
    intro s s' on lo hi n h0 h1
    obtain ⟨a', e'⟩ := s'
    simp only at h1
    subst h1
    exact rdF_decI hb h0
  obtain ⟨n13, q1, q2, q3⟩ := fin hq rfl
  obtain ⟨n12, z1, z2, z3⟩ := fin hz n13
  obtain ⟨n11, y1, y2, y3⟩ := fin hy n12
  obtain ⟨n10, x1, x2, x3⟩ := fin hx n11
  obtain ⟨n9, b1, b2, b3⟩ := fin hh n10
  obtain ⟨n8, t1, t2, t3⟩ := fin ht n9
  obtain ⟨n7, p1, p2, p3⟩ := fin hp n8
  obtain ⟨n6, o1, o2, o3⟩ := fin ho n7
  obtain ⟨n5, e1, e2, e3⟩ := fin he n6
  obtain ⟨n4, v1, v2, v3⟩ := fin hv n5
  obtain ⟨n3, w1, w2, w3⟩ := fin hw n4
  obtain ⟨n2, l1, _, l3⟩ := fin hl n3
  obtain ⟨n1, c1, _, c3⟩ := fin hc n2
  obtain ⟨n0, k1, _, k3⟩ := fin hk n1
  have k1 := k1 rfl
  have c1 := c1 rfl
  have l1 := l1 rfl
  clear fin hk hc hl hw hv he ho hp ht hh hx hy hz hq n1 n2 n3 n4 n5 n6 n7 n8 n9 n10 n11 n12 n13
  have fB : ∀ {on : Bool} {n hi : Int}, (on = true → 0 ≤ n ∧ n ≤ hi) → (on = false → n = 0) → 0 ≤ hi → 0 ≤ n ∧ n ≤ hi := by
    intro on n hi h1 h0 hh
    cases on with
    | true => exact h1 rfl
    | false => have := h0 rfl; omega
  have W := fB w1 w2 (by omega)
  have V := fB v1 v2 (by omega)
  have E := fB e1 e2 (by omega)
  have O := fB o1 o2 (by omega)
  have P := fB p1 p2 (by omega)
  have T := fB t1 t2 (by omega)
  have B := fB b1 b2 (by omega)
  have X := fB x1 x2 (by omega)
  have Y := fB y1 y2 (by omega)
  have Z := fB z1 z2 (by omega)
  have Q := fB q1 q2 (by omega)
  have hEP : (e = 0 ∨ p = 0) ∧ (e = 0 ∨ K = 9) ∧ (p = 0 ∨ K = 13) := by
    have a1 : mg9 K = false ∨ K = 9 := by unfold mg9; by_cases h : K = 9 <;> simp [h]
    have a2 : mgD K = false ∨ K = 13 := by unfold mgD; by_cases h : K = 13 <;> simp [h]
    rcases a1 with a1 | a1
    · have := e2 a1
      rcases a2 with a2 | a2
      · have := p2 a2; omega
      · omega
    · rcases a2 with a2 | a2
      · have := p2 a2; omega
      · omega
  have hbare : MsgV.Bare ⟨K, C, N, t, o, e + p, w, v, x, y, z, q, b == 1⟩ := by
    refine ⟨fun h => ⟨w2 h, v2 h⟩, fun h => o2 h, fun h => ?_, fun h => ⟨t2 h, by simp [b2 h]⟩, fun h => ⟨x2 h, y2 h, z2 h, q2 h⟩⟩
    simp only [mgE, decide_eq_false_iff_not, not_or] at h
    simp only
    omega
  have hR : (K = 13 → t ≠ 0 ∧ t ≠ 3) → MsgV.Right ⟨K, C, N, t, o, e + p, w, v, x, y, z, q, b == 1⟩ := fun hg =>
    ⟨k1, c1, l1, hbare, W, T, O, by simp only; omega, hg⟩
  refine ⟨n0, fun _ h => hR fun _ => h, fun h => hR fun h2 => absurd h2 h, ?_, ?_⟩
  · constructor <;> simp only [in64, in32] <;> omega
  · rw [k3, c3, l3, w3, v3, e3, o3, p3, t3, b3, x3, y3, z3, q3]
    have eE : encIf (mg9 K) (e + p) = encIf (mg9 K) e := by
      unfold encIf
      split
      · next h => simp only [mg9, decide_eq_true_eq] at h; rw [show e + p = e by omega]
      · rfl
    have eP : encIf (mgD K) (e + p) = encIf (mgD K) p := by
      unfold encIf
      split
      · next h => simp only [mgD, decide_eq_true_eq] at h; rw [show e + p = p by omega]
      · rfl
    have eB : encIf (mgS K) (hasN (b == 1)) = encIf (mgS K) b := by
      unfold encIf
      split
      · next h =>
        have hb01 : b = 0 ∨ b = 1 := by omega
        rcases hb01 with rfl | rfl <;> rfl
      · rfl
    simp only [encM, eE, eP, eB, List.append_assoc]
theorem rdF_encI {P r : List Nat} {n : Int} {on : Bool} {lo hi : Int} (h : in64 n) (h1 : on = true → lo ≤ n ∧ n ≤ hi) (h0 : on = false → n = 0) : rdF (P ++ (encIf on n ++ r)) (P.length, .nil) on lo hi = (n, (P ++ encIf on n).length, .nil) := rdF_enc h h1 h0
/-- A number that is told or not, by a letter of its own. -/
theorem rdF_encE {P r : List Nat} {n : Int} {on : Bool} {lo hi : Int} (h : in64 n) (h1 : on = true → lo ≤ n ∧ n ≤ hi) : rdF (P ++ (encIf on n ++ r)) (P.length, .nil) on lo hi = (if on then n else 0, (P ++ encIf on n).length, .nil) := by
  cases on with
  | true => exact rdF_enc (on := true) h h1 (fun h => by cases h)
  | false => simp [rdF, encIf]
theorem getM_enc {P r : List Nat} {m : MsgV} (hr : m.Right) (hf : m.fit) : getM (P ++ (encM m ++ r)) (P.length, .nil) = (m, (P ++ encM m).length, .nil) := by
  obtain ⟨K, C, N, t, o, ep, w, v, x, y, z, q, b⟩ := m
  have hb1 : (hasN b == 1) = b := by cases b <;> rfl
  have ha := hr.bare
  have hH : in64 (hasN b) := by cases b <;> simp [hasN, in64]
  unfold getM encM
  simp only [List.append_assoc]
  have e1 := rdF_encI (P := P) (r := encIf true C ++ (encIf true N ++ (encIf (mgW K) w ++ (encIf (mgW K) v ++ (encIf (mg9 K) ep ++ (encIf (mgM K) o ++ (encIf (mgD K) ep ++ (encIf (mgS K) t ++ (encIf (mgS K) (hasN b) ++ (encIf b x ++ (encIf b y ++ (encIf b z ++ (encIf b q ++ r))))))))))))) (n := K) (on := true) (lo := 1) (hi := 15) hf.kind (fun _ => hr.kind) (fun h => by cases h)
  rw [e1]
  simp only
  have e2 := rdF_encI (P := P ++ encIf true K) (r := encIf true N ++ (encIf (mgW K) w ++ (encIf (mgW K) v ++ (encIf (mg9 K) ep ++ (encIf (mgM K) o ++ (encIf (mgD K) ep ++ (encIf (mgS K) t ++ (encIf (mgS K) (hasN b) ++ (encIf b x ++ (encIf b y ++ (encIf b z ++ (encIf b q ++ r)))))))))))) (n := C) (on := true) (lo := 0) (hi := 63) hf.core (fun _ => hr.core) (fun h => by cases h)
  simp only [List.append_assoc] at e2
  rw [e2]
  simp only
  have e3 := rdF_encI (P := P ++ (encIf true K ++ encIf true C)) (r := encIf (mgW K) w ++ (encIf (mgW K) v ++ (encIf (mg9 K) ep ++ (encIf (mgM K) o ++ (encIf (mgD K) ep ++ (encIf (mgS K) t ++ (encIf (mgS K) (hasN b) ++ (encIf b x ++ (encIf b y ++ (encIf b z ++ (encIf b q ++ r))))))))))) (n := N) (on := true) (lo := 0) (hi := 31) hf.line (fun _ => hr.line) (fun h => by cases h)
  simp only [List.append_assoc] at e3
  rw [e3]
  simp only
  have e4 := rdF_encI (P := P ++ (encIf true K ++ (encIf true C ++ encIf true N))) (r := encIf (mgW K) v ++ (encIf (mg9 K) ep ++ (encIf (mgM K) o ++ (encIf (mgD K) ep ++ (encIf (mgS K) t ++ (encIf (mgS K) (hasN b) ++ (encIf b x ++ (encIf b y ++ (encIf b z ++ (encIf b q ++ r)))))))))) (n := w) (on := mgW K) (lo := 0) (hi := 3) hf.word (fun _ => hr.word) (fun h => (ha.word h).1)
  simp only [List.append_assoc] at e4
  rw [e4]
  simp only
  have e5 := rdF_encI (P := P ++ (encIf true K ++ (encIf true C ++ (encIf true N ++ encIf (mgW K) w)))) (r := encIf (mg9 K) ep ++ (encIf (mgM K) o ++ (encIf (mgD K) ep ++ (encIf (mgS K) t ++ (encIf (mgS K) (hasN b) ++ (encIf b x ++ (encIf b y ++ (encIf b z ++ (encIf b q ++ r))))))))) (n := v) (on := mgW K) (lo := 0) (hi := 4294967295) hf.val.big (fun _ => hf.val) (fun h => (ha.word h).2)
  simp only [List.append_assoc] at e5
  rw [e5]
  simp only
  have e6 := rdF_encE (P := P ++ (encIf true K ++ (encIf true C ++ (encIf true N ++ (encIf (mgW K) w ++ encIf (mgW K) v))))) (r := encIf (mgM K) o ++ (encIf (mgD K) ep ++ (encIf (mgS K) t ++ (encIf (mgS K) (hasN b) ++ (encIf b x ++ (encIf b y ++ (encIf b z ++ (encIf b q ++ r)))))))) (n := ep) (on := mg9 K) (lo := 0) (hi := 255) hf.epoch (fun _ => hr.epoch)
  simp only [List.append_assoc] at e6
  rw [e6]
  simp only
  have e7 := rdF_encI (P := P ++ (encIf true K ++ (encIf true C ++ (encIf true N ++ (encIf (mgW K) w ++ (encIf (mgW K) v ++ encIf (mg9 K) ep)))))) (r := encIf (mgD K) ep ++ (encIf (mgS K) t ++ (encIf (mgS K) (hasN b) ++ (encIf b x ++ (encIf b y ++ (encIf b z ++ (encIf b q ++ r))))))) (n := o) (on := mgM K) (lo := 0) (hi := 3) hf.mode (fun _ => hr.mode) (fun h => ha.mode h)
  simp only [List.append_assoc] at e7
  rw [e7]
  simp only
  have e8 := rdF_encE (P := P ++ (encIf true K ++ (encIf true C ++ (encIf true N ++ (encIf (mgW K) w ++ (encIf (mgW K) v ++ (encIf (mg9 K) ep ++ encIf (mgM K) o))))))) (r := encIf (mgS K) t ++ (encIf (mgS K) (hasN b) ++ (encIf b x ++ (encIf b y ++ (encIf b z ++ (encIf b q ++ r)))))) (n := ep) (on := mgD K) (lo := 0) (hi := 255) hf.epoch (fun _ => hr.epoch)
  simp only [List.append_assoc] at e8
  rw [e8]
  simp only
  have e9 := rdF_encI (P := P ++ (encIf true K ++ (encIf true C ++ (encIf true N ++ (encIf (mgW K) w ++ (encIf (mgW K) v ++ (encIf (mg9 K) ep ++ (encIf (mgM K) o ++ encIf (mgD K) ep)))))))) (r := encIf (mgS K) (hasN b) ++ (encIf b x ++ (encIf b y ++ (encIf b z ++ (encIf b q ++ r))))) (n := t) (on := mgS K) (lo := 0) (hi := 4) hf.state (fun _ => hr.state) (fun h => (ha.state h).1)
  simp only [List.append_assoc] at e9
  rw [e9]
  simp only
  have e10 := rdF_encI (P := P ++ (encIf true K ++ (encIf true C ++ (encIf true N ++ (encIf (mgW K) w ++ (encIf (mgW K) v ++ (encIf (mg9 K) ep ++ (encIf (mgM K) o ++ (encIf (mgD K) ep ++ encIf (mgS K) t))))))))) (r := encIf b x ++ (encIf b y ++ (encIf b z ++ (encIf b q ++ r)))) (n := hasN b) (on := mgS K) (lo := 0) (hi := 1) hH (fun _ => by cases b <;> simp [hasN]) (fun h => by have := (ha.state h).2; simp only at this; rw [this]; rfl)
  simp only [List.append_assoc] at e10
  rw [e10]
  simp only [hb1]
  have e11 := rdF_encI (P := P ++ (encIf true K ++ (encIf true C ++ (encIf true N ++ (encIf (mgW K) w ++ (encIf (mgW K) v ++ (encIf (mg9 K) ep ++ (encIf (mgM K) o ++ (encIf (mgD K) ep ++ (encIf (mgS K) t ++ encIf (mgS K) (hasN b))))))))))) (r := encIf b y ++ (encIf b z ++ (encIf b q ++ r))) (n := x) (on := b) (lo := 0) (hi := 4294967295) hf.d0.big (fun _ => hf.d0) (fun h => (ha.data h).1)
  simp only [List.append_assoc] at e11
  rw [e11]
  simp only
  have e12 := rdF_encI (P := P ++ (encIf true K ++ (encIf true C ++ (encIf true N ++ (encIf (mgW K) w ++ (encIf (mgW K) v ++ (encIf (mg9 K) ep ++ (encIf (mgM K) o ++ (encIf (mgD K) ep ++ (encIf (mgS K) t ++ (encIf (mgS K) (hasN b) ++ encIf b x))))))))))) (r := encIf b z ++ (encIf b q ++ r)) (n := y) (on := b) (lo := 0) (hi := 4294967295) hf.d1.big (fun _ => hf.d1) (fun h => (ha.data h).2.1)
  simp only [List.append_assoc] at e12
  rw [e12]
  simp only
  have e13 := rdF_encI (P := P ++ (encIf true K ++ (encIf true C ++ (encIf true N ++ (encIf (mgW K) w ++ (encIf (mgW K) v ++ (encIf (mg9 K) ep ++ (encIf (mgM K) o ++ (encIf (mgD K) ep ++ (encIf (mgS K) t ++ (encIf (mgS K) (hasN b) ++ (encIf b x ++ encIf b y)))))))))))) (r := encIf b q ++ r) (n := z) (on := b) (lo := 0) (hi := 4294967295) hf.d2.big (fun _ => hf.d2) (fun h => (ha.data h).2.2.1)
  simp only [List.append_assoc] at e13
  rw [e13]
  simp only
  have e14 := rdF_encI (P := P ++ (encIf true K ++ (encIf true C ++ (encIf true N ++ (encIf (mgW K) w ++ (encIf (mgW K) v ++ (encIf (mg9 K) ep ++ (encIf (mgM K) o ++ (encIf (mgD K) ep ++ (encIf (mgS K) t ++ (encIf (mgS K) (hasN b) ++ (encIf b x ++ (encIf b y ++ encIf b z))))))))))))) (r := r) (n := q) (on := b) (lo := 0) (hi := 4294967295) hf.d3.big (fun _ => hf.d3) (fun h => (ha.data h).2.2.2)
  simp only [List.append_assoc] at e14
  rw [e14]
  have hep : (if mg9 K = true then ep else 0) + (if mgD K = true then ep else 0) = ep := by
    have h0 := ha.epoch
    simp only [mgE, decide_eq_false_iff_not, not_or] at h0
    unfold mg9 mgD
    by_cases h9 : K = 9
    · subst h9; simp
    · by_cases h13 : K = 13
      · subst h13; simp
      · simp [h9, h13, h0 ⟨h9, h13⟩]
  simp only [hep]

end Go.Proofs.YtpljdbcifaeblaaDoor
