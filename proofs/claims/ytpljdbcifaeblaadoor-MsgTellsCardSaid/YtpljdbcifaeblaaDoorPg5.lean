/- prog.Parse. -/
import Derived.Test.YtpljdbcifaeblaaDoorPg4
namespace Go.Proofs.YtpljdbcifaeblaaDoor
open Go.RowKit Go.Extern.Stop Go.Stop Go.Extern

def paT : ByteArray := ⟨#[112, 114, 111, 103, 46, 80, 97, 114, 115, 101]⟩
def parL (W : Int) (L : List Nat) : List OpV := (getP W L (0, .nil)).1
def parE (W : Int) (L : List Nat) : ErrT := if (endE L (getP W L (0, .nil)).2.1 (getP W L (0, .nil)).2.2).isNil then .nil else .wrap paT 0 (endE L (getP W L (0, .nil)).2.1 (getP W L (0, .nil)).2.2)
/-- What Parse answers. -/
def PaP (A : Nat → Addr) (w : World) (W : Int) (L : List Nat) (ev : Ending) (w' : World) : Prop :=
  ∃ u, ev = .returned (.tuple #[u, (parE W L).val A]) ∧ (if (parE W L).isNil then winRow w' w.heap.size 29 4 u (parL W L).length (flatP (parL W L)) else u = .slice none 0 0) ∧ Below w.heap.size w w'
theorem endE_nil {L : List Nat} {at_ : Nat} {e : ErrT} (h : (endE L at_ e).isNil = true) : e = .nil ∧ L.length ≤ at_ := by
  unfold endE at h
  cases hn : e.isNil with
  | false => rw [hn] at h; simp only [Bool.false_eq_true, if_false] at h; rw [hn] at h; cases h
  | true =>
    rw [hn] at h
    simp only [if_true] at h
    refine ⟨(by cases e <;> first | rfl | cases hn), ?_⟩
    split at h
    · cases h
    · omega
theorem badE_all {W : Int} : ∀ (l : List OpV) (i : Nat), (∀ o ∈ l, rightB o W = true) → badE W l i = .nil
  | [], _, _ => rfl
  | o :: l, i, h => by
    rw [badE, if_pos (h o (List.mem_cons_self ..))]
    exact badE_all l (i + 1) fun x hx => h x (List.mem_cons_of_mem _ hx)
theorem putE_all {W : Int} {l : List OpV} (h : ∀ o ∈ l, rightB o W = true) (hl : l.length ≤ 64) : putE W l = .nil := by
  unfold putE
  rw [if_neg (by omega)]
  exact badE_all l 0 h
theorem getP_enc {W : Int} {l : List OpV} (r : List Nat) (h : ∀ o ∈ l, rightB o W = true ∧ o.fit) (hl : l.length ≤ 64) : getP W (encP l ++ r) (0, .nil) = (l, (encP l).length, .nil) := by
  have e := step_enc (P := []) (r := encOps l ++ r) (n := (l.length : Int)) (ok := inOk 0 64) (by omega) (by simp [inOk]; omega)
  simp only [List.nil_append, List.length_nil, Nat.zero_add] at e
  have e2 := getN_enc (W := W) l (enc (zig l.length)) r h
  unfold getP encP
  simp only [List.append_assoc]
  rw [e]
  simp only [Int.toNat_natCast]
  rw [e2]
theorem par_enc {W : Int} {l : List OpV} (h : ∀ o ∈ l, rightB o W = true ∧ o.fit) (hl : l.length ≤ 64) : parE W (encP l) = .nil ∧ parL W (encP l) = l := by
  have e := getP_enc [] h hl
  rw [List.append_nil] at e
  unfold parE parL
  rw [e]
  simp [endE, ErrT.isNil]
theorem par_tail {W : Int} {l : List OpV} {r : List Nat} (h : ∀ o ∈ l, rightB o W = true ∧ o.fit) (hl : l.length ≤ 64) (hr : 0 < r.length) : (parE W (encP l ++ r)).isNil = false := by
  have e := getP_enc r h hl
  have hE : endE (encP l ++ r) (encP l).length .nil = .wrap prT (encP l).length (.sent 4) := by
    unfold endE
    rw [show ErrT.nil.isNil = true from rfl, if_pos rfl, if_pos (by rw [List.length_append]; omega)]
  unfold parE
  rw [e]
  simp only [hE]
  rfl
theorem par_dec {W : Int} {L : List Nat} (hb : ∀ c ∈ L, c < 256) (hW : 1 ≤ W ∧ W ≤ 128) (h : (parE W L).isNil = true) : (∀ o ∈ parL W L, rightB o W = true ∧ o.fit) ∧ (parL W L).length ≤ 64 ∧ L = encP (parL W L) := by
  unfold parE at h
  split at h
  · next h0 =>
    obtain ⟨h1, h2⟩ := endE_nil h0
    generalize hg : getP W L (0, .nil) = g at h0 h1 h2
    obtain ⟨l, a, e⟩ := g
    simp only at h1 h2
    subst h1
    unfold parL
    rw [hg]
    unfold getP at hg
    generalize hs : stepR L 0 .nil (inOk 0 64) = s at hg
    obtain ⟨n, a1, e1⟩ := s
    simp only at hg
    obtain ⟨rfl, i1, i2, i3⟩ := getN_dec hb hW _ _ _ _ _ hg
    obtain ⟨_, j1, j2⟩ := step_dec hb hs
    simp only [inOk, Bool.and_eq_true, decide_eq_true_eq] at j1
    refine ⟨i2, by simp only; omega, ?_⟩
    rw [List.drop_zero] at j2
    simp only
    rw [List.drop_eq_nil_of_le h2, List.append_nil] at i3
    unfold encP
    rw [j2, i3, i1, Int.toNat_of_nonneg j1.1]
  · cases h
/-- Cut off, right operations' bytes are no program. -/
theorem par_cut {W : Int} {l : List OpV} {k : Nat} (hW : 1 ≤ W ∧ W ≤ 128) (h : ∀ o ∈ l, rightB o W = true ∧ o.fit) (hl : l.length ≤ 64) (hb : ∀ c ∈ encP l, c < 256) (hk : k < (encP l).length) : (parE W ((encP l).take k)).isNil = false := by
  cases hn : (parE W ((encP l).take k)).isNil with
  | false => rfl
  | true =>
    obtain ⟨h1, h2, h3⟩ := par_dec (fun c hc => hb c (List.mem_of_mem_take hc)) hW hn
    have h4 := par_tail (r := (encP l).drop k) h1 h2 (by rw [List.length_drop]; omega)
    rw [← h3, List.take_append_drop, (par_enc h hl).1] at h4
    cases h4
theorem encOp_byt (o : OpV) : ∀ c ∈ encOp o, c < 256 := by
  intro c hc
  unfold encOp at hc
  simp only [List.mem_append] at hc
  rcases hc with hc | hc | hc | hc
  · exact encB _ c hc
  · split at hc
    · exact encB _ c hc
    · cases hc
  · split at hc
    · exact encB _ c hc
    · cases hc
  · split at hc
    · exact encB _ c hc
    · cases hc
theorem encP_byt (l : List OpV) : ∀ c ∈ encP l, c < 256 := by
  have key : ∀ l : List OpV, ∀ c ∈ encOps l, c < 256 := by
    intro l
    induction l with
    | nil => intro c hc; cases hc
    | cons o l ih =>
      intro c hc
      rcases List.mem_append.1 hc with h | h
      · exact encOp_byt o c h
      · exact ih c h
  intro c hc
  rcases List.mem_append.1 hc with h | h
  · exact encB _ c h
  · exact key l c h
theorem encOp_len {o : OpV} (h : o.fit) : (encOp o).length ≤ 40 := by
  obtain ⟨⟨f1, f2⟩, f3, f4⟩ := h
  have a1 := enc_len10 (zig_lt f1)
  have a2 := enc_len10 (zig_lt f2)
  have a3 := enc_len10 (zig_lt (n := o.val) (by omega))
  have a4 := enc_len10 (zig_lt (n := o.old) (by omega))
  unfold encOp
  simp only [List.length_append]
  have i2 : (if nmA o.kind then enc (zig o.addr) else []).length ≤ 10 := by split <;> first | omega | simp
  have i3 : (if nmV o.kind then enc (zig o.val) else []).length ≤ 10 := by split <;> first | omega | simp
  have i4 : (if nmO o.kind then enc (zig o.old) else []).length ≤ 10 := by split <;> first | omega | simp
  omega
theorem encOps_len : ∀ (l : List OpV), (∀ o ∈ l, o.fit) → (encOps l).length ≤ 40 * l.length
  | [], _ => by simp [encOps]
  | o :: l, h => by
    have h1 := encOp_len (h o (List.mem_cons_self ..))
    have h2 := encOps_len l fun x hx => h x (List.mem_cons_of_mem _ hx)
    simp only [encOps, List.length_append, List.length_cons]
    omega
theorem encP_len {l : List OpV} (h : ∀ o ∈ l, o.fit) (hl : l.length ≤ 64) : (encP l).length ≤ 2600 := by
  have h1 := encOps_len l h
  have h2 := enc_len10 (zig_lt (n := (l.length : Int)) (by omega))
  unfold encP
  simp only [List.length_append]
  omega

set_option maxRecDepth 100000 in
set_option maxHeartbeats 4000000 in
theorem parse_c (A : Nat → Addr) (v0 : Value) (L : List Nat) (W : Int) (w : World) (hs : SentAt w A) (hv : slc w 1 v0 L.length (byteV L)) (hbig : L.length ≤ 140737488355320) (hbyt : ∀ c ∈ L, c < 256) (hW : 1 ≤ W ∧ W ≤ 128) :
    Calls Tryd.prog 16 #[v0, .int .i64 W] w (PaP A w W L) := by
  have HS := Lib.hid hs
  have HV := Lib.hid hv
  obtain ⟨_, ad0, cap0, rfl, _⟩ := hv
  clear hs
  go_enter Tryd.func16, Tryd.ntmps16
  go_wp2_with fail
  refine (read_c A _ L w HV.out hbig hbyt).mono ?_
  rintro ev w1 ⟨b, v, rfl, hr, hbl, _, hb1⟩
  have HR := Lib.hid hr
  have HB1 := Lib.hid hb1
  have HBL := Lib.hid hbl
  have HSM := Lib.hid (show ∀ w', Mods (onlyS b) w1 w' → SentAt w' A from fun w' hm => HS.out.below (hb1.trans (hm.below hb1.size fun k (hk : k = b) => by omega)))
  clear hr hb1 hbl
  go_wp2_with fail
  refine (get_c A b v L 0 .nil W w1 HSM.out HR.out hW).mono ?_
  rintro ev w2 ⟨u, rfl, hr2, hu, hm2⟩
  have HR2 := Lib.hid hr2
  have HU := Lib.hid hu
  have HM2 := Lib.hid hm2
  have HB2 := Lib.hid (HB1.out.trans (hm2.below HB1.out.size fun k (hk : k = b) => by have := HBL.out; omega))
  clear hr2 hm2 hu
  have HPE := Lib.hid (show parE W L = if (endE L (getP W L (0, .nil)).2.1 (getP W L (0, .nil)).2.2).isNil then .nil else .wrap paT 0 (endE L (getP W L (0, .nil)).2.1 (getP W L (0, .nil)).2.2) from rfl)
  have HPL := Lib.hid (show parL W L = (getP W L (0, .nil)).1 from rfl)
  generalize getP W L (0, .nil) = g at *
  obtain ⟨l, a, e⟩ := g
  simp only at HR2 HU HPE HPL ⊢
  have HKE := Lib.hid (fun h => endE_nil (L := L) (at_ := a) (e := e) h)
  generalize hE : endE L a e = E at *
  have HEE := Lib.hid hE
  clear hE
  go_wp2_with fail
  refine (rend_c A b v L a e w2 (HSM.out _ (by exact HM2.out)) HR2.out).mono ?_
  rintro ev w3 ⟨rfl, hr3, hm3⟩
  rw [HEE.out]
  have HB3 := Lib.hid (HB2.out.trans (hm3.below HB2.out.size fun k (hk : k = b) => by have := HBL.out; omega))
  have HM3 := Lib.hid hm3
  clear hr3 hm3
  cases hn : E.isNil with
  | true =>
    have HKN := Lib.hid (HKE.out hn)
    obtain rfl : E = .nil := by cases E <;> first | rfl | cases hn
    clear hn
    have hu : winRow w2 w1.heap.size 29 4 u l.length (flatP l) := by
      have := HU.out
      rw [HKN.out.1] at this
      exact this
    have hu3 : winRow w3 w1.heap.size 29 4 u l.length (flatP l) := hu.keep fun q hq => HM3.out.block q (hu.lt q hq).2 fun (hk : q = b) => by have := (hu.lt q hq).1; have := HR.out.lt; omega
    have HU3 := Lib.hid (hu3.base2 HB1.out.size)
    clear hu hu3 HU
    rw [show ErrT.nil.val A = .nilIface from rfl]
    go_wp2_with fail
    go_ret2
    unfold PaP
    rw [HPE.out, HPL.out]
    exact ⟨_, rfl, HU3.out, HB3.out⟩
  | false =>
    obtain ⟨t2, u2, hev⟩ := E.val_iface A hn
    have hne := fun w => run_neq_iface_nil (P := Tryd.prog) (w := w) 24 (by kernel_rfl) t2 u2
    have HN := Lib.hid hn
    have HEV := Lib.hid hev
    rw [hev]
    clear hn hev
    go_wp2_with fail
    rw [← HEV.out]
    refine (wrap_c A paT 0 E w3).mono ?_
    rintro e w' ⟨rfl, rfl⟩
    rw [show wrapE paT 0 E = .wrap paT 0 E by unfold wrapE; rw [HN.out]; rfl]
    go_wp2_with fail
    go_ret2
    unfold PaP
    rw [show parE W L = .wrap paT 0 E by rw [HPE.out, HN.out]; rfl]
    exact ⟨_, rfl, rfl, HB3.out⟩

end Go.Proofs.YtpljdbcifaeblaaDoor
