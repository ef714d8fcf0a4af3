/- The law of regions that draw their order (Lex), the class of worlds told for each number of operations of the chain that have come up: an operation that only yields a value is asked for only in the worlds up to the first operation of the chain that waits for it. -/
import Derived.Test.YtbefkkefglkleaaDoorLex
namespace Go.Proofs.YtbefkkefglkleaaDoor
open Go

section
variable {P : Program} {ops : Array Oper} {md : Region.Mode} {S : Nat → World → Prop} {Q : Exit → Act → World → Prop}

/-- Stands an operation in the chain? -/
def hvB (c : Cls) (ops : Array Oper) (j : Nat) : Bool := match ops[j]? with | some o => !liteB c o | none => false
/-- How many of the chain stand ahead of a place. -/
def hcnt (c : Cls) (ops : Array Oper) : Nat → Nat
  | 0 => 0
  | j + 1 => hcnt c ops j + if hvB c ops j then 1 else 0
theorem hcnt_mono (c : Cls) (ops : Array Oper) {i j : Nat} (h : i ≤ j) : hcnt c ops i ≤ hcnt c ops j := by
  induction j with
  | zero => obtain rfl : i = 0 := by omega
            exact Nat.le_refl _
  | succ j ih =>
    rcases Nat.lt_or_ge i (j + 1) with h1 | h1
    · have := ih (by omega)
      simp only [hcnt]
      omega
    · obtain rfl : i = j + 1 := by omega
      exact Nat.le_refl _
theorem hcnt_lt (c : Cls) (ops : Array Oper) {i j : Nat} (h : i < j) (hi : hvB c ops i = true) : hcnt c ops i + 1 ≤ hcnt c ops j := by
  have := hcnt_mono c ops (show i + 1 ≤ j from h)
  simp only [hcnt, hi, if_true] at this
  exact this
/-- Up to how many of the chain an operation may come up. -/
def hiOf (c : Cls) (md : Region.Mode) (ops : Array Oper) (i : Nat) : Nat := match (List.range ops.size).find? (fun r => hvB c ops r && reach md ops ops.size r i) with
  | some r => hcnt c ops r
  | none => hcnt c ops ops.size
def upS (S : Nat → World → Prop) (h : Nat) : World → Prop := fun w => ∃ m, m ≤ h ∧ S m w
theorem upS.mono {h h' : Nat} (hh : h ≤ h') {w : World} (x : upS S h w) : upS S h' w := ⟨x.choose, Nat.le_trans x.choose_spec.1 hh, x.choose_spec.2⟩

theorem YieldsL.less {S T : World → Prop} {o : Oper} {v : Value} {a : Act} (h : YieldsL P ops S o v a) (hT : ∀ w, T w → S w) : YieldsL P ops T o v a := by
  rcases h with ⟨hw, hv⟩ | h
  · exact .inl ⟨hw, fun w hw' => hv w (hT w hw')⟩
  · exact .inr h

/-- THE WALK over a list of the region's operations, in their order; so many of the chain have come up. -/
def lexN (c : Cls) (md : Region.Mode) (P : Program) (ops : Array Oper) (S : Nat → World → Prop) (Q : Exit → Act → World → Prop) : Nat → List Nat → Act → World → Prop
  | _, [], a, w => Q .normal a w
  | n, k :: L, a, w => ∃ o, ops[k]? = some o ∧
    if liteB c o = true then ∃ v, YieldsL P ops (upS S (hiOf c md ops k)) o v a ∧ lexN c md P ops S Q n L (a.put o.dst v) w
    else wpOp P ops (OnlyN Q) k (fun a' w' => S (n + 1) w' ∧ lexN c md P ops S Q (n + 1) L a' w') a w

def InvN (c : Cls) (ops : Array Oper) (n : Nat) (L : List Nat) : Prop := n ≤ hcnt c ops ops.size ∧ ∀ r ∈ L, hvB c ops r = true → n ≤ hcnt c ops r

theorem inv_hi {c : Cls} {n : Nat} {L : List Nat} (hi : InvN c ops n L) (hu : UpC md ops L) {i : Nat} (hiL : i ∈ L) : n ≤ hiOf c md ops i := by
  unfold hiOf
  split
  · rename_i r hr
    have h1 := List.find?_some hr
    simp only [Bool.and_eq_true] at h1
    exact hi.2 r (reach_mem hu _ r i h1.2 hiL) h1.1
  · exact hi.1
theorem upc_tail {c : Cls} (hc : Chain c md ops) {k : Nat} {L : List Nat} (hp : (k :: L).Pairwise (· < ·)) (hu : UpC md ops (k :: L)) : UpC md ops L := fun j x hw hx => by
  have hk := (List.pairwise_cons.1 hp).1 x hx
  have hd := hc.dir j x hw
  rcases List.mem_cons.1 (hu j x hw (List.mem_cons_of_mem _ hx)) with h | h
  · omega
  · exact h
theorem hv_of {c : Cls} {k : Nat} {o : Oper} (hk : ops[k]? = some o) (h : liteB c o = false) : hvB c ops k = true := by simp [hvB, hk, h]
theorem inv_next {c : Cls} {n k : Nat} {L : List Nat} {o : Oper} (hp : (k :: L).Pairwise (· < ·)) (hi : InvN c ops n (k :: L)) (hk : ops[k]? = some o) (h : liteB c o = false) : InvN c ops (n + 1) L := by
  have hv := hv_of hk h
  have hkn := hi.2 k (List.mem_cons_self ..) hv
  have hks := (Array.getElem?_eq_some_iff.1 hk).1
  refine ⟨?_, fun r hr hrv => ?_⟩
  · have := hcnt_lt c ops hks hv
    omega
  · have := hcnt_lt c ops ((List.pairwise_cons.1 hp).1 r hr) hv
    omega
theorem inv_tail {c : Cls} {n k : Nat} {L : List Nat} (hi : InvN c ops n (k :: L)) : InvN c ops n L := ⟨hi.1, fun r hr => hi.2 r (List.mem_cons_of_mem _ hr)⟩

theorem lexN_light {c : Cls} (hc : Chain c md ops) : ∀ (L : List Nat) (n : Nat) (a : Act) (w : World), S n w → InvN c ops n L → UpC md ops L → lexN c md P ops S Q n L a w → L.Pairwise (· < ·) → ∀ i ∈ L, ∀ oi, ops[i]? = some oi → liteB c oi = true → Rdy md ops L i →
    ∃ u, YieldsL P ops (upS S (hiOf c md ops i)) oi u a ∧ lexN c md P ops S Q n (L.erase i) (a.put oi.dst u) w
  | [], _, _, _, _, _, _, _, _, i, hi, _, _, _, _ => by cases hi
  | k :: L, n, a, w, hS, hI, hu, h, hp, i, hi, oi, hoi, hli, hr => by
    have hle := inv_hi hI hu hi
    obtain ⟨ok, hk, h⟩ := h
    by_cases hik : i = k
    · subst hik
      have e : ok = oi := Option.some.inj (hk.symm.trans hoi)
      subst e
      rw [if_pos hli] at h
      obtain ⟨v, hy, hX⟩ := h
      exact ⟨v, hy, by rw [List.erase_cons_head]; exact hX⟩
    · have hiL : i ∈ L := (List.mem_cons.1 hi).resolve_left hik
      have hp' := List.pairwise_cons.1 hp
      have hki : k < i := hp'.1 i hiL
      have hrL : Rdy md ops L i := fun x hx => hr x (List.mem_cons_of_mem _ hx)
      have hap := hc.apart k i ok oi hk hoi hki (hr k (List.mem_cons_self ..))
      obtain ⟨h1, h2, h3⟩ := Oper.apart_spec hap
      have hsi := fun cs b => hc.sel i oi cs b hoi
      have hsk := fun cs b => hc.sel k ok cs b hk
      have her : (k :: L).erase i = k :: L.erase i := List.erase_cons_tail (by simpa using fun e : k = i => hik e.symm)
      have huL := upc_tail hc hp hu
      rw [her]
      by_cases hlk : liteB c ok = true
      · rw [if_pos hlk] at h
        obtain ⟨v, hy, hX⟩ := h
        obtain ⟨u, hyu, hX2⟩ := lexN_light hc L n _ w hS (inv_tail hI) huL hX hp'.2 i hiL oi hoi hli hrL
        refine ⟨u, (yieldsL_put hsi h1).1 hyu, ok, hk, ?_⟩
        rw [if_pos hlk]
        exact ⟨v, (yieldsL_put hsk h3).2 hy, by rw [← Act.put_comm a v u h2]; exact hX2⟩
      · rw [if_neg hlk] at h
        have hI2 := inv_next hp hI hk (by simpa using hlk)
        have hm := wpOp_mono (K' := fun a' w' => ∃ u, YieldsL P ops (upS S (hiOf c md ops i)) oi u a' ∧ (S (n + 1) w' ∧ lexN c md P ops S Q (n + 1) (L.erase i) (a'.put oi.dst u) w')) (fun a' w' ⟨hS', hX⟩ =>
          let ⟨u, hyu, hX2⟩ := lexN_light hc L (n + 1) a' w' hS' hI2 huL hX hp'.2 i hiL oi hoi hli hrL
          ⟨u, hyu, hS', hX2⟩) h
        obtain ⟨u, hy, hw⟩ := wpOp_swap (S := upS S (hiOf c md ops i)) (K := fun a' w' => S (n + 1) w' ∧ lexN c md P ops S Q (n + 1) (L.erase i) a' w') hk hap hsi hsk ⟨n, hle, hS⟩ hm
        refine ⟨u, hy, ok, hk, ?_⟩
        rw [if_neg hlk]
        exact hw

theorem lexN_heavy {c : Cls} (hc : Chain c md ops) : ∀ (L : List Nat) (n : Nat) (a : Act) (w : World), lexN c md P ops S Q n L a w → L.Pairwise (· < ·) →
    ∀ i ∈ L, ∀ oi, ops[i]? = some oi → liteB c oi = false → Rdy md ops L i → (∀ k ∈ L, k < i → ∀ ok, ops[k]? = some ok → liteB c ok = true) →
    wpOp P ops (OnlyN Q) i (fun a' w' => S (n + 1) w' ∧ lexN c md P ops S Q (n + 1) (L.erase i) a' w') a w
  | [], _, _, _, _, _, i, hi, _, _, _, _, _ => by cases hi
  | k :: L, n, a, w, h, hp, i, hi, oi, hoi, hli, hr, hall => by
    obtain ⟨ok, hk, h⟩ := h
    by_cases hik : i = k
    · subst hik
      have e : ok = oi := Option.some.inj (hk.symm.trans hoi)
      subst e
      rw [if_neg (by simp [hli])] at h
      rw [List.erase_cons_head]
      exact h
    · have hiL : i ∈ L := (List.mem_cons.1 hi).resolve_left hik
      have hp' := List.pairwise_cons.1 hp
      have hki : k < i := hp'.1 i hiL
      have hrL : Rdy md ops L i := fun x hx => hr x (List.mem_cons_of_mem _ hx)
      have hap := hc.apart k i ok oi hk hoi hki (hr k (List.mem_cons_self ..))
      have hsi := fun cs b => hc.sel i oi cs b hoi
      have hsk := fun cs b => hc.sel k ok cs b hk
      have her : (k :: L).erase i = k :: L.erase i := List.erase_cons_tail (by simpa using fun e : k = i => hik e.symm)
      rw [her]
      have hlk : liteB c ok = true := hall k (List.mem_cons_self ..) hki ok hk
      rw [if_pos hlk] at h
      obtain ⟨v, hy, hX⟩ := h
      have ih := lexN_heavy hc L n (a.put ok.dst v) w hX hp'.2 i hiL oi hoi hli hrL (fun k' hk' => hall k' (List.mem_cons_of_mem _ hk'))
      have h2 := wpOp_later hoi hap hsk hsi hy ih
      refine wpOp_mono (fun a' w' ⟨hy', hS', hX'⟩ => ⟨hS', ok, hk, ?_⟩) h2
      rw [if_pos hlk]
      exact ⟨v, hy', hX'⟩

theorem inv_erase_light {c : Cls} {n i : Nat} {L : List Nat} (hi : InvN c ops n L) : InvN c ops n (L.erase i) := ⟨hi.1, fun r hr => hi.2 r (List.mem_of_mem_erase hr)⟩
theorem inv_erase_heavy {c : Cls} {n i : Nat} {L : List Nat} {oi : Oper} (hnd : L.Nodup) (hI : InvN c ops n L) (hiL : i ∈ L) (hoi : ops[i]? = some oi) (hli : liteB c oi = false) (hall : ∀ k ∈ L, k < i → ∀ ok, ops[k]? = some ok → liteB c ok = true) : InvN c ops (n + 1) (L.erase i) := by
  have hv := hv_of hoi hli
  have hkn := hI.2 i hiL hv
  have hks := (Array.getElem?_eq_some_iff.1 hoi).1
  refine ⟨?_, fun r hr hrv => ?_⟩
  · have := hcnt_lt c ops hks hv
    omega
  · have hrL := List.mem_of_mem_erase hr
    have hri : r ≠ i := fun e => by subst e; exact List.Nodup.not_mem_erase hnd hr
    rcases Nat.lt_or_ge r i with h | h
    · exfalso
      unfold hvB at hrv
      split at hrv
      · rename_i o ho
        rw [hall r hrL h o ho] at hrv
        cases hrv
      · cases hrv
    · have := hcnt_lt c ops (show i < r by omega) hv
      omega

theorem wpAnyH_of_lexN {c : Cls} (hc : Chain c md ops) : ∀ (N : Nat) (L : List Nat) (n : Nat) (listed : Array Bool) (a : Act) (w : World), L.length = N → S n w → InvN c ops n L → lexN c md P ops S Q n L a w → L.Pairwise (· < ·) → UpC md ops L →
    (∀ j, j < ops.size → (listed.getD j true = false ↔ j ∈ L)) → (∀ j ∈ L, j < ops.size) → listed.size = ops.size → wpAnyH P md ops (OnlyN Q) (fun _ => True) N listed a w
  | 0, L, n, listed, a, w, hn, hS, hI, h, hp, hu, hl, hlt, hsz => by
    obtain rfl : L = [] := List.eq_nil_of_length_eq_zero hn
    refine ⟨?_, h⟩
    refine List.eq_nil_iff_forall_not_mem.2 fun j hj => ?_
    obtain ⟨h1, o, ho, _⟩ := mem_ready.1 hj
    have := (hl j (Array.getElem?_eq_some_iff.1 ho).1).1 h1
    cases this
  | N + 1, L, n, listed, a, w, hn, hS, hI, h, hp, hu, hl, hlt, hsz => by
    have hready : ∀ i, i ∈ Region.ready md ops listed ↔ i ∈ L ∧ Rdy md ops L i := by
      intro i
      rw [mem_ready]
      constructor
      · rintro ⟨h1, o, ho, hall⟩
        have hi := (Array.getElem?_eq_some_iff.1 ho).1
        refine ⟨(hl i hi).1 h1, fun k hk => ?_⟩
        cases hw : waits md ops i k with
        | false => rfl
        | true =>
          exfalso
          unfold waits at hw
          rw [ho] at hw
          obtain ⟨e, he, hb⟩ := Array.any_eq_true'.1 hw
          simp only [Bool.and_eq_true, beq_iff_eq] at hb
          have h2 := hall e he hb.1
          rw [hb.2] at h2
          have h3 := (hl k (hlt k hk)).2 hk
          have hks : k < listed.size := by rw [hsz]; exact hlt k hk
          simp [hks] at h2 h3
          rw [h2] at h3
          cases h3
      · rintro ⟨hi, hr⟩
        have hilt := hlt i hi
        refine ⟨(hl i hilt).2 hi, ops[i], by simp [hilt], fun e he hb => ?_⟩
        have hne : e.on ∉ L := fun hm => by
          have := waits_of (ops := ops) (md := md) (j := i) (oj := ops[i]) (by simp [hilt]) he hb rfl
          rw [hr _ hm] at this
          cases this
        rcases Nat.lt_or_ge e.on ops.size with h' | h'
        · have h4 : ¬ listed.getD e.on true = false := fun hh => hne ((hl _ h').1 hh)
          have hks : e.on < listed.size := by rw [hsz]; exact h'
          simp [hks] at h4 ⊢
          exact h4
        · exfalso
          have := hc.dir i e.on (waits_of (ops := ops) (md := md) (j := i) (oj := ops[i]) (by simp [hilt]) he hb rfl)
          omega
    refine ⟨fun h0 => ?_, fun i hi => ?_⟩
    · exfalso
      match L, hn, hp with
      | k :: L', _, hp =>
        have : k ∈ Region.ready md ops listed := (hready k).2 ⟨List.mem_cons_self .., fun x hx => by
          cases hw : waits md ops k x with
          | false => rfl
          | true =>
            exfalso
            have hd := hc.dir k x hw
            rcases List.mem_cons.1 hx with rfl | hx
            · omega
            · have := (List.pairwise_cons.1 hp).1 x hx; omega⟩
        rw [h0] at this
        cases this
    · obtain ⟨hiL, hr⟩ := (hready i).1 hi
      have hilt := hlt i hiL
      obtain ⟨oi, hoi⟩ : ∃ oi, ops[i]? = some oi := ⟨ops[i], by simp [hilt]⟩
      have hlen : (L.erase i).length = N := by rw [List.length_erase_of_mem hiL, hn]; rfl
      have hnd : L.Nodup := hp.imp (fun h => Nat.ne_of_lt h)
      have hp2 : (L.erase i).Pairwise (· < ·) := hp.sublist List.erase_sublist
      have hu2 : UpC md ops (L.erase i) := fun j x hw hx => by
        have hxL := List.mem_of_mem_erase hx
        have hjL := hu j x hw hxL
        have hji : j ≠ i := fun e => by subst e; rw [hr x hxL] at hw; cases hw
        exact (List.mem_erase_of_ne hji).2 hjL
      have hl2 : ∀ j, j < ops.size → ((listed.setIfInBounds i true).getD j true = false ↔ j ∈ L.erase i) := fun j hj => by
        by_cases hji : i = j
        · subst hji
          have : (listed.setIfInBounds i true).getD i true = true := by
            rcases Nat.lt_or_ge i listed.size with h' | h' <;> simp [h']
          rw [this]
          simp [List.Nodup.not_mem_erase hnd]
        · rw [getD_set_ne true hji, hl j hj, List.mem_erase_of_ne (fun e => hji e.symm)]
      have hlt2 : ∀ j ∈ L.erase i, j < ops.size := fun j hj => hlt j (List.mem_of_mem_erase hj)
      have hrec := fun n' a' w' (hS' : S n' w') hI' hX => wpAnyH_of_lexN hc N (L.erase i) n' (listed.setIfInBounds i true) a' w' hlen hS' hI' hX hp2 hu2 hl2 hlt2 (by simpa using hsz)
      cases hli : liteB c oi with
      | true =>
        obtain ⟨u, hy, hX⟩ := lexN_light hc L n a w hS hI hu h hp i hiL oi hoi hli hr
        exact hy.wpOp hoi ⟨n, inv_hi hI hu hiL, hS⟩ ⟨trivial, hrec n _ _ hS (inv_erase_light hI) hX⟩
      | false =>
        have hall : ∀ k ∈ L, k < i → ∀ ok, ops[k]? = some ok → liteB c ok = true := fun k hk hlt' ok hok => by
          cases hlk : liteB c ok with
          | true => rfl
          | false => exact (reach_not hu (hc.chain k i ok oi hok hoi hlt' hlk hli) hk hr).elim
        have hX := lexN_heavy hc L n a w h hp i hiL oi hoi hli hr hall
        exact wpOp_mono (fun a' w' ⟨hS', hX'⟩ => ⟨trivial, hrec (n + 1) _ _ hS' (inv_erase_heavy hnd hI hiL hoi hli hall) hX'⟩) hX

/-- THE WALK over the operations themselves: the number of the operation, how many of the chain have come up. -/
def lexM (c : Cls) (md : Region.Mode) (P : Program) (ops : Array Oper) (S : Nat → World → Prop) (Q : Exit → Act → World → Prop) : Nat → Nat → List Oper → Act → World → Prop
  | _, _, [], a, w => Q .normal a w
  | k, n, o :: rest, a, w => if liteB c o = true then (if Region.wanted o (yielded ops a.tmps) then ∃ v, (∀ w', upS S (hiOf c md ops k) w' → LRun P o a w' v) ∧ lexM c md P ops S Q (k + 1) n rest (a.put o.dst v) w else lexM c md P ops S Q (k + 1) n rest (a.put o.dst undef) w)
    else if Region.wanted o (yielded ops a.tmps) then o.wp P a w (fun a' w' => S (n + 1) w' ∧ lexM c md P ops S Q (k + 1) (n + 1) rest a' w') (OnlyN Q) else S (n + 1) w ∧ lexM c md P ops S Q (k + 1) (n + 1) rest (a.put o.dst undef) w

theorem lexN_of_lexM {c : Cls} : ∀ (l : List Oper) (k n : Nat) (a : Act) (w : World), (∀ j, l[j]? = ops[k + j]?) → lexM c md P ops S Q k n l a w → lexN c md P ops S Q n (List.range' k l.length) a w
  | [], _, _, _, _, _, h => h
  | o :: l, k, n, a, w, hl, h => by
    have h0 : ops[k]? = some o := by simpa using (hl 0).symm
    have hl' : ∀ j, l[j]? = ops[k + 1 + j]? := fun j => by have := hl (j + 1); simpa [Nat.add_assoc, Nat.add_comm 1 j] using this
    simp only [List.length_cons, List.range'_succ]
    refine ⟨o, h0, ?_⟩
    simp only [lexM] at h
    by_cases hlt : liteB c o = true
    · rw [if_pos hlt] at h ⊢
      by_cases hw : Region.wanted o (yielded ops a.tmps) = true
      · rw [if_pos hw] at h
        obtain ⟨v, hv, hX⟩ := h
        exact ⟨v, .inl ⟨hw, hv⟩, lexN_of_lexM l (k + 1) n _ _ hl' hX⟩
      · rw [if_neg hw] at h
        exact ⟨undef, .inr ⟨by simpa using hw, rfl⟩, lexN_of_lexM l (k + 1) n _ _ hl' h⟩
    · rw [if_neg hlt] at h ⊢
      unfold wpOp
      simp only [h0]
      by_cases hw : Region.wanted o (yielded ops a.tmps) = true
      · rw [if_pos hw] at h ⊢
        exact .inl (Oper.wp_mono (fun a' w' ⟨hS', hX⟩ => ⟨hS', lexN_of_lexM l (k + 1) (n + 1) a' w' hl' hX⟩) h)
      · rw [if_neg hw] at h ⊢
        exact ⟨h.1, lexN_of_lexM l (k + 1) (n + 1) _ _ hl' h.2⟩

/-- **THE LAW**, the classes behind a name. -/
theorem wp_region_lexN (c : Cls) {id : Nat} {a : Act} {w : World} {l : List Oper} (S : Nat → World → Prop) (hm : P.follows .mixedOrders = true) (hB : lexChainB c .any l.toArray = true) (hS : S 0 w.drew)
    (h : ∀ S' : Nat → World → Prop, (∀ m (x : Wd (upS S' m)), upS S m x.w) → (∀ n w', S n w' → S' n w') → (∀ m, Nonempty (Wd (upS S' m))) → lexM c .any P l.toArray S' Q 0 0 l a w.drew) : (Code.region id l.toArray true).wp P Q a w := by
  refine Code.wp_mono OnlyN.imp (wp_region_any hm ?_)
  have hc := chain_of hB
  have hX := lexN_of_lexM (ops := l.toArray) l 0 0 a w.drew (fun j => by simp) (h S (fun m x => x.h) (fun _ _ hh => hh) (fun m => ⟨⟨w.drew, 0, Nat.zero_le _, hS⟩⟩))
  rw [← List.range_eq_range'] at hX
  have h1 := wpAnyH_of_lexN (md := .any) (P := P) (Q := Q) hc l.toArray.size (List.range l.length) 0 (Array.replicate l.toArray.size false) a w.drew (by simp) hS ⟨Nat.zero_le _, fun _ _ _ => Nat.zero_le _⟩ hX List.pairwise_lt_range
    (fun j i hw _ => List.mem_range.2 (by simpa using waits_lt hw)) (fun j hj => by
      have : j < l.length := by simpa using hj
      simp [this]) (fun j hj => by simpa using hj) (by simp)
  exact wpAny_of_held _ _ _ _ h1

/-- A row of operations that only yield values: none of them comes up behind more than h of the chain. -/
theorem lexM_light {c : Cls} {l : List Oper} {k n : Nat} (m h : Nat) (hl : (l.take m).all (fun o => lightB o && !heavyB c.hs o) = true) (hh : (List.range m).all (fun j => decide (hiOf c md ops (k + j) ≤ h)) = true) {a : Act} {w : World}
    (hq : wpQuiet P ops (InS (upS S h)) (fun a' => lexM c md P ops S Q (k + m) n (l.drop m) a' w) (l.take m) a) : lexM c md P ops S Q k n l a w := by
  induction m generalizing l a k with
  | zero => simpa [wpQuiet] using hq
  | succ m ih =>
    have hk0 : hiOf c md ops k ≤ h := by
      have := List.all_eq_true.1 hh 0 (List.mem_range.2 (by omega))
      simpa using this
    have hk1 : (List.range m).all (fun j => decide (hiOf c md ops (k + 1 + j) ≤ h)) = true := List.all_eq_true.2 fun j hj => by
      have := List.all_eq_true.1 hh (j + 1) (List.mem_range.2 (by have := List.mem_range.1 hj; omega))
      rwa [show k + (j + 1) = k + 1 + j by omega] at this
    cases l with
    | nil =>
      simp only [List.take_nil, List.drop_nil, wpQuiet] at hq
      exact hq
    | cons o l =>
      simp only [List.take_succ_cons, List.drop_succ_cons, List.all_cons, Bool.and_eq_true, wpQuiet] at hq hl
      rw [show k + (m + 1) = k + 1 + m by omega] at hq
      simp only [lexM]
      rw [if_pos (by have h1 := hl.1.1; have h2 := hl.1.2; simp only [liteB, h1, Bool.true_or, Bool.true_and]; simpa using h2)]
      by_cases hw : Region.wanted o (yielded ops a.tmps) = true
      · rw [if_pos hw] at hq ⊢
        obtain ⟨v, hv, hX⟩ := quiet_yields hl.1.1 hq
        exact ⟨v, fun w' hw' => .inl (hv w' (upS.mono hk0 hw')), ih hl.2 hk1 hX⟩
      · rw [if_neg hw] at hq ⊢
        exact ih hl.2 hk1 hq

/-- A call of a function that only computes. -/
theorem lexM_pure {c : Cls} {k n : Nat} {o : Oper} {rest : List Oper} {a : Act} {w : World} {f : FuncId} {args : Array Value} {v : Value} {xs : Array Operand} {tys : Array TypeId} {fn : Func} {cd : Code} (h' : Nat) (hh : decide (hiOf c md ops k ≤ h') = true)
    (hl : (pureB c.fs o && !heavyB c.hs o) = true) (hw : Region.wanted o (yielded ops a.tmps) = true) (ho : o.op = .call ⟨.value (.func f), xs, tys⟩) (hf : P.funcs[f]? = some fn) (hb : fn.body = some cd) (hn : (fn.name == "runtime.NumGoroutine") = false)
    (hc : ∀ x : Wd (upS S h'), Calls P f args x.w fun e w' => e = .returned v ∧ x.w = w') (ha : xs.map a.eval = args) (h : lexM c md P ops S Q (k + 1) n rest (a.put o.dst v) w) : lexM c md P ops S Q k n (o :: rest) a w := by
  simp only [lexM]
  rw [if_pos (by simp only [Bool.and_eq_true] at hl; simp only [liteB, hl.1, hl.2, Bool.or_true, Bool.true_and]), if_pos hw]
  exact ⟨v, fun w' hS => .inr ⟨f, args, by rw [run_callv ho hf hb hn, ha], (hc ⟨w', upS.mono (of_decide_eq_true hh) hS⟩).mono fun e w'' ⟨he, hw''⟩ => ⟨he, hw''.symm⟩⟩, h⟩

/-- What follows an operation of the chain. -/
def lexMQ (c : Cls) (md : Region.Mode) (P : Program) (ops : Array Oper) (S : Nat → World → Prop) (Q : Exit → Act → World → Prop) (k n : Nat) (rest : List Oper) : Exit → Act → World → Prop
  | .normal, a, w => S n w ∧ lexM c md P ops S Q k n rest a w
  | _, _, _ => False
theorem lexMQ_more {c : Cls} {k n : Nat} {rest : List Oper} {a : Act} {w : World} (hS : S n w) (h : lexM c md P ops S Q k n rest a w) : lexMQ c md P ops S Q k n rest .normal a w := ⟨hS, h⟩
theorem lexM_done {c : Cls} {k n : Nat} {a : Act} {w : World} (h : Q .normal a w) : lexM c md P ops S Q k n [] a w := h

/-- One operation of the chain, by the kit's walk. -/
theorem lexM_heavy {c : Cls} {k n : Nat} {o : Oper} {rest : List Oper} (hl : liteB c o = false) {a : Act} {w : World} (h : wpList P ops (lexMQ c md P ops S Q (k + 1) (n + 1) rest) [o] a w) : lexM c md P ops S Q k n (o :: rest) a w := by
  simp only [lexM]
  rw [if_neg (by simp [hl])]
  simp only [wpList] at h
  by_cases hw : Region.wanted o (yielded ops a.tmps) = true
  · rw [if_pos hw] at h ⊢
    rcases h with h | ⟨_, _, _, hh⟩
    · refine Oper.wp_mono (K := lexMQ c md P ops S Q (k + 1) (n + 1) rest .normal) (fun a w h => h) ?_
      unfold Oper.wp at h ⊢
      generalize (execOp a.eval o).run P w = r at h ⊢
      cases r with
      | ok n w' =>
        cases n <;> simp only [Oper.upon] at h ⊢ <;> first
          | exact h
          | exact h.mono (fun e w'' he => by
              cases e with
              | returned v => exact he
              | panicked c => exact he.elim
              | outgrown => exact absurd he (fun ⟨_, _, hh⟩ => hh))
      | halt x w' => cases x <;> simp only [Oper.upon] at h ⊢ <;> exact h
    · exact hh.elim
  · rw [if_neg hw] at h ⊢
    exact h

end

end Go.Proofs.YtbefkkefglkleaaDoor
