/- The law of regions that draw their order (Lex), where two neighbours of the chain may come in either order: both are walked. -/
import Derived.Test.YtpljdbcifaeblaaDoorLex
namespace Go.Proofs.YtpljdbcifaeblaaDoor
open Go

section
variable {P : Program} {ops : Array Oper} {md : Region.Mode} {S : World → Prop}

/-- Is this pair of operations (told by the slots that they write) free? -/
def pairB (ps : List (Nat × Nat)) (o m : Oper) : Bool := match o.dst, m.dst with
  | some d, some e => ps.contains (d, e)
  | _, _ => false
def freeB (ps : List (Nat × Nat)) (ops : Array Oper) (k m : Nat) : Bool := m == k + 1 && (match ops[k]?, ops[m]? with
  | some o, some n => pairB ps o n
  | _, _ => false)
theorem freeB_succ {ps : List (Nat × Nat)} {k m : Nat} (h : freeB ps ops k m = true) : m = k + 1 := by
  unfold freeB at h
  simp only [Bool.and_eq_true, beq_iff_eq] at h
  exact h.1

def lexChain2B (fs : Cls) (ps : List (Nat × Nat)) (md : Region.Mode) (ops : Array Oper) : Bool :=
  Region.noSelect ops && ((List.range ops.size).all fun k => (match ops[k]? with | some o => o.after.all fun e => !Region.binds md e || decide (e.on < k) | none => false)) && ((List.range ops.size).all fun k => (List.range ops.size).all fun i =>
    (!decide (k < i) || ((waits md ops i k || (match ops[k]?, ops[i]? with | some x, some y => x.apart ops y | _, _ => false)) &&
      (match ops[k]?, ops[i]? with | some x, some y => liteB fs x || liteB fs y || reach md ops ops.size i k || freeB ps ops k i | _, _ => false))))
structure Chain2 (fs : Cls) (ps : List (Nat × Nat)) (md : Region.Mode) (ops : Array Oper) : Prop where
  sel : ∀ (j : Nat) (o : Oper) cs b, ops[j]? = some o → o.op ≠ .select cs b
  dir : ∀ j i, waits md ops j i = true → i < j
  apart : ∀ k i ok oi, ops[k]? = some ok → ops[i]? = some oi → k < i → waits md ops i k = false → ok.apart ops oi = true
  chain : ∀ k i ok oi, ops[k]? = some ok → ops[i]? = some oi → k < i → liteB fs ok = false → liteB fs oi = false → reach md ops ops.size i k = true ∨ freeB ps ops k i = true
theorem chain2_of {fs : Cls} {ps : List (Nat × Nat)} (h : lexChain2B fs ps md ops = true) : Chain2 fs ps md ops := by
  simp only [lexChain2B, Bool.and_eq_true, List.all_eq_true, List.mem_range] at h
  obtain ⟨⟨hs, hd⟩, h⟩ := h
  refine ⟨fun j o cs b ho => Region.noSelect_spec hs j o cs b ho, fun j i hw => ?_, fun k i ok oi hk hi hlt hw => ?_, fun k i ok oi hk hi hlt h1 h2 => ?_⟩
  · have h1 := hd j (waits_lt hw)
    unfold waits at hw
    split at hw
    · rename_i oj hj
      rw [hj] at h1
      obtain ⟨e, he, hb⟩ := Array.any_eq_true'.1 hw
      simp only [Bool.and_eq_true, beq_iff_eq] at hb
      have h2 := Array.all_eq_true_iff_forall_mem.1 h1 e he
      rw [hb.1, hb.2] at h2
      simpa using h2
    · cases hw
  · have := h k (Array.getElem?_eq_some_iff.1 hk).1 i (Array.getElem?_eq_some_iff.1 hi).1
    simp [hlt, hw, hk, hi] at this
    exact this.1
  · have := h k (Array.getElem?_eq_some_iff.1 hk).1 i (Array.getElem?_eq_some_iff.1 hi).1
    simp [hlt, hk, hi, h1, h2] at this
    exact this.2

/-- THE WALK over a list of the region's operations: where two neighbours are free, the second may come first. -/
def lexT (fs : Cls) (ps : List (Nat × Nat)) (P : Program) (ops : Array Oper) (S : World → Prop) (Q : Exit → Act → World → Prop) : Nat → List Nat → Act → World → Prop
  | 0, _, a, w => Q .normal a w
  | _ + 1, [], a, w => Q .normal a w
  | n + 1, k :: L, a, w => ∃ o, ops[k]? = some o ∧
    if liteB fs o = true then ∃ v, YieldsL P ops S o v a ∧ lexT fs ps P ops S Q n L (a.put o.dst v) w
    else wpOp P ops (OnlyN Q) k (fun a' w' => S w' ∧ lexT fs ps P ops S Q n L a' w') a w ∧
      ∀ m L', L = m :: L' → freeB ps ops k m = true → wpOp P ops (OnlyN Q) m (fun a' w' => S w' ∧ lexT fs ps P ops S Q n (k :: L') a' w') a w

theorem head_succ {k : Nat} {L : List Nat} (hp : (k :: L).Pairwise (· < ·)) (h : k + 1 ∈ L) : ∃ L', L = (k + 1) :: L' := by
  have hp' := List.pairwise_cons.1 hp
  cases L with
  | nil => cases h
  | cons x L =>
    have hx := hp'.1 x (List.mem_cons_self ..)
    rcases List.mem_cons.1 h with h | h
    · exact ⟨L, by rw [h]⟩
    · have := (List.pairwise_cons.1 hp'.2).1 _ h
      omega

variable {Q : Exit → Act → World → Prop}

theorem lexT_light {fs : Cls} {ps : List (Nat × Nat)} (hc : Chain2 fs ps md ops) : ∀ (n : Nat) (L : List Nat) (a : Act) (w : World), L.length = n + 1 → S w → lexT fs ps P ops S Q (n + 1) L a w → L.Pairwise (· < ·) → ∀ i ∈ L, ∀ oi, ops[i]? = some oi → liteB fs oi = true → Rdy md ops L i →
    ∃ u, YieldsL P ops S oi u a ∧ lexT fs ps P ops S Q n (L.erase i) (a.put oi.dst u) w
  | _, [], _, _, _, _, _, _, i, hi, _, _, _, _ => by cases hi
  | n, k :: L, a, w, hn, hS, h, hp, i, hi, oi, hoi, hli, hr => by
    obtain ⟨ok, hk, h⟩ := h
    by_cases hik : i = k
    · subst hik
      have e : ok = oi := Option.some.inj (hk.symm.trans hoi)
      subst e
      rw [if_pos hli] at h
      obtain ⟨v, hy, hX⟩ := h
      exact ⟨v, hy, by rw [List.erase_cons_head]; exact hX⟩
    · have hiL : i ∈ L := (List.mem_cons.1 hi).resolve_left hik
      have hp' := List.pairwise_cons.1 hp
      have hki : k < i := hp'.1 i hiL
      have hrL : Rdy md ops L i := fun x hx => hr x (List.mem_cons_of_mem _ hx)
      have hap := hc.apart k i ok oi hk hoi hki (hr k (List.mem_cons_self ..))
      obtain ⟨h1, h2, h3⟩ := Oper.apart_spec hap
      have hsi := fun cs b => hc.sel i oi cs b hoi
      have hsk := fun cs b => hc.sel k ok cs b hk
      have her : (k :: L).erase i = k :: L.erase i := List.erase_cons_tail (by simpa using fun e : k = i => hik e.symm)
      rw [her]
      obtain ⟨n', rfl⟩ : ∃ n', n = n' + 1 := ⟨n - 1, by have := List.length_pos_of_mem hiL; simp only [List.length_cons] at hn; omega⟩
      have hnL : L.length = n' + 1 := by simpa using hn
      by_cases hlk : liteB fs ok = true
      · rw [if_pos hlk] at h
        obtain ⟨v, hy, hX⟩ := h
        obtain ⟨u, hyu, hX2⟩ := lexT_light hc n' L _ w hnL hS hX hp'.2 i hiL oi hoi hli hrL
        refine ⟨u, (yieldsL_put hsi h1).1 hyu, ok, hk, ?_⟩
        rw [if_pos hlk]
        exact ⟨v, (yieldsL_put hsk h3).2 hy, by rw [← Act.put_comm a v u h2]; exact hX2⟩
      · rw [if_neg hlk] at h
        obtain ⟨hA, hB⟩ := h
        have hm := wpOp_mono (K' := fun a' w' => ∃ u, YieldsL P ops S oi u a' ∧ (S w' ∧ lexT fs ps P ops S Q n' (L.erase i) (a'.put oi.dst u) w')) (fun a' w' ⟨hS', hX⟩ =>
          let ⟨u, hyu, hX2⟩ := lexT_light hc n' L a' w' hnL hS' hX hp'.2 i hiL oi hoi hli hrL
          ⟨u, hyu, hS', hX2⟩) hA
        obtain ⟨u, hy, hw⟩ := wpOp_swap (K := fun a' w' => S w' ∧ lexT fs ps P ops S Q n' (L.erase i) a' w') hk hap hsi hsk hS hm
        refine ⟨u, hy, ok, hk, ?_⟩
        rw [if_neg hlk]
        refine ⟨hw, fun m L' hL' hfr => ?_⟩
        have hmk := freeB_succ hfr
        have hmL : m ∈ L := List.mem_of_mem_erase (by rw [hL']; exact List.mem_cons_self ..)
        obtain ⟨L1, hL1⟩ := head_succ hp (hmk ▸ hmL)
        rw [← hmk] at hL1
        subst hL1
        have him : i ≠ m := by
          intro e
          subst e
          rw [List.erase_cons_head] at hL'
          have := (List.pairwise_cons.1 hp'.2).1 i (by rw [hL']; exact List.mem_cons_self ..)
          omega
        rw [List.erase_cons_tail (by simpa using fun e : m = i => him e.symm)] at hL'
        obtain rfl := (List.cons.inj hL').2
        have hiL1 : i ∈ L1 := (List.mem_cons.1 hiL).resolve_left him
        have hmi : m < i := (List.pairwise_cons.1 hp'.2).1 i hiL1
        have hnk : (k :: L1).length = n' + 1 := by simpa using hnL
        have hpk : (k :: L1).Pairwise (· < ·) := hp.sublist (List.Sublist.cons_cons _ (List.sublist_cons_self ..))
        have hrk : Rdy md ops (k :: L1) i := fun x hx => hr x (by rcases List.mem_cons.1 hx with h | h <;> simp [h])
        obtain ⟨om, hom⟩ : ∃ om, ops[m]? = some om := by
          have := hfr
          unfold freeB at this
          cases ho : ops[m]? with
          | some om => exact ⟨om, rfl⟩
          | none => rw [ho, hk] at this; simp at this
        have hapm := hc.apart m i om oi hom hoi hmi (hr m (by simp))
        have hm2 := wpOp_mono (K' := fun a' w' => ∃ u, YieldsL P ops S oi u a' ∧ (S w' ∧ lexT fs ps P ops S Q n' (k :: L1.erase i) (a'.put oi.dst u) w')) (fun a' w' ⟨hS', hX⟩ =>
          let ⟨u, hyu, hX2⟩ := lexT_light hc n' (k :: L1) a' w' hnk hS' hX hpk i (by simp [hiL1]) oi hoi hli hrk
          ⟨u, hyu, hS', by rw [List.erase_cons_tail (by simpa using fun e : k = i => hik e.symm)] at hX2; exact hX2⟩) (hB m L1 rfl hfr)
        obtain ⟨u', hy', hw'⟩ := wpOp_swap (K := fun a' w' => S w' ∧ lexT fs ps P ops S Q n' (k :: L1.erase i) a' w') hom hapm hsi (fun cs b => hc.sel m om cs b hom) hS hm2
        have : u' = u := yieldsL_unique hS hy' hy
        subst this
        exact hw'

theorem lexT_heavy {fs : Cls} {ps : List (Nat × Nat)} (hc : Chain2 fs ps md ops) : ∀ (n : Nat) (L : List Nat) (a : Act) (w : World), L.length = n + 1 → S w → lexT fs ps P ops S Q (n + 1) L a w → L.Pairwise (· < ·) →
    ∀ i ∈ L, ∀ oi, ops[i]? = some oi → liteB fs oi = false → Rdy md ops L i → (∀ k ∈ L, k < i → ∀ ok, ops[k]? = some ok → liteB fs ok = true ∨ freeB ps ops k i = true) →
    wpOp P ops (OnlyN Q) i (fun a' w' => S w' ∧ lexT fs ps P ops S Q n (L.erase i) a' w') a w
  | _, [], _, _, _, _, _, _, i, hi, _, _, _, _, _ => by cases hi
  | n, k :: L, a, w, hn, hS, h, hp, i, hi, oi, hoi, hli, hr, hall => by
    obtain ⟨ok, hk, h⟩ := h
    by_cases hik : i = k
    · subst hik
      have e : ok = oi := Option.some.inj (hk.symm.trans hoi)
      subst e
      rw [if_neg (by simp [hli])] at h
      rw [List.erase_cons_head]
      exact h.1
    · have hiL : i ∈ L := (List.mem_cons.1 hi).resolve_left hik
      have hp' := List.pairwise_cons.1 hp
      have hki : k < i := hp'.1 i hiL
      have hrL : Rdy md ops L i := fun x hx => hr x (List.mem_cons_of_mem _ hx)
      have hap := hc.apart k i ok oi hk hoi hki (hr k (List.mem_cons_self ..))
      have hsi := fun cs b => hc.sel i oi cs b hoi
      have hsk := fun cs b => hc.sel k ok cs b hk
      have her : (k :: L).erase i = k :: L.erase i := List.erase_cons_tail (by simpa using fun e : k = i => hik e.symm)
      rw [her]
      obtain ⟨n', rfl⟩ : ∃ n', n = n' + 1 := ⟨n - 1, by have := List.length_pos_of_mem hiL; simp only [List.length_cons] at hn; omega⟩
      have hnL : L.length = n' + 1 := by simpa using hn
      by_cases hlk : liteB fs ok = true
      · rw [if_pos hlk] at h
        obtain ⟨v, hy, hX⟩ := h
        have ih := lexT_heavy hc n' L (a.put ok.dst v) w hnL hS hX hp'.2 i hiL oi hoi hli hrL (fun k' hk' => hall k' (List.mem_cons_of_mem _ hk'))
        have h2 := wpOp_later hoi hap hsk hsi hy ih
        refine wpOp_mono (fun a' w' ⟨hy', hS', hX'⟩ => ⟨hS', ok, hk, ?_⟩) h2
        rw [if_pos hlk]
        exact ⟨v, hy', hX'⟩
      · rw [if_neg hlk] at h
        have hfr := (hall k (List.mem_cons_self ..) hki ok hk).resolve_left hlk
        have hmk := freeB_succ hfr
        obtain ⟨L1, hL1⟩ := head_succ hp (hmk ▸ hiL)
        rw [← hmk] at hL1
        subst hL1
        rw [List.erase_cons_head]
        exact h.2 i L1 rfl hfr

theorem wpAnyH_of_lexT {fs : Cls} {ps : List (Nat × Nat)} (hc : Chain2 fs ps md ops) : ∀ (n : Nat) (L : List Nat) (listed : Array Bool) (a : Act) (w : World), L.length = n → S w → lexT fs ps P ops S Q n L a w → L.Pairwise (· < ·) → UpC md ops L →
    (∀ j, j < ops.size → (listed.getD j true = false ↔ j ∈ L)) → (∀ j ∈ L, j < ops.size) → listed.size = ops.size → wpAnyH P md ops (OnlyN Q) S n listed a w
  | 0, L, listed, a, w, hn, hS, h, hp, hu, hl, hlt, hsz => by
    obtain rfl : L = [] := List.eq_nil_of_length_eq_zero hn
    refine ⟨?_, h⟩
    refine List.eq_nil_iff_forall_not_mem.2 fun j hj => ?_
    obtain ⟨h1, o, ho, _⟩ := mem_ready.1 hj
    have := (hl j (Array.getElem?_eq_some_iff.1 ho).1).1 h1
    cases this
  | n + 1, L, listed, a, w, hn, hS, h, hp, hu, hl, hlt, hsz => by
    have hready : ∀ i, i ∈ Region.ready md ops listed ↔ i ∈ L ∧ Rdy md ops L i := by
      intro i
      rw [mem_ready]
      constructor
      · rintro ⟨h1, o, ho, hall⟩
        have hi := (Array.getElem?_eq_some_iff.1 ho).1
        refine ⟨(hl i hi).1 h1, fun k hk => ?_⟩
        cases hw : waits md ops i k with
        | false => rfl
        | true =>
          exfalso
          unfold waits at hw
          rw [ho] at hw
          obtain ⟨e, he, hb⟩ := Array.any_eq_true'.1 hw
          simp only [Bool.and_eq_true, beq_iff_eq] at hb
          have h2 := hall e he hb.1
          rw [hb.2] at h2
          have h3 := (hl k (hlt k hk)).2 hk
          have hks : k < listed.size := by rw [hsz]; exact hlt k hk
          simp [hks] at h2 h3
          rw [h2] at h3
          cases h3
      · rintro ⟨hi, hr⟩
        have hilt := hlt i hi
        refine ⟨(hl i hilt).2 hi, ops[i], by simp [hilt], fun e he hb => ?_⟩
        have hne : e.on ∉ L := fun hm => by
          have := waits_of (ops := ops) (md := md) (j := i) (oj := ops[i]) (by simp [hilt]) he hb rfl
          rw [hr _ hm] at this
          cases this
        rcases Nat.lt_or_ge e.on ops.size with h' | h'
        · have h4 : ¬ listed.getD e.on true = false := fun hh => hne ((hl _ h').1 hh)
          have hks : e.on < listed.size := by rw [hsz]; exact h'
          simp [hks] at h4 ⊢
          exact h4
        · exfalso
          have := hc.dir i e.on (waits_of (ops := ops) (md := md) (j := i) (oj := ops[i]) (by simp [hilt]) he hb rfl)
          omega
    refine ⟨fun h0 => ?_, fun i hi => ?_⟩
    · exfalso
      match L, hn, hp with
      | k :: L', _, hp =>
        have : k ∈ Region.ready md ops listed := (hready k).2 ⟨List.mem_cons_self .., fun x hx => by
          cases hw : waits md ops k x with
          | false => rfl
          | true =>
            exfalso
            have hd := hc.dir k x hw
            rcases List.mem_cons.1 hx with rfl | hx
            · omega
            · have := (List.pairwise_cons.1 hp).1 x hx; omega⟩
        rw [h0] at this
        cases this
    · obtain ⟨hiL, hr⟩ := (hready i).1 hi
      have hilt := hlt i hiL
      obtain ⟨oi, hoi⟩ : ∃ oi, ops[i]? = some oi := ⟨ops[i], by simp [hilt]⟩
      have hlen : (L.erase i).length = n := by rw [List.length_erase_of_mem hiL, hn]; rfl
      have hnd : L.Nodup := hp.imp (fun h => Nat.ne_of_lt h)
      have hp2 : (L.erase i).Pairwise (· < ·) := hp.sublist List.erase_sublist
      have hu2 : UpC md ops (L.erase i) := fun j x hw hx => by
        have hxL := List.mem_of_mem_erase hx
        have hjL := hu j x hw hxL
        have hji : j ≠ i := fun e => by subst e; rw [hr x hxL] at hw; cases hw
        exact (List.mem_erase_of_ne hji).2 hjL
      have hl2 : ∀ j, j < ops.size → ((listed.setIfInBounds i true).getD j true = false ↔ j ∈ L.erase i) := fun j hj => by
        by_cases hji : i = j
        · subst hji
          have : (listed.setIfInBounds i true).getD i true = true := by
            rcases Nat.lt_or_ge i listed.size with h' | h' <;> simp [h']
          rw [this]
          simp [List.Nodup.not_mem_erase hnd]
        · rw [getD_set_ne true hji, hl j hj, List.mem_erase_of_ne (fun e => hji e.symm)]
      have hlt2 : ∀ j ∈ L.erase i, j < ops.size := fun j hj => hlt j (List.mem_of_mem_erase hj)
      have hrec := fun a' w' (hS' : S w') hX => wpAnyH_of_lexT hc n (L.erase i) (listed.setIfInBounds i true) a' w' hlen hS' hX hp2 hu2 hl2 hlt2 (by simpa using hsz)
      cases hli : liteB fs oi with
      | true =>
        obtain ⟨u, hy, hX⟩ := lexT_light hc n L a w hn hS h hp i hiL oi hoi hli hr
        exact hy.wpOp hoi hS ⟨hS, hrec _ _ hS hX⟩
      | false =>
        have hX := lexT_heavy hc n L a w hn hS h hp i hiL oi hoi hli hr (fun k hk hlt' ok hok => by
          cases hlk : liteB fs ok with
          | true => exact .inl rfl
          | false => rcases hc.chain k i ok oi hok hoi hlt' hlk hli with hh | hh
                     · exact (reach_not hu hh hk hr).elim
                     · exact .inr hh)
        exact wpOp_mono (fun a' w' ⟨hS', hX'⟩ => ⟨hS', hrec _ _ hS' hX'⟩) hX

/-- THE WALK over the operations themselves. -/
def lexV (fs : Cls) (ps : List (Nat × Nat)) (P : Program) (ops : Array Oper) (S : World → Prop) (Q : Exit → Act → World → Prop) : Nat → List Oper → Act → World → Prop
  | 0, _, a, w => Q .normal a w
  | _ + 1, [], a, w => Q .normal a w
  | n + 1, o :: rest, a, w => if liteB fs o = true then (if Region.wanted o (yielded ops a.tmps) then ∃ v, (∀ w', S w' → LRun P o a w' v) ∧ lexV fs ps P ops S Q n rest (a.put o.dst v) w else lexV fs ps P ops S Q n rest (a.put o.dst undef) w)
    else (if Region.wanted o (yielded ops a.tmps) then o.wp P a w (fun a' w' => S w' ∧ lexV fs ps P ops S Q n rest a' w') (OnlyN Q) else S w ∧ lexV fs ps P ops S Q n rest (a.put o.dst undef) w) ∧
      ∀ m rest', rest = m :: rest' → pairB ps o m = true → (if Region.wanted m (yielded ops a.tmps) then m.wp P a w (fun a' w' => S w' ∧ lexV fs ps P ops S Q n (o :: rest') a' w') (OnlyN Q) else S w ∧ lexV fs ps P ops S Q n (o :: rest') (a.put m.dst undef) w)

theorem lexT_of_lexV {fs : Cls} {ps : List (Nat × Nat)} : ∀ (n : Nat) (L : List Nat) (l : List Oper) (a : Act) (w : World), L.length = l.length → (∀ (j k : Nat) (o : Oper), L[j]? = some k → l[j]? = some o → ops[k]? = some o) → lexV fs ps P ops S Q n l a w → lexT fs ps P ops S Q n L a w
  | 0, _, _, _, _, _, _, h => h
  | _ + 1, [], [], _, _, _, _, h => h
  | _ + 1, [], _ :: _, _, _, hn, _, _ => by simp at hn
  | _ + 1, _ :: _, [], _, _, hn, _, _ => by simp at hn
  | n + 1, k :: L, o :: l, a, w, hn, hl, h => by
    have h0 : ops[k]? = some o := hl 0 k o rfl rfl
    have hn' : L.length = l.length := by simpa using hn
    have hl' : ∀ (j k : Nat) (o : Oper), L[j]? = some k → l[j]? = some o → ops[k]? = some o := fun j k o h1 h2 => hl (j + 1) k o (by simpa using h1) (by simpa using h2)
    refine ⟨o, h0, ?_⟩
    simp only [lexV] at h
    by_cases hlt : liteB fs o = true
    · rw [if_pos hlt] at h ⊢
      by_cases hw : Region.wanted o (yielded ops a.tmps) = true
      · rw [if_pos hw] at h
        obtain ⟨v, hv, hX⟩ := h
        exact ⟨v, .inl ⟨hw, hv⟩, lexT_of_lexV n L l _ _ hn' hl' hX⟩
      · rw [if_neg hw] at h
        exact ⟨undef, .inr ⟨by simpa using hw, rfl⟩, lexT_of_lexV n L l _ _ hn' hl' h⟩
    · rw [if_neg hlt] at h ⊢
      obtain ⟨hA, hB⟩ := h
      refine ⟨?_, fun m L' hL hfr => ?_⟩
      · unfold wpOp
        simp only [h0]
        by_cases hw : Region.wanted o (yielded ops a.tmps) = true
        · rw [if_pos hw] at hA ⊢
          exact .inl (Oper.wp_mono (fun a' w' ⟨hS', hX⟩ => ⟨hS', lexT_of_lexV n L l a' w' hn' hl' hX⟩) hA)
        · rw [if_neg hw] at hA ⊢
          exact ⟨hA.1, lexT_of_lexV n L l _ _ hn' hl' hA.2⟩
      · subst hL
        match l, hn', hl', hB with
        | om :: l', hn', hl', hB =>
          have hm : ops[m]? = some om := hl' 0 m om rfl rfl
          have hpr : pairB ps o om = true := by
            unfold freeB at hfr
            simp only [h0, hm, Bool.and_eq_true] at hfr
            exact hfr.2
          have hB' := hB om l' rfl hpr
          have hn2 : (k :: L').length = (o :: l').length := by simpa using hn'
          have hl2 : ∀ (j k' : Nat) (o' : Oper), (k :: L')[j]? = some k' → (o :: l')[j]? = some o' → ops[k']? = some o' := fun j k' o' h1 h2 => by
            cases j with
            | zero =>
              simp at h1 h2
              subst h1; subst h2
              exact h0
            | succ j => exact hl' (j + 1) k' o' (by simpa using h1) (by simpa using h2)
          unfold wpOp
          simp only [hm]
          by_cases hw : Region.wanted om (yielded ops a.tmps) = true
          · rw [if_pos hw] at hB' ⊢
            exact .inl (Oper.wp_mono (fun a' w' ⟨hS', hX⟩ => ⟨hS', lexT_of_lexV n (k :: L') (o :: l') a' w' hn2 hl2 hX⟩) hB')
          · rw [if_neg hw] at hB' ⊢
            exact ⟨hB'.1, lexT_of_lexV n (k :: L') (o :: l') _ _ hn2 hl2 hB'.2⟩

/-- **THE LAW**: one walk of the region in the order of the text; at a free pair, two. -/
theorem wp_region_lexV (fs : Cls) (ps : List (Nat × Nat)) {id : Nat} {a : Act} {w : World} {l : List Oper} (n : Nat) (hln : l.length = n) (S : World → Prop) (hm : P.follows .mixedOrders = true) (hB : lexChain2B fs ps .any l.toArray = true) (hS : S w.drew)
    (h : ∀ S' : World → Prop, (∀ x : Wd S', S x.w) → (∀ w', S w' → S' w') → Nonempty (Wd S') → lexV fs ps P l.toArray S' Q n l a w.drew) : (Code.region id l.toArray true).wp P Q a w := by
  refine Code.wp_mono OnlyN.imp (wp_region_any hm ?_)
  have hc := chain2_of hB
  have h := h S (fun x => x.h) (fun _ hh => hh) ⟨⟨w.drew, hS⟩⟩
  have hX := lexT_of_lexV (ops := l.toArray) n (List.range l.length) l a w.drew (by simp) (fun (j k : Nat) (o : Oper) h1 h2 => by
    have hj : j < l.length := by
      have := (List.getElem?_eq_some_iff.1 h1).1
      simpa using this
    rw [List.getElem?_range hj] at h1
    obtain rfl := Option.some.inj h1
    simpa using h2) h
  have h1 := wpAnyH_of_lexT (md := .any) (P := P) (Q := Q) hc n (List.range l.length) (Array.replicate l.toArray.size false) a w.drew (by simpa using hln) hS hX List.pairwise_lt_range
    (fun j i hw _ => List.mem_range.2 (by simpa using waits_lt hw)) (fun j hj => by
      have : j < l.length := by simpa using hj
      simp [this]) (fun j hj => by simpa using hj) (by simp)
  have e : n = l.toArray.size := by simpa using hln.symm
  rw [e] at h1
  exact wpAny_of_held _ _ _ _ h1

theorem lexV_light {fs : Cls} {ps : List (Nat × Nat)} {n : Nat} {l : List Oper} (k : Nat) (hl : (l.take k).all (fun o => lightB o && !heavyB fs.hs o) = true) (hlen : (l.take k).length = k) {a : Act} {w : World} (h : wpQuiet P ops (InS S) (fun a' => lexV fs ps P ops S Q n (l.drop k) a' w) (l.take k) a) : lexV fs ps P ops S Q (n + k) l a w := by
  induction k generalizing l a with
  | zero => simpa [wpQuiet] using h
  | succ k ih =>
    cases l with
    | nil => simp at hlen
    | cons o l =>
      simp only [List.take_succ_cons, List.drop_succ_cons, List.all_cons, Bool.and_eq_true, wpQuiet, List.length_cons, Nat.add_right_cancel_iff] at h hl hlen
      rw [← Nat.add_assoc]
      simp only [lexV]
      rw [if_pos (by have h1 := hl.1.1; have h2 := hl.1.2; simp only [liteB, h1, Bool.true_or, Bool.true_and]; simpa using h2)]
      by_cases hw : Region.wanted o (yielded ops a.tmps) = true
      · rw [if_pos hw] at h ⊢
        obtain ⟨v, hv, hX⟩ := quiet_yields hl.1.1 h
        exact ⟨v, fun w' hw' => .inl (hv w' hw'), ih hl.2 hlen hX⟩
      · rw [if_neg hw] at h ⊢
        exact ih hl.2 hlen h

/-- A call of a function that only computes. -/
theorem lexV_pure {fs : Cls} {ps : List (Nat × Nat)} {n : Nat} {o : Oper} {rest : List Oper} {a : Act} {w : World} {f : FuncId} {args : Array Value} {v : Value} {xs : Array Operand} {tys : Array TypeId} {fn : Func} {c : Code}
    (hl : (pureB fs.fs o && !heavyB fs.hs o) = true) (hw : Region.wanted o (yielded ops a.tmps) = true) (ho : o.op = .call ⟨.value (.func f), xs, tys⟩) (hf : P.funcs[f]? = some fn) (hb : fn.body = some c) (hn : (fn.name == "runtime.NumGoroutine") = false)
    (hc : ∀ x : Wd S, Calls P f args x.w fun e w' => e = .returned v ∧ x.w = w') (ha : xs.map a.eval = args) (h : lexV fs ps P ops S Q n rest (a.put o.dst v) w) : lexV fs ps P ops S Q (n + 1) (o :: rest) a w := by
  simp only [lexV]
  rw [if_pos (by simp only [Bool.and_eq_true] at hl; simp only [liteB, hl.1, hl.2, Bool.or_true, Bool.true_and]), if_pos hw]
  exact ⟨v, fun w' hS => .inr ⟨f, args, by rw [run_callv ho hf hb hn, ha], (hc ⟨w', hS⟩).mono fun e w'' ⟨he, hw''⟩ => ⟨he, hw''.symm⟩⟩, h⟩

/-- What follows an operation of the chain. -/
def lexVQ (fs : Cls) (ps : List (Nat × Nat)) (P : Program) (ops : Array Oper) (S : World → Prop) (Q : Exit → Act → World → Prop) (n : Nat) (rest : List Oper) : Exit → Act → World → Prop
  | .normal, a, w => S w ∧ lexV fs ps P ops S Q n rest a w
  | _, _, _ => False
theorem lexVQ_more {fs : Cls} {ps : List (Nat × Nat)} {n : Nat} {rest : List Oper} {a : Act} {w : World} (hS : S w) (h : lexV fs ps P ops S Q n rest a w) : lexVQ fs ps P ops S Q n rest .normal a w := ⟨hS, h⟩
theorem lexV_done {fs : Cls} {ps : List (Nat × Nat)} {rest : List Oper} {a : Act} {w : World} (h : Q .normal a w) : lexV fs ps P ops S Q 0 rest a w := h

theorem lexV_step {fs : Cls} {ps : List (Nat × Nat)} {n : Nat} {o : Oper} {rest : List Oper} {a : Act} {w : World} (h : wpList P ops (lexVQ fs ps P ops S Q n rest) [o] a w) :
    (if Region.wanted o (yielded ops a.tmps) then o.wp P a w (fun a' w' => S w' ∧ lexV fs ps P ops S Q n rest a' w') (OnlyN Q) else S w ∧ lexV fs ps P ops S Q n rest (a.put o.dst undef) w) := by
  simp only [wpList] at h
  by_cases hw : Region.wanted o (yielded ops a.tmps) = true
  · rw [if_pos hw] at h ⊢
    rcases h with h | ⟨_, _, _, hh⟩
    · refine Oper.wp_mono (K := lexVQ fs ps P ops S Q n rest .normal) (fun a w h => h) ?_
      unfold Oper.wp at h ⊢
      generalize (execOp a.eval o).run P w = r at h ⊢
      cases r with
      | ok n w' =>
        cases n <;> simp only [Oper.upon] at h ⊢ <;> first
          | exact h
          | exact h.mono (fun e w'' he => by
              cases e with
              | returned v => exact he
              | panicked c => exact he.elim
              | outgrown => exact absurd he (fun ⟨_, _, hh⟩ => hh))
      | halt x w' => cases x <;> simp only [Oper.upon] at h ⊢ <;> exact h
    · exact hh.elim
  · rw [if_neg hw] at h ⊢
    exact h

/-- One operation of the chain, by the kit's walk. -/
theorem lexV_heavy {fs : Cls} {ps : List (Nat × Nat)} {n : Nat} {o : Oper} {rest : List Oper} (hl : liteB fs o = false) (hp : (match rest with | m :: _ => pairB ps o m | [] => false) = false) {a : Act} {w : World} (h : wpList P ops (lexVQ fs ps P ops S Q n rest) [o] a w) : lexV fs ps P ops S Q (n + 1) (o :: rest) a w := by
  simp only [lexV]
  rw [if_neg (by simp [hl])]
  refine ⟨lexV_step h, fun m rest' hr hpr => ?_⟩
  subst hr
  simp only at hp
  rw [hp] at hpr
  cases hpr
/-- A free pair: both orders. -/
theorem lexV_pair {fs : Cls} {ps : List (Nat × Nat)} {n : Nat} {o m : Oper} {rest : List Oper} (hl : liteB fs o = false) {a : Act} {w : World} (h1 : wpList P ops (lexVQ fs ps P ops S Q n (m :: rest)) [o] a w) (h2 : wpList P ops (lexVQ fs ps P ops S Q n (o :: rest)) [m] a w) : lexV fs ps P ops S Q (n + 1) (o :: m :: rest) a w := by
  simp only [lexV]
  rw [if_neg (by simp [hl])]
  refine ⟨lexV_step h1, fun m' rest' hr _ => ?_⟩
  obtain ⟨rfl, rfl⟩ := List.cons.inj hr
  exact lexV_step h2

end

end Go.Proofs.YtpljdbcifaeblaaDoor
