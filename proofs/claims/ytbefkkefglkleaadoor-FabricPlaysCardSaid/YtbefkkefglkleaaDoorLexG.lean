/- The law of regions that draw their order (Lex), by a walk in an order of one's own, in which some operations of the chain may come earlier: every order is walked. -/
import Derived.Test.YtbefkkefglkleaaDoorLex
namespace Go.Proofs.YtbefkkefglkleaaDoor
open Go

section
variable {P : Program} {ops : Array Oper} {md : Region.Mode} {S : World → Prop}

def frB (fr : List (Nat × Nat)) (x m : Nat) : Bool := fr.contains (x, m)
/-- Which may come first: all ahead of it are free. -/
def may (fr : List (Nat × Nat)) : List Nat → Nat → Prop
  | [], _ => False
  | x :: L, m => x = m ∨ (frB fr x m = true ∧ may fr L m)
def mayB (fr : List (Nat × Nat)) : List Nat → Nat → Bool
  | [], _ => false
  | x :: L, m => x == m || (frB fr x m && mayB fr L m)
theorem mayB_of {fr : List (Nat × Nat)} : ∀ {L : List Nat} {m : Nat}, may fr L m → mayB fr L m = true
  | [], _, h => h.elim
  | x :: L, m, h => by
    rcases h with h | ⟨h1, h2⟩
    · simp [mayB, h]
    · simp [mayB, h1, mayB_of h2]
theorem may_mem {fr : List (Nat × Nat)} : ∀ {L : List Nat} {m : Nat}, may fr L m → m ∈ L
  | [], _, h => h.elim
  | x :: L, m, h => by
    rcases h with h | ⟨_, h2⟩
    · simp [h]
    · exact List.mem_cons_of_mem _ (may_mem h2)
def mays (fr : List (Nat × Nat)) (L : List Nat) : List Nat := L.filter (mayB fr L)
theorem mem_mays {fr : List (Nat × Nat)} {L : List Nat} {m : Nat} (h : may fr L m) : m ∈ mays fr L := List.mem_filter.2 ⟨may_mem h, mayB_of h⟩

theorem pair_order {m i : Nat} (hne : m ≠ i) : ∀ {L : List Nat}, m ∈ L → i ∈ L → [m, i].Sublist L ∨ [i, m].Sublist L
  | [], h, _ => by cases h
  | x :: L, hm, hi => by
    rcases List.mem_cons.1 hm with rfl | hm2
    · exact .inl (List.Sublist.cons_cons _ (List.singleton_sublist.2 ((List.mem_cons.1 hi).resolve_left fun e => hne e.symm)))
    · rcases List.mem_cons.1 hi with rfl | hi2
      · exact .inr (List.Sublist.cons_cons _ (List.singleton_sublist.2 hm2))
      · exact (pair_order hne hm2 hi2).imp (fun h => h.cons _) fun h => h.cons _
theorem may_of {fr : List (Nat × Nat)} : ∀ {L : List Nat} {m : Nat}, m ∈ L → (∀ x, [x, m].Sublist L → frB fr x m = true) → may fr L m
  | [], _, h, _ => by cases h
  | x :: L, m, hm, h => by
    by_cases hx : x = m
    · exact .inl hx
    · have hmL := (List.mem_cons.1 hm).resolve_left fun e => hx e.symm
      exact .inr ⟨h x (List.Sublist.cons_cons _ (List.singleton_sublist.2 hmL)), may_of hmL fun y hy => h y (hy.cons _)⟩
theorem may_erase {fr : List (Nat × Nat)} {i : Nat} : ∀ {L : List Nat} {m : Nat}, ¬ [i, m].Sublist L → may fr (L.erase i) m → may fr L m
  | [], _, _, h => h.elim
  | x :: L, m, hn, h => by
    by_cases hx : x = i
    · subst hx
      rw [List.erase_cons_head] at h
      exact absurd (List.Sublist.cons_cons _ (List.singleton_sublist.2 (may_mem h))) hn
    · rw [List.erase_cons_tail (by simpa using hx)] at h
      rcases h with h | ⟨h1, h2⟩
      · exact .inl h
      · exact .inr ⟨h1, may_erase (fun hs => hn (hs.cons _)) h2⟩

/-- What the kernel looks at, for two operations of which the first stands ahead in the walk. -/
def relB (cs : Cls) (fr : List (Nat × Nat)) (md : Region.Mode) (ops : Array Oper) (k i : Nat) : Bool :=
  k != i && (!waits md ops k i && ((waits md ops i k || (match ops[k]?, ops[i]? with | some x, some y => x.apart ops y | _, _ => false)) &&
    (match ops[k]?, ops[i]? with | some x, some y => liteB cs x || (liteB cs y || (reach md ops ops.size i k || frB fr k i)) | _, _ => false)))
structure RelG (cs : Cls) (fr : List (Nat × Nat)) (md : Region.Mode) (ops : Array Oper) (k i : Nat) : Prop where
  ne : k ≠ i
  now : waits md ops k i = false
  some : ∃ ok oi, ops[k]? = some ok ∧ ops[i]? = some oi
  apart : ∀ {ok oi}, ops[k]? = Option.some ok → ops[i]? = Option.some oi → waits md ops i k = false → ok.apart ops oi = true
  chain : ∀ {ok oi}, ops[k]? = Option.some ok → ops[i]? = Option.some oi → liteB cs ok = false → liteB cs oi = false → reach md ops ops.size i k = true ∨ frB fr k i = true
theorem relG_of {cs : Cls} {fr : List (Nat × Nat)} {k i : Nat} (h : relB cs fr md ops k i = true) : RelG cs fr md ops k i := by
  simp only [relB, Bool.and_eq_true, bne_iff_ne, Bool.not_eq_true'] at h
  obtain ⟨h1, h2, h3, h4⟩ := h
  cases hk : ops[k]? with
  | none => rw [hk] at h4; simp at h4
  | some ok =>
    cases hi : ops[i]? with
    | none => rw [hk, hi] at h4; simp at h4
    | some oi =>
      rw [hk, hi] at h3 h4
      simp only [Bool.or_eq_true] at h3 h4
      refine ⟨h1, h2, ⟨ok, oi, hk, hi⟩, fun e1 e2 hw => ?_, fun e1 e2 l1 l2 => ?_⟩
      · rw [hk] at e1; rw [hi] at e2
        obtain rfl := Option.some.inj e1
        obtain rfl := Option.some.inj e2
        rcases h3 with h3 | h3
        · rw [hw] at h3; cases h3
        · exact h3
      · rw [hk] at e1; rw [hi] at e2
        obtain rfl := Option.some.inj e1
        obtain rfl := Option.some.inj e2
        rcases h4 with h4 | h4 | h4
        · rw [l1] at h4; cases h4
        · rw [l2] at h4; cases h4
        · exact h4
def pairsB (R : Nat → Nat → Bool) : List Nat → Bool
  | [] => true
  | k :: L => L.all (R k) && pairsB R L
theorem pairs_of {R : Nat → Nat → Bool} {T : Nat → Nat → Prop} (hT : ∀ k i, R k i = true → T k i) : ∀ {L : List Nat}, pairsB R L = true → L.Pairwise T
  | [], _ => .nil
  | k :: L, h => by
    simp only [pairsB, Bool.and_eq_true, List.all_eq_true] at h
    exact .cons (fun i hi => hT k i (h.1 i hi)) (pairs_of hT h.2)
theorem rel_of_sub {T : Nat → Nat → Prop} {L : List Nat} {x m : Nat} (hp : L.Pairwise T) (hs : [x, m].Sublist L) : T x m := by
  have := hp.sublist hs
  simpa using this

/-- Between a free pair stands none that only computes. -/
def TriG (cs : Cls) (fr : List (Nat × Nat)) (ops : Array Oper) (L : List Nat) : Prop := ∀ k x m o, [k, x, m].Sublist L → frB fr k m = true → ops[x]? = some o → liteB cs o = false
theorem TriG.sub {cs : Cls} {fr : List (Nat × Nat)} {L L' : List Nat} (h : TriG cs fr ops L) (hs : L'.Sublist L) : TriG cs fr ops L' := fun k x m o h1 => h k x m o (h1.trans hs)
def tri2B (cs : Cls) (fr : List (Nat × Nat)) (ops : Array Oper) (k : Nat) : List Nat → Bool
  | [] => true
  | x :: L => ((match ops[x]? with | some o => !liteB cs o | none => true) || L.all (fun m => !frB fr k m)) && tri2B cs fr ops k L
def triB (cs : Cls) (fr : List (Nat × Nat)) (ops : Array Oper) : List Nat → Bool
  | [] => true
  | k :: L => tri2B cs fr ops k L && triB cs fr ops L
theorem tri2_of {cs : Cls} {fr : List (Nat × Nat)} {k : Nat} : ∀ {L : List Nat}, tri2B cs fr ops k L = true → ∀ x m o, [x, m].Sublist L → frB fr k m = true → ops[x]? = some o → liteB cs o = false
  | [], _, _, _, _, hs, _, _ => by cases hs
  | y :: L, h, x, m, o, hs, hf, ho => by
    simp only [tri2B, Bool.and_eq_true, Bool.or_eq_true, List.all_eq_true, Bool.not_eq_true'] at h
    rcases List.sublist_cons_iff.1 hs with hs | ⟨r, hr, hs⟩
    · exact tri2_of h.2 x m o hs hf ho
    · obtain ⟨rfl, rfl⟩ := List.cons.inj hr
      rcases h.1 with h1 | h1
      · rw [ho] at h1
        simpa using h1
      · have := h1 m (List.singleton_sublist.1 hs)
        rw [hf] at this
        cases this
theorem tri_of {cs : Cls} {fr : List (Nat × Nat)} : ∀ {L : List Nat}, triB cs fr ops L = true → TriG cs fr ops L
  | [], _, _, _, _, _, hs, _, _ => by cases hs
  | y :: L, h, k, x, m, o, hs, hf, ho => by
    simp only [triB, Bool.and_eq_true] at h
    rcases List.sublist_cons_iff.1 hs with hs | ⟨r, hr, hs⟩
    · exact tri_of h.2 k x m o hs hf ho
    · obtain ⟨rfl, rfl⟩ := List.cons.inj hr
      exact tri2_of h.1 x m o hs hf ho

structure ChainG (md : Region.Mode) (ops : Array Oper) : Prop where
  sel : ∀ (j : Nat) (o : Oper) cs b, ops[j]? = some o → o.op ≠ .select cs b
  dir : ∀ j i, waits md ops j i = true → i < j
def lexChainGB (cs : Cls) (fr : List (Nat × Nat)) (md : Region.Mode) (ops : Array Oper) (L : List Nat) : Bool :=
  Region.noSelect ops && (((List.range ops.size).all fun k => (match ops[k]? with | some o => o.after.all fun e => !Region.binds md e || decide (e.on < k) | none => false)) &&
    ((List.range ops.size).all (fun k => L.contains k) && (L.all (fun k => decide (k < ops.size)) && (pairsB (relB cs fr md ops) L && triB cs fr ops L))))
theorem chainG_of {cs : Cls} {fr : List (Nat × Nat)} {L : List Nat} (h : lexChainGB cs fr md ops L = true) : ChainG md ops ∧ (∀ j, j < ops.size → j ∈ L) ∧ (∀ j ∈ L, j < ops.size) ∧ L.Pairwise (RelG cs fr md ops) ∧ TriG cs fr ops L := by
  simp only [lexChainGB, Bool.and_eq_true, List.all_eq_true, List.mem_range, List.contains_iff_mem, decide_eq_true_eq] at h
  obtain ⟨hs, hd, h1, h2, h3, h4⟩ := h
  refine ⟨⟨fun j o cs b ho => Region.noSelect_spec hs j o cs b ho, fun j i hw => ?_⟩, h1, h2, pairs_of (fun k i => relG_of) h3, tri_of h4⟩
  have h1 := hd j (waits_lt hw)
  unfold waits at hw
  split at hw
  · rename_i oj hj
    rw [hj] at h1
    obtain ⟨e, he, hb⟩ := Array.any_eq_true'.1 hw
    simp only [Bool.and_eq_true, beq_iff_eq] at hb
    have h2 := Array.all_eq_true_iff_forall_mem.1 h1 e he
    rw [hb.1, hb.2] at h2
    simpa using h2
  · cases hw

/-- THE WALK. -/
def lexG (cs : Cls) (fr : List (Nat × Nat)) (P : Program) (ops : Array Oper) (S : World → Prop) (Q : Exit → Act → World → Prop) : Nat → List Nat → Act → World → Prop
  | 0, _, a, w => Q .normal a w
  | _ + 1, [], a, w => Q .normal a w
  | n + 1, k :: L, a, w => ∃ o, ops[k]? = some o ∧
    if liteB cs o = true then ∃ v, YieldsL P ops S o v a ∧ lexG cs fr P ops S Q n L (a.put o.dst v) w
    else ∀ m, may fr (k :: L) m → wpOp P ops (OnlyN Q) m (fun a' w' => S w' ∧ lexG cs fr P ops S Q n ((k :: L).erase m) a' w') a w

variable {Q : Exit → Act → World → Prop}

theorem lexG_light {cs : Cls} {fr : List (Nat × Nat)} (hc : ChainG md ops) : ∀ (n : Nat) (L : List Nat) (a : Act) (w : World), L.length = n + 1 → S w → lexG cs fr P ops S Q (n + 1) L a w → L.Pairwise (RelG cs fr md ops) → TriG cs fr ops L → ∀ i ∈ L, ∀ oi, ops[i]? = some oi → liteB cs oi = true → Rdy md ops L i →
    ∃ u, YieldsL P ops S oi u a ∧ lexG cs fr P ops S Q n (L.erase i) (a.put oi.dst u) w
  | _, [], _, _, _, _, _, _, _, i, hi, _, _, _, _ => by cases hi
  | n, k :: L, a, w, hn, hS, h, hp, ht, i, hi, oi, hoi, hli, hr => by
    obtain ⟨ok, hk, h⟩ := h
    by_cases hik : i = k
    · subst hik
      have e : ok = oi := Option.some.inj (hk.symm.trans hoi)
      subst e
      rw [if_pos hli] at h
      obtain ⟨v, hy, hX⟩ := h
      exact ⟨v, hy, by rw [List.erase_cons_head]; exact hX⟩
    · have hiL : i ∈ L := (List.mem_cons.1 hi).resolve_left hik
      have hp' := List.pairwise_cons.1 hp
      have hrL : Rdy md ops L i := fun x hx => hr x (List.mem_cons_of_mem _ hx)
      have hap := (hp'.1 i hiL).apart hk hoi (hr k (List.mem_cons_self ..))
      obtain ⟨h1, h2, h3⟩ := Oper.apart_spec hap
      have hsi := fun cs b => hc.sel i oi cs b hoi
      have hsk := fun cs b => hc.sel k ok cs b hk
      have her : (k :: L).erase i = k :: L.erase i := List.erase_cons_tail (by simpa using fun e : k = i => hik e.symm)
      have htL : TriG cs fr ops L := ht.sub (List.sublist_cons_self ..)
      rw [her]
      obtain ⟨n', rfl⟩ : ∃ n', n = n' + 1 := ⟨n - 1, by have := List.length_pos_of_mem hiL; simp only [List.length_cons] at hn; omega⟩
      have hnL : L.length = n' + 1 := by simpa using hn
      by_cases hlk : liteB cs ok = true
      · rw [if_pos hlk] at h
        obtain ⟨v, hy, hX⟩ := h
        obtain ⟨u, hyu, hX2⟩ := lexG_light hc n' L _ w hnL hS hX hp'.2 htL i hiL oi hoi hli hrL
        refine ⟨u, (yieldsL_put hsi h1).1 hyu, ok, hk, ?_⟩
        rw [if_pos hlk]
        exact ⟨v, (yieldsL_put hsk h3).2 hy, by rw [← Act.put_comm a v u h2]; exact hX2⟩
      · rw [if_neg hlk] at h
        have hA := h k (.inl rfl)
        rw [List.erase_cons_head] at hA
        have hm := wpOp_mono (K' := fun a' w' => ∃ u, YieldsL P ops S oi u a' ∧ (S w' ∧ lexG cs fr P ops S Q n' (L.erase i) (a'.put oi.dst u) w')) (fun a' w' ⟨hS', hX⟩ =>
          let ⟨u, hyu, hX2⟩ := lexG_light hc n' L a' w' hnL hS' hX hp'.2 htL i hiL oi hoi hli hrL
          ⟨u, hyu, hS', hX2⟩) hA
        obtain ⟨u, hy, hw⟩ := wpOp_swap (K := fun a' w' => S w' ∧ lexG cs fr P ops S Q n' (L.erase i) a' w') hk hap hsi hsk hS hm
        refine ⟨u, hy, ok, hk, ?_⟩
        rw [if_neg hlk]
        intro m hmay
        by_cases hmk : m = k
        · subst hmk
          rw [List.erase_cons_head]
          exact hw
        · obtain ⟨hfr, hmy⟩ := hmay.resolve_left fun e => hmk e.symm
          have hno : ¬ [i, m].Sublist L := fun hs => by
            have := ht k i m oi (List.Sublist.cons_cons _ hs) hfr hoi
            rw [hli] at this
            cases this
          have hmL : may fr L m := may_erase hno hmy
          have hme := may_mem hmL
          have hnd : L.Nodup := hp'.2.imp fun h => h.ne
          have him : m ≠ i := fun e => by
            subst e
            exact List.Nodup.not_mem_erase hnd (may_mem hmy)
          have hrel := rel_of_sub hp'.2 ((pair_order him hme hiL).resolve_right hno)
          obtain ⟨om, _, hom, _⟩ := hrel.some
          have hapm := hrel.apart hom hoi (hr m (List.mem_cons_of_mem _ hme))
          have hlen : ((k :: L).erase m).length = n' + 1 := by rw [List.length_erase_of_mem (List.mem_cons_of_mem _ hme)]; simpa using hnL
          have hsub : ((k :: L).erase m).Sublist (k :: L) := List.erase_sublist
          have hm2 := wpOp_mono (K' := fun a' w' => ∃ u, YieldsL P ops S oi u a' ∧ (S w' ∧ lexG cs fr P ops S Q n' (((k :: L).erase m).erase i) (a'.put oi.dst u) w')) (fun a' w' ⟨hS', hX⟩ =>
            let ⟨u, hyu, hX2⟩ := lexG_light hc n' ((k :: L).erase m) a' w' hlen hS' hX (hp.sublist hsub) (ht.sub hsub) i ((List.mem_erase_of_ne fun e => him e.symm).2 hi) oi hoi hli (fun x hx => hr x (hsub.subset hx))
            ⟨u, hyu, hS', hX2⟩) (h m (.inr ⟨hfr, hmL⟩))
          obtain ⟨u', hy', hw'⟩ := wpOp_swap (K := fun a' w' => S w' ∧ lexG cs fr P ops S Q n' (((k :: L).erase m).erase i) a' w') hom hapm hsi (fun cs b => hc.sel m om cs b hom) hS hm2
          have : u' = u := yieldsL_unique hS hy' hy
          subst this
          rw [← her, List.erase_comm]
          exact hw'

theorem lexG_heavy {cs : Cls} {fr : List (Nat × Nat)} (hc : ChainG md ops) : ∀ (n : Nat) (L : List Nat) (a : Act) (w : World), L.length = n + 1 → S w → lexG cs fr P ops S Q (n + 1) L a w → L.Pairwise (RelG cs fr md ops) → TriG cs fr ops L →
    ∀ i ∈ L, ∀ oi, ops[i]? = some oi → liteB cs oi = false → Rdy md ops L i → (∀ x, [x, i].Sublist L → ∀ ox, ops[x]? = some ox → liteB cs ox = false → frB fr x i = true) →
    wpOp P ops (OnlyN Q) i (fun a' w' => S w' ∧ lexG cs fr P ops S Q n (L.erase i) a' w') a w
  | _, [], _, _, _, _, _, _, _, i, hi, _, _, _, _, _ => by cases hi
  | n, k :: L, a, w, hn, hS, h, hp, ht, i, hi, oi, hoi, hli, hr, hall => by
    obtain ⟨ok, hk, h⟩ := h
    by_cases hik : i = k
    · subst hik
      have e : ok = oi := Option.some.inj (hk.symm.trans hoi)
      subst e
      rw [if_neg (by simp [hli])] at h
      exact h i (.inl rfl)
    · have hiL : i ∈ L := (List.mem_cons.1 hi).resolve_left hik
      have hp' := List.pairwise_cons.1 hp
      have hrL : Rdy md ops L i := fun x hx => hr x (List.mem_cons_of_mem _ hx)
      have hap := (hp'.1 i hiL).apart hk hoi (hr k (List.mem_cons_self ..))
      have hsi := fun cs b => hc.sel i oi cs b hoi
      have hsk := fun cs b => hc.sel k ok cs b hk
      have her : (k :: L).erase i = k :: L.erase i := List.erase_cons_tail (by simpa using fun e : k = i => hik e.symm)
      have htL : TriG cs fr ops L := ht.sub (List.sublist_cons_self ..)
      obtain ⟨n', rfl⟩ : ∃ n', n = n' + 1 := ⟨n - 1, by have := List.length_pos_of_mem hiL; simp only [List.length_cons] at hn; omega⟩
      have hnL : L.length = n' + 1 := by simpa using hn
      by_cases hlk : liteB cs ok = true
      · rw [her]
        rw [if_pos hlk] at h
        obtain ⟨v, hy, hX⟩ := h
        have ih := lexG_heavy hc n' L (a.put ok.dst v) w hnL hS hX hp'.2 htL i hiL oi hoi hli hrL (fun x hx => hall x (hx.cons _))
        have h2 := wpOp_later hoi hap hsk hsi hy ih
        refine wpOp_mono (fun a' w' ⟨hy', hS', hX'⟩ => ⟨hS', ok, hk, ?_⟩) h2
        rw [if_pos hlk]
        exact ⟨v, hy', hX'⟩
      · rw [if_neg hlk] at h
        have hlf : liteB cs ok = false := by simpa using hlk
        have hfr := hall k (List.Sublist.cons_cons _ (List.singleton_sublist.2 hiL)) ok hk hlf
        refine h i (.inr ⟨hfr, may_of hiL fun x hx => ?_⟩)
        obtain ⟨ox, _, hox, _⟩ := (rel_of_sub hp'.2 hx).some
        exact hall x (hx.cons _) ox hox (ht k x i ox (List.Sublist.cons_cons _ hx) hfr hox)

theorem wpAnyH_of_lexG {cs : Cls} {fr : List (Nat × Nat)} (hc : ChainG md ops) : ∀ (n : Nat) (L : List Nat) (listed : Array Bool) (a : Act) (w : World), L.length = n → S w → lexG cs fr P ops S Q n L a w → L.Pairwise (RelG cs fr md ops) → TriG cs fr ops L → UpC md ops L →
    (∀ j, j < ops.size → (listed.getD j true = false ↔ j ∈ L)) → (∀ j ∈ L, j < ops.size) → listed.size = ops.size → wpAnyH P md ops (OnlyN Q) S n listed a w
  | 0, L, listed, a, w, hn, hS, h, hp, ht, hu, hl, hlt, hsz => by
    obtain rfl : L = [] := List.eq_nil_of_length_eq_zero hn
    refine ⟨?_, h⟩
    refine List.eq_nil_iff_forall_not_mem.2 fun j hj => ?_
    obtain ⟨h1, o, ho, _⟩ := mem_ready.1 hj
    have := (hl j (Array.getElem?_eq_some_iff.1 ho).1).1 h1
    cases this
  | n + 1, L, listed, a, w, hn, hS, h, hp, ht, hu, hl, hlt, hsz => by
    have hready : ∀ i, i ∈ Region.ready md ops listed ↔ i ∈ L ∧ Rdy md ops L i := by
      intro i
      rw [mem_ready]
      constructor
      · rintro ⟨h1, o, ho, hall⟩
        have hi := (Array.getElem?_eq_some_iff.1 ho).1
        refine ⟨(hl i hi).1 h1, fun k hk => ?_⟩
        cases hw : waits md ops i k with
        | false => rfl
        | true =>
          exfalso
          unfold waits at hw
          rw [ho] at hw
          obtain ⟨e, he, hb⟩ := Array.any_eq_true'.1 hw
          simp only [Bool.and_eq_true, beq_iff_eq] at hb
          have h2 := hall e he hb.1
          rw [hb.2] at h2
          have h3 := (hl k (hlt k hk)).2 hk
          have hks : k < listed.size := by rw [hsz]; exact hlt k hk
          simp [hks] at h2 h3
          rw [h2] at h3
          cases h3
      · rintro ⟨hi, hr⟩
        have hilt := hlt i hi
        refine ⟨(hl i hilt).2 hi, ops[i], by simp [hilt], fun e he hb => ?_⟩
        have hne : e.on ∉ L := fun hm => by
          have := waits_of (ops := ops) (md := md) (j := i) (oj := ops[i]) (by simp [hilt]) he hb rfl
          rw [hr _ hm] at this
          cases this
        rcases Nat.lt_or_ge e.on ops.size with h' | h'
        · have h4 : ¬ listed.getD e.on true = false := fun hh => hne ((hl _ h').1 hh)
          have hks : e.on < listed.size := by rw [hsz]; exact h'
          simp [hks] at h4 ⊢
          exact h4
        · exfalso
          have := hc.dir i e.on (waits_of (ops := ops) (md := md) (j := i) (oj := ops[i]) (by simp [hilt]) he hb rfl)
          omega
    refine ⟨fun h0 => ?_, fun i hi => ?_⟩
    · exfalso
      match L, hn, hp with
      | k :: L', _, hp =>
        have : k ∈ Region.ready md ops listed := (hready k).2 ⟨List.mem_cons_self .., fun x hx => by
          cases hw : waits md ops k x with
          | false => rfl
          | true =>
            exfalso
            have hd := hc.dir k x hw
            rcases List.mem_cons.1 hx with rfl | hx
            · omega
            · have := (List.pairwise_cons.1 hp).1 x hx; rw [this.now] at hw; cases hw⟩
        rw [h0] at this
        cases this
    · obtain ⟨hiL, hr⟩ := (hready i).1 hi
      have hilt := hlt i hiL
      obtain ⟨oi, hoi⟩ : ∃ oi, ops[i]? = some oi := ⟨ops[i], by simp [hilt]⟩
      have hlen : (L.erase i).length = n := by rw [List.length_erase_of_mem hiL, hn]; rfl
      have hnd : L.Nodup := hp.imp (fun h => h.ne)
      have hp2 : (L.erase i).Pairwise (RelG cs fr md ops) := hp.sublist List.erase_sublist
      have ht2 : TriG cs fr ops (L.erase i) := ht.sub List.erase_sublist
      have hu2 : UpC md ops (L.erase i) := fun j x hw hx => by
        have hxL := List.mem_of_mem_erase hx
        have hjL := hu j x hw hxL
        have hji : j ≠ i := fun e => by subst e; rw [hr x hxL] at hw; cases hw
        exact (List.mem_erase_of_ne hji).2 hjL
      have hl2 : ∀ j, j < ops.size → ((listed.setIfInBounds i true).getD j true = false ↔ j ∈ L.erase i) := fun j hj => by
        by_cases hji : i = j
        · subst hji
          have : (listed.setIfInBounds i true).getD i true = true := by
            rcases Nat.lt_or_ge i listed.size with h' | h' <;> simp [h']
          rw [this]
          simp [List.Nodup.not_mem_erase hnd]
        · rw [getD_set_ne true hji, hl j hj, List.mem_erase_of_ne (fun e => hji e.symm)]
      have hlt2 : ∀ j ∈ L.erase i, j < ops.size := fun j hj => hlt j (List.mem_of_mem_erase hj)
      have hrec := fun a' w' (hS' : S w') hX => wpAnyH_of_lexG hc n (L.erase i) (listed.setIfInBounds i true) a' w' hlen hS' hX hp2 ht2 hu2 hl2 hlt2 (by simpa using hsz)
      cases hli : liteB cs oi with
      | true =>
        obtain ⟨u, hy, hX⟩ := lexG_light hc n L a w hn hS h hp ht i hiL oi hoi hli hr
        exact hy.wpOp hoi hS ⟨hS, hrec _ _ hS hX⟩
      | false =>
        have hX := lexG_heavy hc n L a w hn hS h hp ht i hiL oi hoi hli hr (fun x hsub ox hox hlx => by
          have hrel := rel_of_sub hp hsub
          rcases hrel.chain hox hoi hlx hli with hh | hh
          · exact (reach_not hu hh (hsub.subset (by simp)) hr).elim
          · exact hh)
        exact wpOp_mono (fun a' w' ⟨hS', hX'⟩ => ⟨hS', hrec _ _ hS' hX'⟩) hX


/-- **THE LAW**. -/
theorem wp_region_lexG (cs : Cls) (fr : List (Nat × Nat)) {id : Nat} {a : Act} {w : World} {l : List Oper} (n : Nat) (L : List Nat) (hL : L.length = n) (hln : l.length = n) (S : World → Prop) (hm : P.follows .mixedOrders = true) (hB : lexChainGB cs fr .any l.toArray L = true) (hS : S w.drew)
    (h : ∀ S' : World → Prop, (∀ x : Wd S', S x.w) → (∀ w', S w' → S' w') → Nonempty (Wd S') → lexG cs fr P l.toArray S' Q n L a w.drew) : (Code.region id l.toArray true).wp P Q a w := by
  refine Code.wp_mono OnlyN.imp (wp_region_any hm ?_)
  obtain ⟨hc, hall, hlt, hp, ht⟩ := chainG_of hB
  have hX := h S (fun x => x.h) (fun _ hh => hh) ⟨⟨w.drew, hS⟩⟩
  have h1 := wpAnyH_of_lexG (md := .any) (P := P) (Q := Q) hc n L (Array.replicate l.toArray.size false) a w.drew hL hS hX hp ht
    (fun j i hw _ => hall j (waits_lt hw)) (fun j hj => by
      have : j < l.length := by simpa using hj
      simp [this, hall j hj]) hlt (by simp)
  have e : n = l.toArray.size := by simpa using hln.symm
  rw [e] at h1
  exact wpAny_of_held _ _ _ _ h1

def opsAt (ops : Array Oper) (L : List Nat) : List Oper := L.filterMap fun k => ops[k]?

theorem lexG_lights {cs : Cls} {fr : List (Nat × Nat)} {n : Nat} {L : List Nat} (j : Nat) (hl : (opsAt ops (L.take j)).all (fun o => lightB o && !heavyB cs.hs o) = true) (hj : (opsAt ops (L.take j)).length = j) {a : Act} {w : World} (h : wpQuiet P ops (InS S) (fun a' => lexG cs fr P ops S Q n (L.drop j) a' w) (opsAt ops (L.take j)) a) : lexG cs fr P ops S Q (n + j) L a w := by
  induction j generalizing L a with
  | zero => simpa [wpQuiet, opsAt] using h
  | succ j ih =>
    cases L with
    | nil => simp [opsAt] at hj
    | cons k L =>
      simp only [List.take_succ_cons, List.drop_succ_cons] at h hl hj
      have hlen : (opsAt ops (L.take j)).length ≤ j := Nat.le_trans (List.length_filterMap_le ..) (List.length_take_le ..)
      cases ho : ops[k]? with
      | none =>
        simp only [opsAt, List.filterMap_cons, ho] at hj hlen
        omega
      | some o =>
        have e : opsAt ops (k :: L.take j) = o :: opsAt ops (L.take j) := by simp [opsAt, ho]
        rw [e] at h hl hj
        simp only [List.all_cons, Bool.and_eq_true, wpQuiet, List.length_cons, Nat.add_right_cancel_iff] at h hl hj
        rw [← Nat.add_assoc]
        refine ⟨o, ho, ?_⟩
        rw [if_pos (by have h1 := hl.1.1; have h2 := hl.1.2; simp only [liteB, h1, Bool.true_or, Bool.true_and]; simpa using h2)]
        by_cases hw : Region.wanted o (yielded ops a.tmps) = true
        · rw [if_pos hw] at h
          obtain ⟨v, hv, hX⟩ := quiet_yields hl.1.1 h
          exact ⟨v, .inl ⟨hw, fun w' hw' => .inl (hv w' hw')⟩, ih hl.2 hj hX⟩
        · rw [if_neg hw] at h
          exact ⟨undef, .inr ⟨by simpa using hw, rfl⟩, ih hl.2 hj h⟩

/-- What follows an operation of the chain. -/
def lexGQ (cs : Cls) (fr : List (Nat × Nat)) (P : Program) (ops : Array Oper) (S : World → Prop) (Q : Exit → Act → World → Prop) (n : Nat) (L : List Nat) : Exit → Act → World → Prop
  | .normal, a, w => S w ∧ lexG cs fr P ops S Q n L a w
  | _, _, _ => False
theorem lexGQ_more {cs : Cls} {fr : List (Nat × Nat)} {n : Nat} {L : List Nat} {a : Act} {w : World} (hS : S w) (h : lexG cs fr P ops S Q n L a w) : lexGQ cs fr P ops S Q n L .normal a w := ⟨hS, h⟩
theorem lexG_done {cs : Cls} {fr : List (Nat × Nat)} {L : List Nat} {a : Act} {w : World} (h : Q .normal a w) : lexG cs fr P ops S Q 0 L a w := h

theorem lexG_step {cs : Cls} {fr : List (Nat × Nat)} {n : Nat} {o : Oper} {L : List Nat} {a : Act} {w : World} (h : wpList P ops (lexGQ cs fr P ops S Q n L) [o] a w) :
    (if Region.wanted o (yielded ops a.tmps) then o.wp P a w (fun a' w' => S w' ∧ lexG cs fr P ops S Q n L a' w') (OnlyN Q) else S w ∧ lexG cs fr P ops S Q n L (a.put o.dst undef) w) := by
  simp only [wpList] at h
  by_cases hw : Region.wanted o (yielded ops a.tmps) = true
  · rw [if_pos hw] at h ⊢
    rcases h with h | ⟨_, _, _, hh⟩
    · refine Oper.wp_mono (K := lexGQ cs fr P ops S Q n L .normal) (fun a w h => h) ?_
      unfold Oper.wp at h ⊢
      generalize (execOp a.eval o).run P w = r at h ⊢
      cases r with
      | ok n w' =>
        cases n <;> simp only [Oper.upon] at h ⊢ <;> first
          | exact h
          | exact h.mono (fun e w'' he => by
              cases e with
              | returned v => exact he
              | panicked c => exact he.elim
              | outgrown => exact absurd he (fun ⟨_, _, hh⟩ => hh))
      | halt x w' => cases x <;> simp only [Oper.upon] at h ⊢ <;> exact h
    · exact hh.elim
  · rw [if_neg hw] at h ⊢
    exact h

theorem lexG_wpOp {cs : Cls} {fr : List (Nat × Nat)} {n : Nat} {L : List Nat} {m : Nat} (hm : (opsAt ops [m]).length = 1) {a : Act} {w : World} (h : wpList P ops (lexGQ cs fr P ops S Q n L) (opsAt ops [m]) a w) :
    wpOp P ops (OnlyN Q) m (fun a' w' => S w' ∧ lexG cs fr P ops S Q n L a' w') a w := by
  cases ho : ops[m]? with
  | none => simp [opsAt, ho] at hm
  | some o =>
    rw [show opsAt ops [m] = [o] by simp [opsAt, ho]] at h
    have h' := lexG_step h
    unfold wpOp
    simp only [ho]
    by_cases hw : Region.wanted o (yielded ops a.tmps) = true
    · rw [if_pos hw] at h' ⊢
      exact .inl h'
    · rw [if_neg hw] at h' ⊢
      exact h'
/-- One operation of the chain, by the kit's walk: none may come ahead of it. -/
theorem lexG_one {cs : Cls} {fr : List (Nat × Nat)} {n k : Nat} {L : List Nat} (hm : mays fr (k :: L) = [k]) (ho : (match ops[k]? with | some o => !liteB cs o | none => false) = true) {a : Act} {w : World} (h : wpList P ops (lexGQ cs fr P ops S Q n L) (opsAt ops [k]) a w) : lexG cs fr P ops S Q (n + 1) (k :: L) a w := by
  cases hk : ops[k]? with
  | none => rw [hk] at ho; cases ho
  | some o =>
    rw [hk] at ho
    refine ⟨o, hk, ?_⟩
    rw [if_neg (by simpa using ho)]
    intro m hmy
    have hmm := mem_mays hmy
    rw [hm, List.mem_singleton] at hmm
    subst hmm
    rw [List.erase_cons_head]
    exact lexG_wpOp (by simp [opsAt, hk]) h
/-- Two may come first. -/
theorem lexG_two {cs : Cls} {fr : List (Nat × Nat)} {n k m : Nat} {L R : List Nat} (hm : mays fr (k :: L) = [k, m]) (hR : (k :: L).erase m = R) (ho : (match ops[k]? with | some o => !liteB cs o | none => false) = true) (ho2 : (opsAt ops [m]).length = 1) {a : Act} {w : World}
    (h1 : wpList P ops (lexGQ cs fr P ops S Q n L) (opsAt ops [k]) a w) (h2 : wpList P ops (lexGQ cs fr P ops S Q n R) (opsAt ops [m]) a w) : lexG cs fr P ops S Q (n + 1) (k :: L) a w := by
  cases hk : ops[k]? with
  | none => rw [hk] at ho; cases ho
  | some o =>
    rw [hk] at ho
    refine ⟨o, hk, ?_⟩
    rw [if_neg (by simpa using ho)]
    intro x hmy
    have hmm := mem_mays hmy
    rw [hm, List.mem_cons, List.mem_singleton] at hmm
    rcases hmm with rfl | rfl
    · rw [List.erase_cons_head]
      exact lexG_wpOp (by simp [opsAt, hk]) h1
    · rw [hR]
      exact lexG_wpOp ho2 h2

end

end Go.Proofs.YtbefkkefglkleaaDoor
