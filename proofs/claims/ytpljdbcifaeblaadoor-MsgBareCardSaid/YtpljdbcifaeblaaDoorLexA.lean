/- Fresh variables whose order is drawn: what stands behind them is walked once, over blocks of their own. -/
import Derived.Test.YtpljdbcifaeblaaDoorLexG
import Derived.Test.YtpljdbcifaeblaaDoorMods
namespace Go.Proofs.YtpljdbcifaeblaaDoor
open Go Go.RowKit

section
variable {P : Program} {ops : Array Oper} {S : World → Prop} {Q : Exit → Act → World → Prop}

theorem wpList_alloc {Q : Exit → Act → World → Prop} {o : Oper} {rest : List Oper} {a : Act} {w : World} (hgd : o.guard = none) (T : TypeId) (zs : Array Value) (ho : o.op = .alloc T)
    (hz : ∀ w, (Instr.alloc T true (.tuple #[])).run P w = .ok (.pointer (some ⟨w.heap.size, 0, none⟩)) (w.alloc (.cells zs T)))
    (h : wpList P ops Q rest (a.put o.dst (.pointer (some ⟨w.heap.size, 0, none⟩))) (w.alloc (.cells zs T))) : wpList P ops Q (o :: rest) a w :=
  wpList_plain hgd fun _ hK => by
    unfold Oper.wp execOp
    simp only [ho, Sem.run_bind, hz, Result.andThen_ok]
    exact hK _ _ h

/-- Each variable's pointer. -/
def putAll (d : Nat → Tmp) (g : Nat → Nat) : List Nat → Act → Act
  | [], a => a
  | p :: K, a => putAll d g K (a.put (some (d p)) (.pointer (some ⟨g p, 0, none⟩)))
theorem putAll_congr {d : Nat → Tmp} {g g' : Nat → Nat} : ∀ {K : List Nat} {a : Act}, (∀ p ∈ K, g p = g' p) → putAll d g K a = putAll d g' K a
  | [], _, _ => rfl
  | p :: K, a, h => by
    simp only [putAll]
    rw [h p (List.mem_cons_self ..)]
    exact putAll_congr fun q hq => h q (List.mem_cons_of_mem _ hq)
theorem putAll_erase {d : Nat → Tmp} {g : Nat → Nat} {m : Nat} : ∀ {K : List Nat} {a : Act}, m ∈ K → (∀ p ∈ K, d p = d m → p = m) → putAll d g K a = putAll d g (K.erase m) (a.put (some (d m)) (.pointer (some ⟨g m, 0, none⟩)))
  | [], _, h, _ => by cases h
  | p :: K, a, h, hd => by
    by_cases hp : p = m
    · subst hp
      rw [List.erase_cons_head]
      rfl
    · have hm : m ∈ K := (List.mem_cons.1 h).resolve_left fun e => hp e.symm
      rw [List.erase_cons_tail (by simpa using hp)]
      simp only [putAll]
      rw [putAll_erase hm fun q hq => hd q (List.mem_cons_of_mem _ hq)]
      rw [Act.put_comm _ _ _ fun x hx hy => hp (hd p (List.mem_cons_self ..) (by rw [Option.some.inj hx, Option.some.inj hy]))]

/-- THE LAW: a row of fresh variables at the head, in whichever order they come. -/
theorem lexG_allocs {cs : Cls} {fr : List (Nat × Nat)} (T : TypeId) (zs : Array Value) (hz : ∀ w, (Instr.alloc T true (.tuple #[])).run P w = .ok (.pointer (some ⟨w.heap.size, 0, none⟩)) (w.alloc (.cells zs T)))
    (d : Nat → Tmp) (hSa : ∀ w, S w → S (w.alloc (.cells zs T))) (R : List Nat) (n : Nat) : ∀ (N : Nat) (K : List Nat) (a : Act) (w : World), K.length = N →
    (∀ p ∈ K, ∃ o, ops[p]? = some o ∧ o.op = .alloc T ∧ o.dst = some (d p) ∧ o.guard = none ∧ liteB cs o = false) → K.Nodup → (∀ p ∈ K, ∀ q ∈ K, d p = d q → p = q) → (∀ x ∈ K, ∀ m ∈ R, frB fr x m = false) → S w →
    (∀ (g : Nat → Nat) (V : World), S V → Below w.heap.size w V → (∀ p ∈ K, w.heap.size ≤ g p ∧ V.heap[g p]? = some (.cells zs T (0, 0))) → (∀ p ∈ K, ∀ q ∈ K, g p = g q → p = q) → lexG cs fr P ops S Q n R (putAll d g K a) V) →
    lexG cs fr P ops S Q (N + n) (K ++ R) a w
  | 0, K, a, w, hN, _, _, _, _, hS, h => by
    obtain rfl : K = [] := List.eq_nil_of_length_eq_zero hN
    have := h (fun _ => 0) w hS (Below.refl _ _) (fun p hp => by cases hp) (fun p hp => by cases hp)
    rw [Nat.zero_add]
    exact this
  | N + 1, [], _, _, hN, _, _, _, _, _, _ => by simp at hN
  | N + 1, k :: K, a, w, hN, hK, hnd, hd, hfr, hS, h => by
    obtain ⟨ok, hok, _, _, _, hlt⟩ := hK k (List.mem_cons_self ..)
    rw [show N + 1 + n = (N + n) + 1 by omega, List.cons_append]
    refine ⟨ok, hok, ?_⟩
    rw [if_neg (by simp [hlt])]
    intro m hm
    have hmK : m ∈ k :: K := by
      rcases hm with hm | ⟨hm1, hm2⟩
      · rw [← hm]; exact List.mem_cons_self ..
      · rcases List.mem_append.1 (may_mem hm2) with h1 | h1
        · exact List.mem_cons_of_mem _ h1
        · rw [hfr k (List.mem_cons_self ..) m h1] at hm1; cases hm1
    obtain ⟨om, hom, hop, hdst, hgd, _⟩ := hK m hmK
    refine lexG_wpOp (by simp [opsAt, hom]) ?_
    rw [show opsAt ops [m] = [om] by simp [opsAt, hom]]
    refine wpList_alloc hgd T zs hop hz ?_
    have hS1 := hSa w hS
    refine lexGQ_more hS1 ?_
    rw [← List.cons_append, List.erase_append_left _ hmK, hdst]
    have hb : Below w.heap.size w (w.alloc (.cells zs T)) := (Below.refl _ _).alloc (Nat.le_refl _) _
    have hsz : (w.alloc (.cells zs T)).heap.size = w.heap.size + 1 := by simp
    have hmem : ∀ p, p ∈ (k :: K).erase m → p ∈ k :: K ∧ p ≠ m := fun p hp => ⟨List.mem_of_mem_erase hp, fun e => by subst e; exact List.Nodup.not_mem_erase hnd hp⟩
    refine lexG_allocs T zs hz d hSa R n N ((k :: K).erase m) _ _ (by rw [List.length_erase_of_mem hmK, hN]; rfl) (fun p hp => hK p (hmem p hp).1) (hnd.erase m) (fun p hp q hq => hd p (hmem p hp).1 q (hmem q hq).1) (fun x hx => hfr x (hmem x hx).1) hS1 ?_
    intro g V hSV hbV hg hinj
    have e := h (fun p => if p = m then w.heap.size else g p) V hSV (hb.trans (hbV.mono (by omega))) ?_ ?_
    · rw [putAll_erase hmK fun p hp => hd p hp m hmK] at e
      simp only [if_true] at e
      rw [putAll_congr (g' := g) fun p hp => if_neg (hmem p hp).2] at e
      exact e
    · intro p hp
      by_cases hpm : p = m
      · subst hpm
        simp only [if_true]
        exact ⟨Nat.le_refl _, (hbV.block w.heap.size (by omega)).trans (heap_alloc_new _ _)⟩
      · simp only [if_neg hpm]
        have := hg p ((List.mem_erase_of_ne hpm).2 hp)
        exact ⟨by omega, this.2⟩
    · intro p hp q hq
      by_cases hpm : p = m
      · by_cases hqm : q = m
        · intro _; rw [hpm, hqm]
        · simp only [if_pos hpm, if_neg hqm]
          have := (hg q ((List.mem_erase_of_ne hqm).2 hq)).1
          intro e; omega
      · by_cases hqm : q = m
        · simp only [if_neg hpm, if_pos hqm]
          have := (hg p ((List.mem_erase_of_ne hpm).2 hp)).1
          intro e; omega
        · simp only [if_neg hpm, if_neg hqm]
          exact hinj p ((List.mem_erase_of_ne hpm).2 hp) q ((List.mem_erase_of_ne hqm).2 hq)
end

end Go.Proofs.YtpljdbcifaeblaaDoor
