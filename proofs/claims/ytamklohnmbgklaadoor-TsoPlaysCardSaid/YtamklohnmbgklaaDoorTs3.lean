/- The memory model: New. -/
import Derived.Test.YtamklohnmbgklaaDoorTs2
import Derived.RegionTactic
import Derived.Deep.OwnRows
namespace Go.Proofs.YtamklohnmbgklaaDoor
open Go.RowKit Go.Extern.Stop Go.Stop Go.Extern

def tnT : ByteArray := ⟨#[116, 115, 111, 46, 78, 101, 119]⟩
theorem nInfoSP : (Tryd.prog.info? 92).map (fun i => (i.zero, i.size, i.bytes)) = some (some (.slice none 0 0), 1, 24) := by kernel_rfl
theorem nInfoSR : (Tryd.prog.info? 73).map (fun i => (i.zero, i.size, i.bytes)) = some (some (.slice none 0 0), 1, 24) := by kernel_rfl
theorem nInfoU : (Tryd.prog.info? 22).map (fun i => (i.zero, i.size, i.bytes)) = some (some (.int .u32 0), 1, 4) := by kernel_rfl

theorem three_blk (w : World) (o1 o2 o3 : Obj) : ((((w.alloc o1).alloc o2).alloc o3).drew).heap[w.heap.size]? = some o1 ∧ ((((w.alloc o1).alloc o2).alloc o3).drew).heap[w.heap.size + 1]? = some o2 ∧ ((((w.alloc o1).alloc o2).alloc o3).drew).heap[w.heap.size + 1 + 1]? = some o3 := by
  have e : (((w.alloc o1).alloc o2).alloc o3).drew.heap = ((w.heap.push o1).push o2).push o3 := rfl
  rw [e]
  simp only [Array.getElem?_push, Array.size_push]
  refine ⟨?_, ?_, ?_⟩
  · rw [if_neg (by omega), if_neg (by omega), if_pos trivial]
  · rw [if_neg (by omega), if_pos trivial]
  · rw [if_pos trivial]
theorem md_fresh (T : MdT) (W : World) (lo gB gM b n m : Nat) (hB : W.heap[gB]? = some (.cells (madeCells #[.slice none 0 0] n) T.tS (0, 0))) (hM : W.heap[gM]? = some (.cells (madeCells #[.int .u32 0] m) 22 (0, 0)))
    (hb : W.heap[b]? = some (.cells #[.slice (some ⟨gB, 0, none⟩) n n, .slice (some ⟨gM, 0, none⟩) m m] T.tM (0, 0))) (l1 : lo ≤ gB) (l2 : lo ≤ gM) (l3 : lo ≤ b) (hn : n ≤ 64) (hm : m ≤ 128) :
    ∃ F, Md T W lo b F (List.replicate n []) (List.replicate m 0) := by
  have eB : (madeCells #[Value.slice none 0 0] n).toList = List.replicate n (.slice none 0 0) := toList_madeCells_one _ _
  have eM : (madeCells #[Value.int .u32 0] m).toList = List.replicate m (.int .u32 0) := toList_madeCells_one _ _
  have h : MdAt T W lo b (.slice (some ⟨gB, 0, none⟩) n n) (.slice (some ⟨gM, 0, none⟩) m m) (List.replicate n (.slice none 0 0)) (List.replicate n []) (List.replicate m 0) := by
    refine ⟨hb, l3, ⟨by simp, .inr ⟨gB, 0, n, _, by simp, l1, hB, by simp, by unfold maxLen; omega, by rw [size_madeCells]; omega, ?_⟩⟩, ⟨by simp [u32V], .inr ⟨gM, 0, m, _, by simp, l2, hM, by simp, by unfold maxLen; omega, by rw [size_madeCells]; omega, ?_⟩⟩, fun i v L hv hL => ?_, fun i j u v g hij hu hv hg => ?_⟩
    · rw [eB]
      simp
    · rw [eM]
      simp [u32V]
    · rw [List.getElem?_replicate] at hv hL
      split at hv
      · rename_i hi
        rw [if_pos hi] at hL
        obtain rfl := Option.some.inj hv
        obtain rfl := Option.some.inj hL
        exact winRow_nil ..
      · cases hv
    · rw [List.getElem?_replicate] at hu
      split at hu
      · obtain rfl := Option.some.inj hu
        cases hg
      · cases hu
  exact ⟨_, _, _, _, h, rfl⟩

set_option maxRecDepth 100000 in
set_option maxHeartbeats 2000000 in
theorem tnew_ok (n m : Nat) (w : World) (h1 : 1 ≤ n) (h2 : n ≤ 64) (h3 : 1 ≤ m) (h4 : m ≤ 128) :
    Calls Tryd.prog 25 #[.int .i64 n, .int .i64 m] w fun ev w' => ∃ b, ev = .returned (.tuple #[.pointer (some ⟨b, 0, none⟩), .nilIface]) ∧ (∃ F, Md tyP w' w.heap.size b F (List.replicate n []) (List.replicate m 0)) ∧ Below w.heap.size w w' := by
  have a1 : decide ((n : Int) < 1) = false := by simp; omega
  have a2 : decide ((n : Int) > 64) = false := by simp; omega
  have a3 : decide ((m : Int) < 1) = false := by simp; omega
  have a4 : decide ((m : Int) > 128) = false := by simp; omega
  go_enter Tryd.func25, Tryd.ntmps25
  go_wp2_with fail
  have hm1 : ∀ w : World, (Instr.makeSlice 88 (.int .i64 n) (.int .i64 n)).run Tryd.prog w = .ok (.slice (some ⟨w.heap.size, 0, none⟩) n n) (w.alloc (.cells (madeCells #[.slice none 0 0] n) 92)) := fun w => run_make_row' _ _ _ 24 Tryd.underlying88 nInfoSP rfl .i64 .i64 n (by omega) (by omega) w
  have hm2 : ∀ w : World, (Instr.makeSlice 27 (.int .i64 m) (.int .i64 m)).run Tryd.prog w = .ok (.slice (some ⟨w.heap.size, 0, none⟩) m m) (w.alloc (.cells (madeCells #[.int .u32 0] m) 22)) := fun w => run_make_row' _ _ _ 4 Tryd.underlying27 nInfoU rfl .i64 .i64 m (by omega) (by omega) w
  go_region
  all_goals (go_wp2)
  all_goals
    go_ret2
    refine ⟨_, rfl, ?_, ((((Below.refl _ _).alloc (Nat.le_refl _) _).alloc (by simp) _).alloc (by simp; omega) _).drew⟩
  · exact md_fresh tyP _ _ w.heap.size (w.heap.size + 1) _ n m (three_blk w _ _ _).1 (three_blk w _ _ _).2.1 (three_blk w _ _ _).2.2 (by omega) (by omega) (by omega) h2 h4
  · exact md_fresh tyP _ _ (w.heap.size + 1) w.heap.size _ n m (three_blk w _ _ _).2.1 (three_blk w _ _ _).1 (three_blk w _ _ _).2.2 (by omega) (by omega) (by omega) h2 h4

set_option maxRecDepth 100000 in
set_option maxHeartbeats 2000000 in
theorem mnew_ok (n m : Nat) (w : World) (h1 : 1 ≤ n) (h2 : n ≤ 64) (h3 : 1 ≤ m) (h4 : m ≤ 128) :
    Calls Tryd.prog 19 #[.int .i64 n, .int .i64 m] w fun ev w' => ∃ b, ev = .returned (.tuple #[.pointer (some ⟨b, 0, none⟩), .int .i64 0]) ∧ (∃ F, Md tyR w' w.heap.size b F (List.replicate n []) (List.replicate m 0)) ∧ Below w.heap.size w w' := by
  have a1 : decide ((n : Int) < 1) = false := by simp; omega
  have a2 : decide ((n : Int) > 64) = false := by simp; omega
  have a3 : decide ((m : Int) < 1) = false := by simp; omega
  have a4 : decide ((m : Int) > 128) = false := by simp; omega
  go_enter Tryd.func19, Tryd.ntmps19
  go_wp2_with fail
  have hm1 : ∀ w : World, (Instr.makeSlice 69 (.int .i64 n) (.int .i64 n)).run Tryd.prog w = .ok (.slice (some ⟨w.heap.size, 0, none⟩) n n) (w.alloc (.cells (madeCells #[.slice none 0 0] n) 73)) := fun w => run_make_row' _ _ _ 24 Tryd.underlying69 nInfoSR rfl .i64 .i64 n (by omega) (by omega) w
  have hm2 : ∀ w : World, (Instr.makeSlice 27 (.int .i64 m) (.int .i64 m)).run Tryd.prog w = .ok (.slice (some ⟨w.heap.size, 0, none⟩) m m) (w.alloc (.cells (madeCells #[.int .u32 0] m) 22)) := fun w => run_make_row' _ _ _ 4 Tryd.underlying27 nInfoU rfl .i64 .i64 m (by omega) (by omega) w
  go_region
  all_goals (go_wp2)
  all_goals
    go_ret2
    refine ⟨_, rfl, ?_, ((((Below.refl _ _).alloc (Nat.le_refl _) _).alloc (by simp) _).alloc (by simp; omega) _).drew⟩
  · exact md_fresh tyR _ _ w.heap.size (w.heap.size + 1) _ n m (three_blk w _ _ _).1 (three_blk w _ _ _).2.1 (three_blk w _ _ _).2.2 (by omega) (by omega) (by omega) h2 h4
  · exact md_fresh tyR _ _ (w.heap.size + 1) w.heap.size _ n m (three_blk w _ _ _).2.1 (three_blk w _ _ _).1 (three_blk w _ _ _).2.2 (by omega) (by omega) (by omega) h2 h4

/-- The configuration's numbers, where they may be. -/
abbrev okN (n m : Int) : Prop := (1 ≤ n ∧ n ≤ 64) ∧ 1 ≤ m ∧ m ≤ 128
def tnewE (n m : Int) : ErrT := if okN n m then .nil else .wrap tnT (if 1 ≤ n ∧ n ≤ 64 then 1 else 0) (.sent 0)

theorem tnew_bad (A : Nat → Addr) (n m : Int) (w : World) (hs : SentAt w A) (h : ¬ okN n m) :
    Calls Tryd.prog 25 #[.int .i64 n, .int .i64 m] w fun ev w' => ev = .returned (.tuple #[.pointer none, (tnewE n m).val A]) ∧ w = w' := by
  have hg := hs.glob 0 (by omega)
  simp only [gnum] at hg
  unfold okN at h
  by_cases hn : 1 ≤ n ∧ n ≤ 64
  · have hE : tnewE n m = .wrap tnT 1 (.sent 0) := by unfold tnewE okN; rw [if_neg h, if_pos hn]
    rw [hE]
    have a1 : decide (n < 1) = false := by simp; omega
    have a2 : decide (n > 64) = false := by simp; omega
    by_cases hm : m < 1
    · have a3 : decide (m < 1) = true := by simpa using hm
      clear hE h hn hm
      go_enter Tryd.func25, Tryd.ntmps25
      go_wp2_with fail
      refine (wrap_c A tnT 1 (.sent 0) w).mono ?_
      rintro e w' ⟨rfl, rfl⟩
      go_wp2_with fail
      go_ret2
      exact ⟨rfl, rfl⟩
    · have a3 : decide (m < 1) = false := by simpa using hm
      have a4 : decide (m > 128) = true := by simp; omega
      clear hE h hn hm
      go_enter Tryd.func25, Tryd.ntmps25
      go_wp2_with fail
      refine (wrap_c A tnT 1 (.sent 0) w).mono ?_
      rintro e w' ⟨rfl, rfl⟩
      go_wp2_with fail
      go_ret2
      exact ⟨rfl, rfl⟩
  · have hE : tnewE n m = .wrap tnT 0 (.sent 0) := by unfold tnewE okN; rw [if_neg h, if_neg hn]
    rw [hE]
    by_cases hm : n < 1
    · have a3 : decide (n < 1) = true := by simpa using hm
      clear hE h hn hm
      go_enter Tryd.func25, Tryd.ntmps25
      go_wp2_with fail
      refine (wrap_c A tnT 0 (.sent 0) w).mono ?_
      rintro e w' ⟨rfl, rfl⟩
      go_wp2_with fail
      go_ret2
      exact ⟨rfl, rfl⟩
    · have a3 : decide (n < 1) = false := by simpa using hm
      have a4 : decide (n > 64) = true := by simp; omega
      clear hE h hn hm
      go_enter Tryd.func25, Tryd.ntmps25
      go_wp2_with fail
      refine (wrap_c A tnT 0 (.sent 0) w).mono ?_
      rintro e w' ⟨rfl, rfl⟩
      go_wp2_with fail
      go_ret2
      exact ⟨rfl, rfl⟩

theorem mnew_bad (n m : Int) (w : World) (h : ¬ okN n m) :
    Calls Tryd.prog 19 #[.int .i64 n, .int .i64 m] w fun ev w' => ev = .returned (.tuple #[.pointer none, .int .i64 1]) ∧ w = w' := by
  unfold okN at h
  by_cases h1 : n < 1
  · have a1 : decide (n < 1) = true := by simpa using h1
    go_enter Tryd.func19, Tryd.ntmps19
    go_wp2_with fail
    go_ret2
    exact ⟨rfl, rfl⟩
  · have a1 : decide (n < 1) = false := by simpa using h1
    by_cases h2 : n > 64
    · have a2 : decide (n > 64) = true := by simpa using h2
      go_enter Tryd.func19, Tryd.ntmps19
      go_wp2_with fail
      go_ret2
      exact ⟨rfl, rfl⟩
    · have a2 : decide (n > 64) = false := by simpa using h2
      by_cases h3 : m < 1
      · have a3 : decide (m < 1) = true := by simpa using h3
        go_enter Tryd.func19, Tryd.ntmps19
        go_wp2_with fail
        go_ret2
        exact ⟨rfl, rfl⟩
      · have a3 : decide (m < 1) = false := by simpa using h3
        have a4 : decide (m > 128) = true := by simp; omega
        go_enter Tryd.func19, Tryd.ntmps19
        go_wp2_with fail
        go_ret2
        exact ⟨rfl, rfl⟩

end Go.Proofs.YtamklohnmbgklaaDoor
