/- fault.Any at a row of errors; fault.Find. -/
import Derived.Test.YteljpfbfkpdchaaDoorFlt2
import Derived.Handy
namespace Go.Proofs.YteljpfbfkpdchaaDoor
open Go.RowKit Go.Extern.Stop Go.Stop Go.Extern

/-- The place of the first sentinel of a row (by its number) that is found. -/
def anyF (e : ErrT) (l : List Nat) : Int := match l.findIdx? (fun c => isB e c) with
  | some i => i
  | none => -1

theorem anyF_some {e : ErrT} {l : List Nat} {k c : Nat} (hk : l[k]? = some c) (hb : isB e c = true) (hj : ∀ j d : Nat, j < k → l[j]? = some d → isB e d = false) : anyF e l = k := by
  unfold anyF
  have hlt := (List.getElem?_eq_some_iff.1 hk).1
  have : l.findIdx? (fun c => isB e c) = some k := by
    rw [List.findIdx?_eq_some_iff_getElem]
    refine ⟨hlt, by rw [(List.getElem?_eq_some_iff.1 hk).2]; exact hb, fun j hjk => ?_⟩
    have := hj j _ hjk (List.getElem?_eq_getElem (by omega))
    simp [this]
  rw [this]
theorem anyF_none {e : ErrT} {l : List Nat} (hj : ∀ j d : Nat, l[j]? = some d → isB e d = false) : anyF e l = -1 := by
  unfold anyF
  have : l.findIdx? (fun c => isB e c) = none := by
    rw [List.findIdx?_eq_none_iff]
    intro x hx
    obtain ⟨j, hjx⟩ := List.getElem?_of_mem hx
    exact hj j x hjx
  rw [this]

set_option maxHeartbeats 1000000 in
theorem any_c (A : Nat → Addr) (K : Nat → Prop) (e : ErrT) (l : List Nat) (v : Value) (w : World) (hs : SentC w A K) (hw : e.wf) (hr : e.rootIn K) (hl : ∀ c ∈ l, K c) (hlen : l.length ≤ 1000)
    (hv : (l = [] ∧ v = .slice none 0 0) ∨ ∃ g cap, v = .slice (some ⟨g, 0, none⟩) l.length cap ∧ g < w.heap.size ∧ ∀ k c, l[k]? = some c → w.cell? ⟨g, k, none⟩ = some ((ErrT.sent c).val A)) :
    Calls Tryd.prog 35 #[e.val A, v] w fun ev w' => ev = .returned (.int .i64 (anyF e l)) ∧ Below w.heap.size w w' := by
  rcases hv with ⟨rfl, rfl⟩ | ⟨g, cap, rfl, hgl, hcells⟩
  · go_enter Tryd.func35, Tryd.ntmps35
    go_wp2_with fail
    go_loopw [9] (fun i wr => i = .int .i64 0 ∧ wr = w) (fun _ _ => 0)
    case atStart => exact ⟨rfl, rfl⟩
    case round =>
      obtain ⟨rfl, rfl⟩ := hrel
      go_wp2_with fail
      go_ret
      exact ⟨rfl, Below.refl _ _⟩
  · go_enter Tryd.func35, Tryd.ntmps35
    go_wp2_with fail
    go_loopw [9] (fun i wr => ∃ k : Nat, k ≤ l.length ∧ i = .int .i64 k ∧ (∀ j d : Nat, j < k → l[j]? = some d → isB e d = false) ∧ Below w.heap.size w wr) (fun i _ => l.length - (intOf i).toNat)
    case atStart => exact ⟨0, by omega, rfl, fun j d hj => by omega, Below.refl _ _⟩
    case round =>
      obtain ⟨k, hk, rfl, hall, hB⟩ := hrel
      have HALL := Lib.hid hall
      have HL := Lib.hid hl
      have HC := Lib.hid hcells
      clear hall hl hcells
      by_cases hkl : k < l.length
      · have hkc : l[k]? = some l[k] := List.getElem?_eq_getElem hkl
        have hc : wr.cell? ⟨g, k, none⟩ = some (.iface 120 (.pointer (some (A l[k])))) := (hB.cell (p := ⟨g, k, none⟩) hgl).trans (HC.out k _ hkc)
        have hl10 := HL.out _ (List.mem_of_getElem? hkc)
        have HKC := Lib.hid hkc
        clear hkc
        generalize l[k] = c at *
        go_wp2_with fail
        refine (errIsC A K e c wr (hs.below hB) hw hr hl10).mono ?_
        rintro ev w2 ⟨rfl, hB2⟩
        have hB3 := hB.trans (hB2.mono hB.size)
        clear hB2 hc
        cases hb : isB e c with
        | true =>
          go_wp2_with fail
          go_ret
          exact ⟨by rw [anyF_some HKC.out hb HALL.out]; rfl, hB3⟩
        | false =>
          go_wp2_with fail
          go_roundw
          case rel =>
            refine ⟨k + 1, by omega, by go_num, fun j d hj hd => ?_, hB3⟩
            rcases Nat.lt_succ_iff_lt_or_eq.1 hj with h | rfl
            · exact HALL.out j d h hd
            · rw [HKC.out] at hd
              rw [← Option.some.inj hd]
              exact hb
          case measure => simp [intOf]; omega
      · have hk' : k = l.length := by omega
        subst hk'
        go_wp2_with fail
        go_ret
        exact ⟨by rw [anyF_none fun j d hd => HALL.out j d (List.getElem?_eq_some_iff.1 hd).1 hd]; rfl, hB⟩

/-- What fault.Find answers. -/
def ErrT.found (A : Nat → Addr) : ErrT → Value
  | .wrap op i e => .agg #[.string op, .int .i64 i, e.val A]
  | _ => .agg #[.string ⟨#[]⟩, .int .i64 0, .nilIface]

set_option maxRecDepth 100000 in
set_option maxHeartbeats 2000000 in
theorem find_c (A : Nat → Addr) (K : Nat → Prop) (e : ErrT) (w : World) (hs : SentC w A K) (hw : e.wf) :
    Calls Tryd.prog 30 #[e.val A] w fun ev w' => ev = .returned (.tuple #[e.found A, .bool e.isWrap]) ∧ Below w.heap.size w w' := by
  have hb2 : Below w.heap.size w ((w.alloc (.cells #[.string ⟨#[]⟩, .int .i64 0, .nilIface] 63)).alloc (.cells #[.string ⟨#[]⟩, .int .i64 0, .nilIface] 63)) := ((Below.refl _ _).alloc (Nat.le_refl _) _).alloc (by simp) _
  have hz2 : ((w.alloc (.cells #[.string ⟨#[]⟩, .int .i64 0, .nilIface] 63)).alloc (.cells #[.string ⟨#[]⟩, .int .i64 0, .nilIface] 63)).heap.size = w.heap.size + 2 := by simp
  have hh1 : ((w.alloc (.cells #[.string ⟨#[]⟩, .int .i64 0, .nilIface] 63)).alloc (.cells #[.string ⟨#[]⟩, .int .i64 0, .nilIface] 63)).heap[w.heap.size]? = some (.cells #[.string ⟨#[]⟩, .int .i64 0, .nilIface] 63) := by
    rw [Below.heap_alloc _ _ _ (by simp)]
    exact Array.getElem?_push_size ..
  have hh2 : ((w.alloc (.cells #[.string ⟨#[]⟩, .int .i64 0, .nilIface] 63)).alloc (.cells #[.string ⟨#[]⟩, .int .i64 0, .nilIface] 63)).heap[w.heap.size + 1]? = some (.cells #[.string ⟨#[]⟩, .int .i64 0, .nilIface] 63) := by
    have := Array.getElem?_push_size (xs := (w.alloc (.cells #[.string ⟨#[]⟩, .int .i64 0, .nilIface] 63)).heap) (x := Obj.cells #[.string ⟨#[]⟩, .int .i64 0, .nilIface] 63)
    simp only [World.size_alloc] at this
    exact this
  generalize hv : e.val A = v
  go_enter Tryd.func30, Tryd.ntmps30
  go_wp2_with fail
  generalize (w.alloc (.cells #[.string ⟨#[]⟩, .int .i64 0, .nilIface] 63)).alloc (.cells #[.string ⟨#[]⟩, .int .i64 0, .nilIface] 63) = W at hb2 hz2 hh1 hh2 ⊢
  rw [← hv]
  refine (errAsC A K e (w.heap.size + 1) _ W (hs.below hb2) hw hh2 rfl).mono ?_
  rintro ev w2 ⟨rfl, hP⟩
  have hB : Below w.heap.size w w2 := hb2.trans ((hP.below (by omega)).mono (by omega))
  have h1 := (hP.block w.heap.size (by omega) (by omega)).trans hh1
  have h2 := hP.tgt
  have HB := Lib.hid hB
  have HV := Lib.hid hv
  have c0 : w2.cell? ⟨w.heap.size, 0, none⟩ = some (.string ⟨#[]⟩) := by simp [World.cell?, h1]
  have c1 : w2.cell? ⟨w.heap.size, 1, none⟩ = some (.int .i64 0) := by simp [World.cell?, h1]
  have c2 : w2.cell? ⟨w.heap.size, 2, none⟩ = some .nilIface := by simp [World.cell?, h1]
  have z0 : w2.frozen? ⟨w.heap.size, 0, none⟩ = false := by simp [World.frozen?, h1]
  have z1 : w2.frozen? ⟨w.heap.size, 1, none⟩ = false := by simp [World.frozen?, h1]
  have z2 : w2.frozen? ⟨w.heap.size, 2, none⟩ = false := by simp [World.frozen?, h1]
  clear hb2 hz2 hh1 hh2 hP hB hs
  rw [hv]
  have H1 := Lib.hid h1
  clear h1
  cases e with
  | nil =>
    clear h2 hv
    simp only [ErrT.isWrap]
    go_wp2_with fail
    have hX := heap_setCell_at (k := 2) (heap_setCell_at (k := 1) (heap_setCell_at (k := 0) H1.out (.string ⟨#[]⟩)) (.int .i64 0)) (.nilIface)
    have hBX := ((HB.out.setCell (p := ⟨w.heap.size, 0, none⟩) (Nat.le_refl _) (.string ⟨#[]⟩)).setCell (p := ⟨w.heap.size, 1, none⟩) (Nat.le_refl _) (.int .i64 0)).setCell (p := ⟨w.heap.size, 2, none⟩) (Nat.le_refl _) (.nilIface)
    generalize ((w2.setCell ⟨w.heap.size, 0, none⟩ (.string ⟨#[]⟩)).setCell ⟨w.heap.size, 1, none⟩ (.int .i64 0)).setCell ⟨w.heap.size, 2, none⟩ (.nilIface) = X at hX hBX ⊢
    have x0 : X.cell? ⟨w.heap.size, 0, none⟩ = some (.string ⟨#[]⟩) := by simp [World.cell?, hX]
    have x1 : X.cell? ⟨w.heap.size, 1, none⟩ = some (.int .i64 0) := by simp [World.cell?, hX]
    have x2 : X.cell? ⟨w.heap.size, 2, none⟩ = some (.nilIface) := by simp [World.cell?, hX]
    refine bodyPost_ret_by (v := .tuple #[.agg #[.string ⟨#[]⟩, .int .i64 0, .nilIface], .bool false]) (by simp [results, Tryd.results30, x0, x1, x2, go_sem]) rfl ?_
    exact ⟨rfl, hBX⟩
  | sent k =>
    clear h2 hv
    simp only [ErrT.isWrap]
    go_wp2_with fail
    have hX := heap_setCell_at (k := 2) (heap_setCell_at (k := 1) (heap_setCell_at (k := 0) H1.out (.string ⟨#[]⟩)) (.int .i64 0)) (.nilIface)
    have hBX := ((HB.out.setCell (p := ⟨w.heap.size, 0, none⟩) (Nat.le_refl _) (.string ⟨#[]⟩)).setCell (p := ⟨w.heap.size, 1, none⟩) (Nat.le_refl _) (.int .i64 0)).setCell (p := ⟨w.heap.size, 2, none⟩) (Nat.le_refl _) (.nilIface)
    generalize ((w2.setCell ⟨w.heap.size, 0, none⟩ (.string ⟨#[]⟩)).setCell ⟨w.heap.size, 1, none⟩ (.int .i64 0)).setCell ⟨w.heap.size, 2, none⟩ (.nilIface) = X at hX hBX ⊢
    have x0 : X.cell? ⟨w.heap.size, 0, none⟩ = some (.string ⟨#[]⟩) := by simp [World.cell?, hX]
    have x1 : X.cell? ⟨w.heap.size, 1, none⟩ = some (.int .i64 0) := by simp [World.cell?, hX]
    have x2 : X.cell? ⟨w.heap.size, 2, none⟩ = some (.nilIface) := by simp [World.cell?, hX]
    refine bodyPost_ret_by (v := .tuple #[.agg #[.string ⟨#[]⟩, .int .i64 0, .nilIface], .bool false]) (by simp [results, Tryd.results30, x0, x1, x2, go_sem]) rfl ?_
    exact ⟨rfl, hBX⟩
  | wrap op i e2 =>
    obtain ⟨t2, u2, hev2⟩ := e2.val_iface A hw.1
    simp only [hev2] at h2
    have d0 : w2.cell? ⟨w.heap.size + 1, 0, none⟩ = some (.string op) := by simp [World.cell?, h2]
    have d1 : w2.cell? ⟨w.heap.size + 1, 1, none⟩ = some (.int .i64 i) := by simp [World.cell?, h2]
    have d2 : w2.cell? ⟨w.heap.size + 1, 2, none⟩ = some (.iface t2 u2) := by simp [World.cell?, h2]
    have HE2 := Lib.hid hev2
    clear h2 hv hev2
    simp only [ErrT.isWrap]
    go_wp2_with fail
    have hX := heap_setCell_at (k := 2) (heap_setCell_at (k := 1) (heap_setCell_at (k := 0) H1.out (.string op)) (.int .i64 i)) (.iface t2 u2)
    have hBX := ((HB.out.setCell (p := ⟨w.heap.size, 0, none⟩) (Nat.le_refl _) (.string op)).setCell (p := ⟨w.heap.size, 1, none⟩) (Nat.le_refl _) (.int .i64 i)).setCell (p := ⟨w.heap.size, 2, none⟩) (Nat.le_refl _) (.iface t2 u2)
    generalize ((w2.setCell ⟨w.heap.size, 0, none⟩ (.string op)).setCell ⟨w.heap.size, 1, none⟩ (.int .i64 i)).setCell ⟨w.heap.size, 2, none⟩ (.iface t2 u2) = X at hX hBX ⊢
    have x0 : X.cell? ⟨w.heap.size, 0, none⟩ = some (.string op) := by simp [World.cell?, hX]
    have x1 : X.cell? ⟨w.heap.size, 1, none⟩ = some (.int .i64 i) := by simp [World.cell?, hX]
    have x2 : X.cell? ⟨w.heap.size, 2, none⟩ = some (.iface t2 u2) := by simp [World.cell?, hX]
    refine bodyPost_ret_by (v := .tuple #[.agg #[.string op, .int .i64 i, .iface t2 u2], .bool true]) (by simp [results, Tryd.results30, x0, x1, x2, go_sem]) rfl ?_
    exact ⟨by rw [ErrT.found, HE2.out]; rfl, hBX⟩

end Go.Proofs.YteljpfbfkpdchaaDoor
