/- A row of bytes that comes as an argument. -/
import Derived.Test.YtpljdbcifaeblaaDoorInts
import Derived.Test.YtpljdbcifaeblaaDoorPk1
import Derived.SizedLaws
namespace Go.Proofs.YtpljdbcifaeblaaDoor
open Go.ChangeShapes Go.WideShapes Go.Deep Go.RowKit

structure BytesIn (w : World) (v : Value) (L : List Nat) : Prop where
  row : slc w 1 v L.length (byteV L)
  byt : ∀ c ∈ L, c < 256
  len : L.length ≤ 140737488351232
  cap : ∀ a n c, v = .slice a n c → n ≤ c

theorem nCellsB : Tryd.prog.cellsOf 5 = 1 := by kernel_rfl
theorem nBytesB : Tryd.prog.bytesOf 5 = 1 := by kernel_rfl
theorem sized_bytes {H : Type} {ts : List TypeId} {ds : List (DataW H)} (h : (DataW.weightsEach Tryd.prog ts ds).all (· ≤ reachBytes) = true) {j : Nat} (ht : ts[j]? = some 22) : ∀ es sp, ds[j]? = some (.slice es sp) → es.length + sp.length ≤ 140737488351232 := fun es sp hd => by
  have := sized_slice h ht hd Tryd.underlying22
  rw [nBytesB, Nat.mul_one] at this
  exact Nat.le_trans this (by decide)
set_option maxRecDepth 100000 in
theorem bytes_of_trod {H : Type} {enc : TypeId × Value → H} {W : World} {base : Nat} {v : Value} {d : DataW H} {p : List MemPlace} (hv : Value.okWide Tryd.prog W .any base 22 v) (hj : DataW.Trod enc Tryd.prog W 0 (fun _ => true) true 22 v d p)
    (hz : ∀ es sp, d = .slice es sp → es.length + sp.length ≤ 140737488351232) : ∃ L, BytesIn W v L := by
  obtain ⟨a0, len, cap, rfl⟩ := okWide_slice Tryd.underlying22 hv
  obtain ⟨fuel, hf⟩ := hj
  rcases open_ints Tryd.underlying22 Tryd.underlying5 nCellsB hf with ⟨hcs, _⟩ | ⟨a, len', cap', zs, hcs, _, hl, hm, hmm, hx, hi, hw⟩
  · simp only [Value.cells, List.cons.injEq, and_true] at hcs
    rw [hcs]
    exact ⟨[], ⟨rfl, none, 0, rfl, fun h => absurd h (by simp)⟩, by simp, by simp, fun a n c he => by simp only [Value.slice.injEq] at he; omega⟩
  · simp only [Value.cells, List.cons.injEq, and_true] at hcs
    rw [hcs]
    simp only [if_true] at hmm
    simp only [Prod.mk.injEq] at hx
    have hzz := hz _ _ hx.1
    simp only [lits, List.length_map, List.length_take, List.length_drop] at hzz
    have hwb : ∀ n ∈ zs, 0 ≤ n ∧ n ≤ 255 := fun n hn => Go.bounds_u8 (hw n hn)
    have hlen : ((zs.take len').map Int.toNat).length = len' := by
      rw [List.length_map, List.length_take]
      omega
    refine ⟨(zs.take len').map Int.toNat, ⟨by rw [byteV_length, Nat.mul_one], some a, cap', by rw [hlen], fun hpos => ?_⟩, ?_, by rw [hlen]; omega, fun a n c he => by simp only [Value.slice.injEq] at he; omega⟩
    · rw [hlen] at hpos
      have hc0 := hi 0 (by omega)
      obtain ⟨b, off, sp⟩ := a
      have hsp : sp = none := spot_none (a := Addr.add ⟨b, off, sp⟩ 0) hc0
      subst hsp
      refine ⟨b, off, rfl, World.block_lt_of_cell? _ _ hc0, fun j u hj => ?_⟩
      have hj2 : j < len' := by
        have := (List.getElem?_eq_some_iff.1 hj).1
        rw [byteV_length, hlen] at this
        exact this
      have hjz : j < zs.length := by omega
      have h1 := hi j hjz
      rw [Addr.add_lit] at h1
      rw [h1, ← hj]
      have h2 := hwb (zs[j]) (List.getElem_mem _)
      simp only [byteV, List.getElem?_map, List.getElem?_take, if_pos hj2, List.getElem?_eq_getElem hjz, Option.map_some, List.getD_eq_getElem?_getD, Option.getD_some]
      rw [Int.toNat_of_nonneg h2.1]
    · intro c hc
      obtain ⟨z, hz1, rfl⟩ := List.mem_map.1 hc
      have := hwb z (List.mem_of_mem_take hz1)
      omega

end Go.Proofs.YtpljdbcifaeblaaDoor
