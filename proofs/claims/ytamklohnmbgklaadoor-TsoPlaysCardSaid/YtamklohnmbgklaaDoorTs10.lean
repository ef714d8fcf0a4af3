/- The memory model's Step, as the laws call it. -/
import Derived.Test.YtamklohnmbgklaaDoorTs9
namespace Go.Proofs.YtamklohnmbgklaaDoor
open Go.RowKit Go.Extern.Stop Go.Stop Go.Extern

theorem st_ok {B : Bufs} {M : List Int} {e : Ev} (h : stC B M e = 0) : stepE B M e = .nil ∧ nxB B M e = stB B e ∧ nxM B M e = stM M e := by
  unfold stepE nxB nxM
  rw [if_pos h, if_pos h, if_pos h]
  exact ⟨rfl, rfl, rfl⟩
theorem st_no {B : Bufs} {M : List Int} {e : Ev} {c : Nat} (h : stC B M e = c + 1) : stepE B M e = .wrap tsT e.core (.sent c) ∧ nxB B M e = B ∧ nxM B M e = M := by
  have hn : ¬ stC B M e = 0 := by omega
  unfold stepE nxB nxM
  rw [if_neg hn, if_neg hn, if_neg hn, h]
  exact ⟨rfl, rfl, rfl⟩
theorem wrap_val (A : Nat → Addr) (c : Int) (k : Nat) : (ErrT.wrap tsT c (.sent k)).val A = .iface 78 (.agg #[.string tsT, .int .i64 c, .iface 129 (.pointer (some (A k)))]) := rfl

/-- An event that is taken. -/
theorem tm_ok (A : Nat → Addr) (w0 : World) (b : Nat) (F : Nat → Prop) (B : Bufs) (M : List Int) (e : Ev) (wr : World) (hs : SentAt w0 A) (hB : Below w0.heap.size w0 wr) (hF : Md tyP wr w0.heap.size b F B M) (hM : 0 < M.length) (hlb : ∀ k, (B.getD k []).length ≤ 100000)
    (hc : stC B M e = 0) {B' : Bufs} {M' : List Int} (hB' : stB B e = B') (hM' : stM M e = M') :
    Calls Tryd.prog 26 #[.pointer (some ⟨b, 0, none⟩), e.v] wr fun ev w' => ev = .returned .nilIface ∧ ∃ F', Md tyP w' w0.heap.size b F' B' M' ∧ Below w0.heap.size w0 w' ∧ Mods F wr w' ∧ ∀ k, F' k → F k ∨ wr.heap.size ≤ k := by
  refine (tstep_c A w0.heap.size b F B M e wr (hs.below hB) hF hM hlb).mono ?_
  rintro ev w' ⟨rfl, F', h1, h2, h3⟩
  obtain ⟨e1, e2, e3⟩ := st_ok hc
  rw [e2, e3, hB', hM'] at h1
  rw [e1]
  exact ⟨rfl, F', h1, hB.trans (h2.below hB.size fun k hk => (hF.lt k hk).1), h2, h3⟩
/-- One that is refused. -/
theorem tm_no (A : Nat → Addr) (w0 : World) (b : Nat) (F : Nat → Prop) (B : Bufs) (M : List Int) (e : Ev) (wr : World) (hs : SentAt w0 A) (hB : Below w0.heap.size w0 wr) (hF : Md tyP wr w0.heap.size b F B M) (hM : 0 < M.length) (hlb : ∀ k, (B.getD k []).length ≤ 100000)
    {c : Nat} (hc : stC B M e = c + 1) :
    Calls Tryd.prog 26 #[.pointer (some ⟨b, 0, none⟩), e.v] wr fun ev w' => ev = .returned (.iface 78 (.agg #[.string tsT, .int .i64 e.core, .iface 129 (.pointer (some (A c)))])) ∧ ∃ F', Md tyP w' w0.heap.size b F' B M ∧ Below w0.heap.size w0 w' ∧ Mods F wr w' ∧ ∀ k, F' k → F k ∨ wr.heap.size ≤ k := by
  refine (tstep_c A w0.heap.size b F B M e wr (hs.below hB) hF hM hlb).mono ?_
  rintro ev w' ⟨rfl, F', h1, h2, h3⟩
  obtain ⟨e1, e2, e3⟩ := st_no hc
  rw [e2, e3] at h1
  rw [e1]
  exact ⟨rfl, F', h1, hB.trans (h2.below hB.size fun k hk => (hF.lt k hk).1), h2, h3⟩

end Go.Proofs.YtamklohnmbgklaaDoor
