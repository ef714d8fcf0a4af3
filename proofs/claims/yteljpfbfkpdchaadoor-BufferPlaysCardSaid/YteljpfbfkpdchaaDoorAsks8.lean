/- The calls of BufferPlays, as they come as an argument. -/
import Derived.Test.YteljpfbfkpdchaaDoorAsks
namespace Go.Proofs.YteljpfbfkpdchaaDoor
open Go.ChangeShapes Go.WideShapes Go.Deep Go.RowKit

def ks8 : Nat → IntKind
  | 0 => .i64
  | 1 => .i64
  | _ => .u32
set_option maxRecDepth 100000 in
theorem asks8_of_trod {H : Type} {enc : TypeId × Value → H} {W : World} {base : Nat} {v : Value} {d : DataW H} {p : List MemPlace} (hv : Value.okWide Tryd.prog W .any base 37 v) (hj : DataW.Trod enc Tryd.prog W 0 (fun _ => true) true 37 v d p)
    (_hlt : ∀ x ∈ p, x.block < W.heap.size) : ∃ n g, ReqsAt ks8 3 W v n g :=
  reqs_of ks8 3 (by omega) Tryd.underlying37 Tryd.underlying42 (by kernel_rfl) (by kernel_rfl) rfl (fun j f h => by
    match j, h with
    | 0, h => obtain rfl := Option.some.inj h; exact Tryd.underlying3
    | 1, h => obtain rfl := Option.some.inj h; exact Tryd.underlying3
    | 2, h => obtain rfl := Option.some.inj h; exact Tryd.underlying28) hv hj

end Go.Proofs.YteljpfbfkpdchaaDoor
