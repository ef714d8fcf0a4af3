/- What opens an argument that is a string. -/
import Derived.Test.YteljpfbfkpdchaaDoorOpen
import Derived.ChangeMaps5
namespace Go.Proofs.YteljpfbfkpdchaaDoor
theorem str_here : True := trivial
end Go.Proofs.YteljpfbfkpdchaaDoor
