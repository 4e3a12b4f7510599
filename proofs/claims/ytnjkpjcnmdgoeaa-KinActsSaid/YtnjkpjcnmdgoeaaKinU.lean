/- pappuslaw12: what the laws' walks share. -/
import Derived.Test.YtnjkpjcnmdgoeaaKinY
import Derived.Test.YtnjkpjcnmdgoeaaKinT
namespace Go.Proofs.Ytnjkpjcnmdgoeaa
open Go Go.RowKit Go.Maps Go.MapKept

end Go.Proofs.Ytnjkpjcnmdgoeaa
