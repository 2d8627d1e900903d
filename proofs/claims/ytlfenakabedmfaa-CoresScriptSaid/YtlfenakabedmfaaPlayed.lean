/- A cache behind acts. -/
import Derived.Test.YtlfenakabedmfaaTlbG
namespace Go.Proofs.Ytlfenakabedmfaa
open Go.RowKit Go.Shelf
end Go.Proofs.Ytlfenakabedmfaa
