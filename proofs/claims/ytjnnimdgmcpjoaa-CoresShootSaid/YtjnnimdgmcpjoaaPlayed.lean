/- A cache behind acts. -/
import Derived.Test.YtjnnimdgmcpjoaaTlbG
namespace Go.Proofs.Ytjnnimdgmcpjoaa
open Go.RowKit Go.Shelf
end Go.Proofs.Ytjnnimdgmcpjoaa
