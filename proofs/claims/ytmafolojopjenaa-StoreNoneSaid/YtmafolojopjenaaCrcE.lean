/- The document's change of bytes: what it tells. -/
import Derived.Test.YtmafolojopjenaaCrcD
namespace Go.Proofs.Ytmafolojopjenaa.G
open Go.RowKit Go.Proofs.YtmafolojopjenaaW.PrintWords Go.Proofs.Ytmafolojopjenaa.Cr

end Go.Proofs.Ytmafolojopjenaa.G
