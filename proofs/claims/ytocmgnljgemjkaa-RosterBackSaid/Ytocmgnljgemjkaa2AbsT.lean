/- Facts about types, under the name that these texts use. -/
import Derived.Test.YtocmgnljgemjkaaAbsT
namespace Go.Proofs.Ytocmgnljgemjkaa2T
theorem mixed : Try.prog.follows .mixedOrders = true := Go.Proofs.YtocmgnljgemjkaaT.mixed
end Go.Proofs.Ytocmgnljgemjkaa2T
