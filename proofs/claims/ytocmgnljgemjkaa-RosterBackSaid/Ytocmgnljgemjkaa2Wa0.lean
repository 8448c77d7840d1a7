/- Constants that are arrays. -/
import Derived.Test.Ytocmgnljgemjkaa2Pu
namespace Go.TF
open Go Go.Abs
end Go.TF
