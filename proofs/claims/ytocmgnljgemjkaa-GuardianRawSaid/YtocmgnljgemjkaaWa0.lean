/- Constants that are arrays. -/
import Derived.Test.YtocmgnljgemjkaaPu
namespace Go.TF
open Go Go.Abs
end Go.TF
