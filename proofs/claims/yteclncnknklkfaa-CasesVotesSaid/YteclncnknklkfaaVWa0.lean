/- Constants that are arrays. -/
import Derived.Test.YteclncnknklkfaaVPu
namespace Go.TF
open Go Go.Abs
end Go.TF
