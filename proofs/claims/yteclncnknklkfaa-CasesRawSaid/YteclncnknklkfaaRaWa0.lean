/- Constants that are arrays. -/
import Derived.Test.YteclncnknklkfaaRaPu
namespace Go.TF
open Go Go.Abs
end Go.TF
