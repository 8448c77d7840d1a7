/- Constants that are arrays. -/
import Derived.Test.YteclncnknklkfaaPaPu
namespace Go.TF
open Go Go.Abs
end Go.TF
