/- Constants that are arrays. -/
import Derived.Test.YteclncnknklkfaaOaPu
namespace Go.TF
open Go Go.Abs
end Go.TF
