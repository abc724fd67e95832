/-
  Words for layer 11: two lists of numbers that are the same.
-/
import Derived.Test.YtnhmibfgaoealaaGreatMj
import Derived.Test.YtnhmibfgaoealaaGreatCk0
namespace Go.Proofs.YtnhmibfgaoealaaGreat
open Go.RowKit

end Go.Proofs.YtnhmibfgaoealaaGreat
