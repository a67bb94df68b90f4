/- ashlarref01.cut at a row that the caller owns: what is answered is the caller's. -/
import Derived.Test.YtoodfkbciodapaaRefA
namespace Go.Proofs.Ytoodfkbciodapaa.Ref
open Go.RowKit Go.Proofs.YtoodfkbciodapaaW.PrintWords

/-- The digits that stay. -/
def cutL (l : List Int) : List Int := l.take (cutN l l.length)
theorem cutL_len (l : List Int) : (cutL l).length = cutN l l.length := by
  unfold cutL; rw [List.length_take]; have := cutN_le l l.length; omega

end Go.Proofs.Ytoodfkbciodapaa.Ref
