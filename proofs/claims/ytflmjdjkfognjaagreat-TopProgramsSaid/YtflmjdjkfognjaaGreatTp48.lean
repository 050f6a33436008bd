/- Shaken out of XQg XQk XQlk -/
import Derived.Test.YtflmjdjkfognjaaGreatTp29
import Derived.Test.YtflmjdjkfognjaaGreatTp11
import Derived.Deep.CutBlock
import Derived.Deep.DeepCutAuto
import Derived.Test.YtflmjdjkfognjaaGreatTp47
import Derived.Test.YtflmjdjkfognjaaGreatTp28
namespace Go.Proofs.YtflmjdjkfognjaaGreat.W10
open Go.RowKit
set_option linter.unusedVariables false
end Go.Proofs.YtflmjdjkfognjaaGreat.W10
namespace Go.Proofs.YtflmjdjkfognjaaGreat.W10
open Go.RowKit
set_option linter.unusedVariables false
end Go.Proofs.YtflmjdjkfognjaaGreat.W10
namespace Go.Proofs.YtflmjdjkfognjaaGreat.W10
open Go.RowKit
set_option linter.unusedVariables false
/-- what Encode returns -/
def encS (q : Q.Fr) : List UInt8 := if frB q = true then encL q else []
def encC (q : Q.Fr) : Int := if frB q = true then 0 else 1
theorem enc_any (q : Q.Fr) (w : World) : Calls Tryz.prog 12 #[fagg q] w (R2B (.string (str (encS q))) (.int .i64 (encC q)) w) := by
  unfold encS encC
  cases h : frB q with
  | true => exact enc_yes q w h
  | false => exact enc_no q w h
theorem dec_any (l : List UInt8) (w : World) (h : l.length ≤ 1000000) : Calls Tryz.prog 13 #[.string (str l)] w (FP (decR l) w) := by
  by_cases h1 : l.length = 12
  · by_cases h2 : chk (l.take 10) = l.drop 10
    · exact dec_3 l w h1 h2
    · exact dec_2 l w h1 h2
  · exact dec_1 l w h1 h
end Go.Proofs.YtflmjdjkfognjaaGreat.W10
