/- What the law JudgeSums uses of the print's own words: printed by shake.py. -/
import Derived.Test.YtofebccpghkmgaaTJudgeSumsWInv
import Derived.Test.YtofebccpghkmgaaTJudgeSumsWFootNe
-- PRINTED BY print.sh 35421559b90ae4d0a3588c463048766b98c2df88dd9212a6774a882060cdf62d: not written by this session
namespace Go.Proofs.YtofebccpghkmgaaW.PrintWords
open Go.RowKit
end Go.Proofs.YtofebccpghkmgaaW.PrintWords
namespace Go.Proofs.YtofebccpghkmgaaW.PrintLast
section
variable {ops : Array Oper} {a : Act} {o og : Oper} {g : Nat} {t : Tmp} {u : Bool}
end
end Go.Proofs.YtofebccpghkmgaaW.PrintLast
