/- What the law KeyMakes uses of the print's own words: printed by shake.py. -/
import Derived.Test.YtpemmaffbcbcjaaDoorTKeyMakesWInv
import Derived.Test.YtpemmaffbcbcjaaDoorTKeyMakesWFootNe
-- PRINTED BY print.sh 35421559b90ae4d0a3588c463048766b98c2df88dd9212a6774a882060cdf62d: not written by this session
namespace Go.Proofs.YtpemmaffbcbcjaaDoorW.PrintWords
open Go.RowKit
end Go.Proofs.YtpemmaffbcbcjaaDoorW.PrintWords
namespace Go.Proofs.YtpemmaffbcbcjaaDoorW.PrintLast
section
variable {ops : Array Oper} {a : Act} {o og : Oper} {g : Nat} {t : Tmp} {u : Bool}
end
end Go.Proofs.YtpemmaffbcbcjaaDoorW.PrintLast
