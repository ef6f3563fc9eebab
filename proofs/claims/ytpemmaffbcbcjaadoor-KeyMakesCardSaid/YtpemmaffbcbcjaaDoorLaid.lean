/- A world that holds the listed tables: for the rows' witnesses. -/
import Derived.Test.YtpemmaffbcbcjaaDoorRows
namespace Go.Proofs.YtpemmaffbcbcjaaDoor.Laid
open Go
/-- The cells of a datum of numbers in rows. -/
def flat : Nat → DataW Unit → List Value
  | 0, _ => []
  | _ + 1, .lit (.int k v) => [.int k v]
  | n + 1, .agg l => l.flatMap (flat n)
  | _, _ => []
def fill (d : DataW Unit) : Obj → Obj
  | .cells _ t fr => .cells (flat 4 d).toArray t fr
  | o => o
noncomputable def laidWorld (os : Os) : World :=
  { World.holding Tryd.prog os ⟨#[], #[], []⟩ with heap := (((World.holding Tryd.prog os ⟨#[], #[], []⟩).heap.modify 2 (fill Rows.laid_unicode_utf8_acceptRanges)).modify 1 (fill Rows.laid_unicode_utf8_first)) }
end Go.Proofs.YtpemmaffbcbcjaaDoor.Laid
