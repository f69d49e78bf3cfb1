/- bytes.Clone, bytes.Equal. -/
import Derived.Test.YtlpnichgfhgdmaaBytes
import Derived.WalkSpells
namespace Go.Proofs.Ytlpnichgfhgdmaa
open Go.ChangeShapes Go.WideShapes Go.ChangeAt Go.RowKit
set_option linter.unusedVariables false

/-- The call returns new memory with the bytes l; nothing that was there has turned. -/
def Fresh (w : World) (l : List UInt8) (e : Ending) (w' : World) : Prop := ∃ v, e = .returned v ∧ Ow w' w.heap.size v l ∧ Below w.heap.size w w'

theorem below_append {B base : Nat} {a w w' : World} {v : Value} {l : List UInt8} (h : Below B a w) (ho : Ow w base v l) (hg : w.grownBy w' v.ownBlock) (hB : B ≤ w.heap.size) (hbase : B ≤ base) : Below B a w' :=
  h.grown hg hB fun k hk => Nat.le_trans hbase (ho.lt k hk).1


end Go.Proofs.Ytlpnichgfhgdmaa
