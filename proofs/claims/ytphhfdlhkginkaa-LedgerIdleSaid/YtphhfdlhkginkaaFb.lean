/- frame.Table: may a table be? -/
import Derived.Test.YtphhfdlhkginkaaFa
set_option linter.unusedVariables false
set_option linter.unusedSimpArgs false
set_option maxRecDepth 100000
namespace Go.Proofs.Ytphhfdlhkginkaa.Fb
open Go.RowKit Go.MapKept Hm Hs Hf Hx Hy Hv Fa
/-- a row may be, of a start -/
def rowB (start : Int) (r : Row) : Bool := keyB r.key && (inB r.avail 0 2147483648 && (inB r.mark start 4611686018427387904 && lsB r.out))
def okRows (start : Int) : Option Row → List Row → Bool
  | _, [] => true
  | p, x :: r => rowB start x && ((match p with | none => true | some q => decide (q.key < x.key)) && okRows start (some x) r)
def tableB (start : Int) (R : List Row) : Bool := okRows start none R && (inB start 0 4611686018427387904 && decide ((R.length : Int) ≤ 16))
end Go.Proofs.Ytphhfdlhkginkaa.Fb
