/- frame.Token; annonaref05's Token, none. -/
import Derived.Test.YtphhfdlhkginkaaFt
import Derived.Test.YtphhfdlhkginkaaFd
import Derived.Test.YtphhfdlhkginkaaFh
set_option linter.unusedVariables false
set_option linter.unusedSimpArgs false
set_option maxRecDepth 100000
namespace Go.Proofs.Ytphhfdlhkginkaa.Fi
open Go.RowKit Go.MapKept Go.Shelf Hm Hs Hf Hx Hy Hv Fa Fb Fc Ff Fg Fh
def stampB (x : Int) : Bool := inB x (-1) 4611686018427387903
def tokenB (t : Tok) : Bool := inB t.gen 1 1099511627776 && (inB t.hop 0 1099511627776 && (inB t.st.length 1 64 && (t.st.all stampB && tableB t.start t.rows)))
theorem any_all (l : List Int) : (!l.any fun x => !stampB x) = l.all stampB := by
  induction l with
  | nil => rfl
  | cons x r ih => rw [List.any_cons, List.all_cons, ← ih]; cases stampB x <;> simp
/-- nothing, field by field -/
def noneB (t : Tok) : Bool := (t.gen == 0) && ((t.hop == 0) && ((((t.st.length : Int)) == 0) && ((t.start == 0) && (((t.rows.length : Int)) == 0))))
theorem noneB_eq (t : Tok) : noneB t = decide (t = Tok.zero) := by
  obtain ⟨a, b, c, d, e⟩ := t
  unfold noneB Tok.zero
  by_cases h1 : a = 0 <;> by_cases h2 : b = 0 <;> by_cases h4 : d = 0 <;> cases c <;> cases e <;> simp [h1, h2, h4] <;> omega
end Go.Proofs.Ytphhfdlhkginkaa.Fi
