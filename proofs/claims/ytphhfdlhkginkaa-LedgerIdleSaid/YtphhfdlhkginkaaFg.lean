/- frame's sameRow, SameTable, SameToken, none. -/
import Derived.Test.YtphhfdlhkginkaaFf
set_option linter.unusedVariables false
set_option linter.unusedSimpArgs false
set_option maxRecDepth 100000
namespace Go.Proofs.Ytphhfdlhkginkaa.Fg
open Go.RowKit Go.MapKept Hm Hs Hf Hx Hy Hv Fa Ff
theorem beq_no {a b : Int} (h : ¬ a = b) : (a == b) = false := by simpa using h
def sameTB (s t : Int) (R S : List Row) : Bool := (s == t) && decide (R = S)
/-- a token in memory -/
def tkv (t : Tok) (sv rv : Value) : Value := .agg #[.int .i64 t.gen, .int .i64 t.hop, sv, .int .i64 t.start, rv]
structure TokR (w : World) (t : Tok) (sv rv : Value) : Prop where
  st : RdS 1 w sv (ins t.st)
  rows : RT w rv t.rows
theorem TokR.turns {w w' : World} {t : Tok} {sv rv : Value} (h : TokR w t sv rv) (T : Turns [] w w') : TokR w' t sv rv := ⟨h.st.mv (fun a u => T.old), h.rows.turns T⟩
def sameKB (s t : Tok) : Bool := (s.gen == t.gen) && ((s.hop == t.hop) && (decide (s.st = t.st) && sameTB s.start t.start s.rows t.rows))
theorem sameKB_eq (s t : Tok) : sameKB s t = decide (s = t) := by
  obtain ⟨a, b, c, d, e⟩ := s
  obtain ⟨a', b', c', d', e'⟩ := t
  unfold sameKB sameTB
  by_cases h1 : a = a' <;> by_cases h2 : b = b' <;> by_cases h3 : c = c' <;> by_cases h4 : d = d' <;> by_cases h5 : e = e' <;> simp [h1, h2, h3, h4, h5]
/-- nothing -/
def Tok.zero : Tok := ⟨0, 0, [], 0, []⟩
theorem TokR.zero (w : World) : TokR w Tok.zero (.slice none 0 0) (.slice none 0 0) := ⟨RdS.nil 1 w, RT.nil w⟩
end Go.Proofs.Ytphhfdlhkginkaa.Fg
