/- frame.Right. -/
import Derived.Test.YtphhfdlhkginkaaFi
import Derived.Test.YtphhfdlhkginkaaWg
set_option linter.unusedVariables false
set_option linter.unusedSimpArgs false
set_option maxRecDepth 100000
namespace Go.Proofs.Ytphhfdlhkginkaa.Fj
open Go.RowKit Go.MapKept Go.Shelf Hm Hs Hf Hg Hi Hq Hx Hy Hv Fa Fb Ff Fg Fi
/-- a frame in memory -/
def frv (f : Fr) (sv rv : Value) : Value := .agg #[.int .i64 f.kind, .int .i64 f.frm, .int .i64 f.dst, .int .i64 f.gen, .int .i64 f.hop, .int .u64 f.bits, .int .i64 f.tok.gen, .int .i64 f.tok.hop, sv, .int .i64 f.tok.start, rv]
abbrev frc (f : Fr) (sv rv : Value) : Array Value := #[.int .i64 f.kind, .int .i64 f.frm, .int .i64 f.dst, .int .i64 f.gen, .int .i64 f.hop, .int .u64 f.bits, .int .i64 f.tok.gen, .int .i64 f.tok.hop, sv, .int .i64 f.tok.start, rv]
def bareB (f : Fr) : Bool := (f.gen == 0) && ((f.hop == 0) && (f.bits == 0))
def genB (f : Fr) : Bool := inB f.gen 1 1099511627776
def hopB (f : Fr) : Bool := inB f.hop 0 1099511627776
def kindB (k : Int) (v0 v1 v2 v3 : Bool) : Bool := if k = 0 then v0 else if k = 1 then v1 else if k = 2 then v2 else if k = 3 then v3 else false
def rightB (f : Fr) : Bool := inB f.frm 0 63 && (inB f.dst 0 63 && kindB f.kind (bareB f && tokenB f.tok) (decide (f.tok = Tok.zero) && (genB f && (hopB f && (f.bits == 0)))) (decide (f.tok = Tok.zero) && (genB f && (f.hop == 0))) (decide (f.tok = Tok.zero) && bareB f))
def prs (v0 v1 v2 v3 : Bool) (i : Nat) : Int × Value := if i = 7 then (0, .bool v0) else if i = 20 then (1, .bool v1) else if i = 30 then (2, .bool v2) else (3, .bool v3)
theorem prs_once (v0 v1 v2 v3 : Bool) : Once ([7, 20, 30, 35].map (prs v0 v1 v2 v3)) := by unfold Once prs; simp
theorem prs_at (v0 v1 v2 v3 : Bool) (k : Int) : ∃ mv mi, (at_ ([7, 20, 30, 35].map (prs v0 v1 v2 v3)) k).getD (.bool false) = .bool mv ∧ (at_ ([7, 20, 30, 35].map (prs v0 v1 v2 v3)) k).isSome = mi ∧ (mi && mv) = kindB k v0 v1 v2 v3 := by
  unfold kindB
  by_cases h0 : k = 0
  · subst h0
    exact ⟨v0, true, rfl, rfl, rfl⟩
  · by_cases h1 : k = 1
    · subst h1
      exact ⟨v1, true, rfl, rfl, rfl⟩
    · by_cases h2 : k = 2
      · subst h2
        exact ⟨v2, true, rfl, rfl, rfl⟩
      · by_cases h3 : k = 3
        · subst h3
          exact ⟨v3, true, rfl, rfl, rfl⟩
        · refine ⟨false, false, ?_, ?_, by simp [h0, h1, h2, h3]⟩ <;> rw [at_none (by
            intro p hp
            simp [prs] at hp
            rcases hp with rfl | rfl | rfl | rfl <;> simp <;> omega)] <;> rfl
theorem zeroBool (w : World) : (zeroValue 4).run Try.prog w = .ok (.bool false) w := by kernel_rfl
/-- what has been asked ahead of the map -/
structure Asked (f : Fr) (bb be bg bh bt : Bool) : Prop where
  bare : bareB f = bb
  empty : decide (f.tok = Tok.zero) = be
  gen : genB f = bg
  hop : hopB f = bh
  tok : tokenB f.tok = bt
end Go.Proofs.Ytphhfdlhkginkaa.Fj
