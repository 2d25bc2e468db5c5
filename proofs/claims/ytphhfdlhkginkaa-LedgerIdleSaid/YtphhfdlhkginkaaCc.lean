/- The walks of conf.Check and the document's. -/
import Derived.Test.YtphhfdlhkginkaaCb
set_option linter.unusedVariables false
set_option linter.unusedSimpArgs false
set_option maxRecDepth 100000
namespace Go.Proofs.Ytphhfdlhkginkaa.Cc
open Go.RowKit Go.MapKept Hm Hs Hr Hb Hf Hv Cf Cn Sm Sat Mu Ca Cb
def goodR (r : Int × Int) : Bool := [r.1, r.2].all (inSpan 0)
/-- at the first rate that may not be -/
def badAt : List (Int × Int) → Nat → Int
  | [], _ => -1
  | x :: l, k => if goodR x then badAt l (k + 1) else (k : Int)
theorem badAt_cons (x : Int × Int) (l : List (Int × Int)) (k : Nat) : badAt (x :: l) k = if goodR x then badAt l (k + 1) else (k : Int) := rfl
theorem badAt_ge : ∀ (l : List (Int × Int)) (k : Nat), decide (badAt l k ≥ 0) = !(l.all goodR)
  | [], k => by simp [badAt]
  | x :: l, k => by
    unfold badAt
    cases h : goodR x
    · simp [h]
    · simp only [h, if_true, List.all_cons, Bool.true_and]
      exact badAt_ge l (k + 1)
/-- a configuration's error -/
def errR (c : Cfg) : Int :=
  if nodesB c.n = false then 21 else if [c.skew].all (inSpan 0) = false then 22 else if [c.ttl, c.valid, c.loss, c.hear].all (inSpan 1) = false then 22
  else if c.keys < 1 ∨ c.keys > 16 ∨ c.queue < 0 ∨ c.queue > 16 then 23 else if c.rates.length < 1 ∨ c.rates.length > 8 then 24 else if c.rates.all goodR = false then 24 else 0
theorem err_1 {c : Cfg} (h : nodesB c.n = false) : errR c = 21 := by unfold errR; rw [if_pos h]
theorem err_2 {c : Cfg} (h : nodesB c.n = true) (h2 : [c.skew].all (inSpan 0) = false) : errR c = 22 := by unfold errR; rw [if_neg (by rw [h]; simp), if_pos h2]
theorem err_3 {c : Cfg} (h : nodesB c.n = true) (h2 : [c.skew].all (inSpan 0) = true) (h3 : [c.ttl, c.valid, c.loss, c.hear].all (inSpan 1) = false) : errR c = 22 := by
  unfold errR; rw [if_neg (by rw [h]; simp), if_neg (by rw [h2]; simp), if_pos h3]
/-- up to its rooms it is right -/
structure rooms (c : Cfg) : Prop where
  n : nodesB c.n = true
  s : [c.skew].all (inSpan 0) = true
  t : [c.ttl, c.valid, c.loss, c.hear].all (inSpan 1) = true
theorem err_4 {c : Cfg} (h : rooms c) (h4 : c.keys < 1 ∨ c.keys > 16 ∨ c.queue < 0 ∨ c.queue > 16) : errR c = 23 := by
  unfold errR; rw [if_neg (by rw [h.n]; simp), if_neg (by rw [h.s]; simp), if_neg (by rw [h.t]; simp), if_pos h4]
theorem err_5 {c : Cfg} (h : rooms c) (h4 : ¬ (c.keys < 1 ∨ c.keys > 16 ∨ c.queue < 0 ∨ c.queue > 16)) (h5 : c.rates.length < 1 ∨ c.rates.length > 8) : errR c = 24 := by
  unfold errR; rw [if_neg (by rw [h.n]; simp), if_neg (by rw [h.s]; simp), if_neg (by rw [h.t]; simp), if_neg h4, if_pos h5]
theorem err_6 {c : Cfg} (h : rooms c) (h4 : ¬ (c.keys < 1 ∨ c.keys > 16 ∨ c.queue < 0 ∨ c.queue > 16)) (h5 : ¬ (c.rates.length < 1 ∨ c.rates.length > 8)) : errR c = if c.rates.all goodR = false then 24 else 0 := by
  unfold errR; rw [if_neg (by rw [h.n]; simp), if_neg (by rw [h.s]; simp), if_neg (by rw [h.t]; simp), if_neg h4, if_neg h5]
end Go.Proofs.Ytphhfdlhkginkaa.Cc
