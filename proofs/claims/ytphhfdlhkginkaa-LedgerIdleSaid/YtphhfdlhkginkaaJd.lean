/- LedgerPlays: a table that may be, as the ledger's rows; the law's walk. -/
import Derived.Test.YtphhfdlhkginkaaJb
import Derived.Test.YtphhfdlhkginkaaJc
import Derived.Test.YtphhfdlhkginkaaWh
import Derived.Test.YtphhfdlhkginkaaBh
set_option linter.unusedVariables false
set_option linter.unusedSimpArgs false
set_option maxRecDepth 100000
namespace Go.Proofs.Ytphhfdlhkginkaa.Jd
open Go.RowKit Go.MapKept Hm Hs Hr Hb Hf Hg Hx Hy Hv Hz Hu Fa Fb Ff Fg Fq Ba Bb Bc Bd Bg Bh Bi Bj Bk Bl Bm Bq Br Bt Bv Bw Bx By Cf Cn Sm Sat Ca Cb Cc Bn Ja Jb Jc
theorem ls_ok : ∀ (l : List (Int × Int)) (p : Option (Int × Int)), okLs p l = true → RiseL l ∧ (∀ x ∈ l, (0 ≤ x.1 ∧ x.1 < 64) ∧ (1 ≤ x.2 ∧ x.2 ≤ 2147483648)) ∧ (∀ q, p = some q → ∀ x ∈ l, q.1 < x.1)
  | [], p, _ => ⟨by simp [RiseL], by simp, by simp⟩
  | x :: r, p, h => by
    unfold okLs at h
    simp only [Bool.and_eq_true, inB, decide_eq_true_eq] at h
    obtain ⟨⟨a1, a2⟩, ⟨b1, b2⟩, h3, h4⟩ := h
    obtain ⟨r1, r2, r3⟩ := ls_ok r (some x) h4
    have hx : ∀ y ∈ r, x.1 < y.1 := r3 x rfl
    refine ⟨List.pairwise_cons.2 ⟨hx, r1⟩, fun y hy => ?_, fun q hq y hy => ?_⟩
    · rcases List.mem_cons.1 hy with rfl | hy
      · exact ⟨⟨a1, by omega⟩, b1, b2⟩
      · exact r2 y hy
    · subst hq
      simp only [decide_eq_true_eq] at h3
      rcases List.mem_cons.1 hy with rfl | hy
      · exact h3
      · have := hx y hy; omega
theorem rows_ok (start : Int) : ∀ (R : List Row) (p : Option Row), okRows start p R = true → Rise R ∧ (∀ x ∈ R, RowOk x) ∧ (∀ q, p = some q → ∀ x ∈ R, q.key < x.key)
  | [], p, _ => ⟨by simp [Rise], by simp, by simp⟩
  | x :: r, p, h => by
    unfold okRows rowB lsB at h
    simp only [Bool.and_eq_true, inB, decide_eq_true_eq] at h
    obtain ⟨⟨hk, ⟨a1, a2⟩, ⟨m1, m2⟩, hl, hlen⟩, h3, h4⟩ := h
    obtain ⟨r1, r2, r3⟩ := rows_ok start r (some x) h4
    obtain ⟨l1, l2, _⟩ := ls_ok x.out none hl
    have hx : ∀ y ∈ r, x.key < y.key := r3 x rfl
    refine ⟨List.pairwise_cons.2 ⟨hx, r1⟩, fun y hy => ?_, fun q hq y hy => ?_⟩
    · rcases List.mem_cons.1 hy with rfl | hy
      · exact ⟨a1, by omega, l1, fun z hz => (l2 z hz).1, fun z hz => (l2 z hz).2⟩
      · exact r2 y hy
    · subst hq
      simp only [decide_eq_true_eq] at h3
      rcases List.mem_cons.1 hy with rfl | hy
      · exact h3
      · have := hx y hy; omega
theorem table_ok {start : Int} {R : List Row} (h : tableB start R = true) : Ok R := by
  unfold tableB at h
  simp only [Bool.and_eq_true, decide_eq_true_eq] at h
  obtain ⟨h1, _, h3⟩ := h
  obtain ⟨a, b, _⟩ := rows_ok start R none h1
  exact ⟨a, by omega, b⟩
theorem conf_ok {c : Cfg} (h : errR c = 0) : (1 ≤ c.keys ∧ c.keys ≤ 16) ∧ (1 ≤ c.rates.length ∧ c.rates.length ≤ 8) ∧ 0 ≤ c.skew ∧ c.skew ≤ 2147483648 ∧ ∀ q ∈ c.rates, goodR q = true := by
  unfold errR at h
  split at h
  · omega
  · split at h
    · omega
    · rename_i h2
      split at h
      · omega
      · split at h
        · omega
        · split at h
          · omega
          · split at h
            · omega
            · rename_i h6
              have hs : inSpan 0 c.skew = true := by simpa using h2
              unfold inSpan at hs
              rw [Bool.not_eq_true', Bool.or_eq_false_iff, decide_eq_false_iff_not, decide_eq_false_iff_not] at hs
              simp only [Bool.not_eq_false, List.all_eq_true] at h6
              exact ⟨by omega, by omega, by omega, by omega, h6⟩
theorem fit_ok {start : Int} {R : List Row} {c : Cfg} (h : fitB start R c = true) : Ok R ∧ (1 ≤ c.keys ∧ c.keys ≤ 16) ∧ (1 ≤ c.rates.length ∧ c.rates.length ≤ 8) ∧ 0 ≤ c.skew ∧ c.skew ≤ 2147483648 ∧ ∀ q ∈ c.rates, goodR q = true := by
  unfold fitB at h
  simp only [Bool.and_eq_true, beq_iff_eq] at h
  obtain ⟨_, _, h3, h4⟩ := h
  exact ⟨table_ok h3, conf_ok h4⟩
end Go.Proofs.Ytphhfdlhkginkaa.Jd
