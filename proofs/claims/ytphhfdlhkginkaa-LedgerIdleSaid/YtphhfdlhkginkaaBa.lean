/- The ledger as data: rows by keys, totals, looks; minting, settling, granting. No program in sight. -/
import Derived.Test.YtphhfdlhkginkaaFa
import Derived.Test.YtphhfdlhkginkaaWg
set_option linter.unusedVariables false
set_option linter.unusedSimpArgs false
namespace Go.Proofs.Ytphhfdlhkginkaa.Ba
open Fa Sm
/-- a configuration's rates, keys, skew: what the ledger reads -/
structure Cf where
  skew : Int
  keys : Int
  rates : List (Int × Int)
/-- the place of a key's row, or where it would be -/
def pl : List Row → Int → Nat
  | [], _ => 0
  | r :: R, key => if key ≤ r.key then 0 else pl R key + 1
def isAt (R : List Row) (key : Int) : Bool := match R[pl R key]? with | some r => r.key == key | none => false
theorem pl_le : ∀ (R : List Row) (key : Int), pl R key ≤ R.length
  | [], _ => Nat.le_refl _
  | r :: R, key => by
    unfold pl
    have := pl_le R key
    split <;> simp <;> omega
theorem pl_lt : ∀ {R : List Row} {key : Int} {j : Nat} {r : Row}, j < pl R key → R[j]? = some r → r.key < key
  | [], _, _, _, _, h => by simp at h
  | x :: R, key, j, r, hj, h => by
    unfold pl at hj
    split at hj
    · omega
    · rename_i hx
      cases j with
      | zero => simp at h; subst h; omega
      | succ j => exact pl_lt (R := R) (j := j) (by omega) (by simpa using h)
theorem pl_at : ∀ {R : List Row} {key : Int} {r : Row}, R[pl R key]? = some r → key ≤ r.key
  | [], _, _, h => by simp at h
  | x :: R, key, r, h => by
    unfold pl at h
    split at h
    · simp at h; subst h; assumption
    · exact pl_at (R := R) (by simpa using h)
theorem pl_here {R : List Row} {key : Int} {k : Nat} {r : Row} (h : R[k]? = some r) (hk : key ≤ r.key) : pl (R.drop k) key = 0 := by
  rw [drop_cons h]; unfold pl; rw [if_pos hk]
theorem pl_next {R : List Row} {key : Int} {k : Nat} {r : Row} (h : R[k]? = some r) (hk : ¬ key ≤ r.key) : pl (R.drop k) key = pl (R.drop (k + 1)) key + 1 := by
  rw [drop_cons h]
  conv => lhs; unfold pl
  rw [if_neg hk]
def Rise (R : List Row) : Prop := R.Pairwise fun a b => a.key < b.key
theorem rise_lt {R : List Row} (h : Rise R) {i j : Nat} {a b : Row} (hi : R[i]? = some a) (hj : R[j]? = some b) (hij : i < j) : a.key < b.key := by
  obtain ⟨h1, rfl⟩ := List.getElem?_eq_some_iff.1 hi
  obtain ⟨h2, rfl⟩ := List.getElem?_eq_some_iff.1 hj
  exact List.pairwise_iff_getElem.1 h i j h1 h2 hij
theorem isAt_true {R : List Row} {key : Int} (h : isAt R key = true) : ∃ r, R[pl R key]? = some r ∧ r.key = key := by
  unfold isAt at h
  split at h
  · rename_i r hr
    exact ⟨r, hr, by simpa using h⟩
  · cases h
theorem rise_pl {R : List Row} (h : Rise R) {k : Nat} {r : Row} (hr : R[k]? = some r) : pl R r.key = k ∧ isAt R r.key = true := by
  have hk := (List.getElem?_eq_some_iff.1 hr).1
  have e : pl R r.key = k := by
    rcases Nat.lt_trichotomy (pl R r.key) k with h1 | h1 | h1
    · obtain ⟨x, hx⟩ : ∃ x, R[pl R r.key]? = some x := ⟨_, List.getElem?_eq_getElem (by omega)⟩
      have := rise_lt h hx hr h1
      have := pl_at hx
      omega
    · exact h1
    · have := pl_lt h1 hr
      omega
  refine ⟨e, ?_⟩
  unfold isAt
  rw [e, hr]
  simp
theorem isAt_false {R : List Row} {key : Int} (h : Rise R) (hf : isAt R key = false) {r : Row} (hr : r ∈ R) : r.key ≠ key := by
  rintro rfl
  obtain ⟨k, hk⟩ := List.getElem?_of_mem hr
  rw [(rise_pl h hk).2] at hf
  cases hf
/-- the row at a place, or nothing of the key -/
def rwAt (start : Int) (R : List Row) (key : Int) : Row := match R[pl R key]? with | some r => if r.key = key then r else ⟨key, 0, start, []⟩ | none => ⟨key, 0, start, []⟩
theorem rwAt_yes {start : Int} {R : List Row} {key : Int} {r : Row} (h : isAt R key = true) (hr : R[pl R key]? = some r) : rwAt start R key = r := by
  unfold rwAt
  unfold isAt at h
  rw [hr] at h ⊢
  simp only [beq_iff_eq] at h
  simp [h]
theorem rwAt_no {start : Int} {R : List Row} {key : Int} (h : isAt R key = false) : rwAt start R key = ⟨key, 0, start, []⟩ := by
  unfold rwAt
  unfold isAt at h
  cases hr : R[pl R key]? with
  | none => rfl
  | some r =>
    rw [hr] at h
    simp only [beq_eq_false_iff_ne, ne_eq] at h
    simp [h]
theorem rwAt_key (start : Int) (R : List Row) (key : Int) : (rwAt start R key).key = key := by
  unfold rwAt
  split
  · split
    · assumption
    · rfl
  · rfl
def totalR (r : Row) : Int := sum (r.avail :: r.out.map (·.2))
def mintedR (r : Row) (now : Int) (q : Int × Int) : Row := ⟨r.key, two r.avail (min (mul q.1 (sub now r.mark)) (sub q.2 (totalR r))), max r.mark now, r.out⟩
def lookR (start : Int) (R : List Row) (key now : Int) (q : Int × Int) : Row := mintedR (rwAt start R key) now q
/-- with a row, instead of that of its key -/
def withR (R : List Row) (r : Row) : List Row := if isAt R r.key then R.set (pl R r.key) r else R.take (pl R r.key) ++ r :: R.drop (pl R r.key)
/-- the document's way: one by one -/
def setStep (r : Row) (s : List Row × Bool) (x : Row) : List Row × Bool :=
  if !s.2 && decide (x.key ≥ r.key) then (if x.key ≠ r.key then (s.1 ++ [r] ++ [x], true) else (s.1 ++ [r], true)) else (if x.key ≠ r.key then (s.1 ++ [x], s.2) else s)
def setEnd (r : Row) (s : List Row × Bool) : List Row := if s.2 then s.1 else s.1 ++ [r]
theorem set_done (r : Row) : ∀ (R acc : List Row), (∀ x ∈ R, x.key ≠ r.key) → R.foldl (setStep r) (acc, true) = (acc ++ R, true)
  | [], acc, _ => by simp
  | x :: R, acc, h => by
    have hx := h x (by simp)
    rw [List.foldl_cons]
    have e : setStep r (acc, true) x = (acc ++ [x], true) := by unfold setStep; simp [hx]
    rw [e, set_done r R _ (fun y hy => h y (by simp [hy]))]
    simp
theorem withR_nil (r : Row) : withR [] r = [r] := by unfold withR isAt pl; simp
theorem withR_lt {x r : Row} {R : List Row} (h : x.key < r.key) : withR (x :: R) r = x :: withR R r := by
  have e : pl (x :: R) r.key = pl R r.key + 1 := by
    conv => lhs; unfold pl
    rw [if_neg (by omega)]
  have e2 : isAt (x :: R) r.key = isAt R r.key := by unfold isAt; rw [e]; simp
  unfold withR
  rw [e, e2]
  split <;> simp
theorem withR_ge {x r : Row} {R : List Row} (h : r.key ≤ x.key) : withR (x :: R) r = if x.key = r.key then r :: R else r :: x :: R := by
  have e : pl (x :: R) r.key = 0 := by
    conv => lhs; unfold pl
    rw [if_pos h]
  have e2 : isAt (x :: R) r.key = decide (x.key = r.key) := by unfold isAt; rw [e]; simp; rfl
  unfold withR
  rw [e, e2]
  by_cases hx : x.key = r.key <;> simp [hx]
theorem set_is (r : Row) : ∀ (R acc : List Row), Rise R → setEnd r (R.foldl (setStep r) (acc, false)) = acc ++ withR R r
  | [], acc, _ => by rw [withR_nil]; simp [setEnd]
  | x :: R, acc, h => by
    have hR : Rise R := List.Pairwise.of_cons h
    have hx : ∀ y ∈ R, x.key < y.key := (List.pairwise_cons.1 h).1
    rw [List.foldl_cons]
    by_cases hlt : x.key < r.key
    · have e : setStep r (acc, false) x = (acc ++ [x], false) := by
        unfold setStep
        rw [if_neg (by simp; omega), if_pos (by omega)]
      rw [e, set_is r R _ hR, withR_lt hlt]
      simp
    · rw [withR_ge (by omega)]
      by_cases hk : x.key = r.key
      · have e : setStep r (acc, false) x = (acc ++ [r], true) := by unfold setStep; rw [if_pos (by simp; omega)]; simp [hk]
        rw [e, set_done r R _ (fun y hy => by have := hx y hy; omega), if_pos hk]
        simp [setEnd]
      · have e : setStep r (acc, false) x = (acc ++ [r] ++ [x], true) := by unfold setStep; rw [if_pos (by simp; omega)]; simp [hk]
        rw [e, set_done r R _ (fun y hy => by have := hx y hy; omega), if_neg hk]
        simp [setEnd]
/-- the row that is one's own in it -/
theorem mem_withR {R : List Row} {r x : Row} (h : x ∈ withR R r) : x = r ∨ x ∈ R := by
  unfold withR at h
  split at h
  · rcases List.mem_or_eq_of_mem_set h with h | h
    · exact .inr h
    · exact .inl h
  · rcases List.mem_append.1 h with h | h
    · exact .inr (List.mem_of_mem_take h)
    · rcases List.mem_cons.1 h with h | h
      · exact .inl h
      · exact .inr (List.mem_of_mem_drop h)
theorem withR_len (R : List Row) (r : Row) : (withR R r).length = if isAt R r.key then R.length else R.length + 1 := by
  have := pl_le R r.key
  unfold withR
  split
  · simp
  · simp; omega
theorem withR_rise (r : Row) : ∀ {R : List Row}, Rise R → Rise (withR R r) ∧ ∀ k, (∀ x ∈ R, k < x.key) → k < r.key → ∀ x ∈ withR R r, k < x.key
  | [], _ => by rw [withR_nil]; exact ⟨by simp [Rise], by intro k _ h x hx; simp at hx; subst hx; exact h⟩
  | x :: R, h => by
    have hR : Rise R := List.Pairwise.of_cons h
    have hx : ∀ y ∈ R, x.key < y.key := (List.pairwise_cons.1 h).1
    refine ⟨?_, fun k h1 h2 y hy => ?_⟩
    · by_cases hlt : x.key < r.key
      · rw [withR_lt hlt]
        obtain ⟨h1, h2⟩ := withR_rise r hR
        exact List.pairwise_cons.2 ⟨h2 x.key hx hlt, h1⟩
      · rw [withR_ge (by omega)]
        by_cases hk : x.key = r.key
        · rw [if_pos hk]
          exact List.pairwise_cons.2 ⟨fun y hy => by have := hx y hy; omega, hR⟩
        · rw [if_neg hk]
          exact List.pairwise_cons.2 ⟨fun y hy => by
            rcases List.mem_cons.1 hy with rfl | hy
            · omega
            · have := hx y hy; omega, h⟩
    · rcases mem_withR hy with rfl | hy
      · exact h2
      · exact h1 y hy
def rateR (c : Cf) (key : Int) : Option (Int × Int) := if 0 ≤ key ∧ key < 524288 then c.rates[(key / 65536).toNat]? else none
def idleR (start : Int) (c : Cf) (now : Int) (r : Row) : Bool := match rateR c r.key with
  | none => false
  | some q => decide (sub now (two c.skew c.skew) ≥ r.mark) && (((r.out.length : Int) == 0) && ((r.avail == q.2) && decide (mul q.1 (sub r.mark start) ≥ q.2)))
def sweepR (start : Int) (c : Cf) (now : Int) (R : List Row) : List Row := R.filter fun r => !idleR start c now r
theorem sweep_rise {start : Int} {c : Cf} {now : Int} {R : List Row} (h : Rise R) : Rise (sweepR start c now R) := List.Pairwise.filter _ h
/-- what minting begins with: all rows, or those that are not idle; nothing: it is full -/
def baseR (start : Int) (R : List Row) (key now : Int) (c : Cf) : Option (List Row) :=
  if isAt R key = false ∧ (R.length : Int) ≥ c.keys then (if ((sweepR start c now R).length : Int) ≥ c.keys then none else some (sweepR start c now R)) else some R
/-- Mint: the rows behind it, and the error -/
def mintR (start : Int) (R : List Row) (key now : Int) (c : Cf) : List Row × Int := match rateR c key with
  | none => (R, 4)
  | some q => match baseR start R key now c with
    | none => (R, 3)
    | some B => (withR B (lookR start B key now q), 0)
/-- the place of a node's lease, or where it would be -/
def pln : List (Int × Int) → Int → Nat
  | [], _ => 0
  | x :: l, node => if node ≤ x.1 then 0 else pln l node + 1
def leaseR (l : List (Int × Int)) (node : Int) : Bool := match l[pln l node]? with | some x => x.1 == node | none => false
def RiseL (l : List (Int × Int)) : Prop := l.Pairwise fun a b => a.1 < b.1
theorem pln_le : ∀ (l : List (Int × Int)) (node : Int), pln l node ≤ l.length
  | [], _ => Nat.le_refl _
  | r :: R, key => by
    unfold pln
    have := pln_le R key
    split <;> simp <;> omega
theorem pln_lt : ∀ {l : List (Int × Int)} {node : Int} {j : Nat} {x : Int × Int}, j < pln l node → l[j]? = some x → x.1 < node
  | [], _, _, _, _, h => by simp at h
  | x :: R, key, j, r, hj, h => by
    unfold pln at hj
    split at hj
    · omega
    · rename_i hx
      cases j with
      | zero => simp at h; subst h; omega
      | succ j => exact pln_lt (l := R) (j := j) (by omega) (by simpa using h)
theorem pln_at : ∀ {l : List (Int × Int)} {node : Int} {x : Int × Int}, l[pln l node]? = some x → node ≤ x.1
  | [], _, _, h => by simp at h
  | x :: R, key, r, h => by
    unfold pln at h
    split at h
    · simp at h; subst h; assumption
    · exact pln_at (l := R) (by simpa using h)
theorem riseL_lt {l : List (Int × Int)} (h : RiseL l) {i j : Nat} {a b : Int × Int} (hi : l[i]? = some a) (hj : l[j]? = some b) (hij : i < j) : a.1 < b.1 := by
  obtain ⟨h1, rfl⟩ := List.getElem?_eq_some_iff.1 hi
  obtain ⟨h2, rfl⟩ := List.getElem?_eq_some_iff.1 hj
  exact List.pairwise_iff_getElem.1 h i j h1 h2 hij
theorem pln_is {l : List (Int × Int)} {node : Int} {k : Nat} (hk : k ≤ l.length) (h1 : ∀ j x, j < k → l[j]? = some x → x.1 < node) (h2 : ∀ x, l[k]? = some x → node ≤ x.1) : pln l node = k := by
  rcases Nat.lt_trichotomy (pln l node) k with h | h | h
  · obtain ⟨x, hx⟩ : ∃ x, l[pln l node]? = some x := ⟨_, List.getElem?_eq_getElem (by omega)⟩
    have := h1 _ x h hx
    have := pln_at hx
    omega
  · exact h
  · have hl := pln_le l node
    obtain ⟨x, hx⟩ : ∃ x, l[k]? = some x := ⟨_, List.getElem?_eq_getElem (by omega)⟩
    have := pln_lt h hx
    have := h2 x hx
    omega
theorem leaseR_true {l : List (Int × Int)} {node : Int} (h : leaseR l node = true) : ∃ x, l[pln l node]? = some x ∧ x.1 = node := by
  unfold leaseR at h
  split at h
  · rename_i r hr
    exact ⟨r, hr, by simpa using h⟩
  · cases h
theorem riseL_pl {l : List (Int × Int)} (h : RiseL l) {k : Nat} {x : Int × Int} (hr : l[k]? = some x) : pln l x.1 = k ∧ leaseR l x.1 = true := by
  have hk := (List.getElem?_eq_some_iff.1 hr).1
  have e : pln l x.1 = k := pln_is (by omega) (fun j y hj hy => riseL_lt h hy hr hj) (fun y hy => by rw [hr] at hy; injection hy with hy; rw [hy]; exact Int.le_refl _)
  refine ⟨e, ?_⟩
  unfold leaseR
  rw [e, hr]
  simp
theorem leaseR_false {l : List (Int × Int)} {node : Int} (h : RiseL l) (hf : leaseR l node = false) {x : Int × Int} (hx : x ∈ l) : x.1 ≠ node := by
  rintro rfl
  obtain ⟨k, hk⟩ := List.getElem?_of_mem hx
  rw [(riseL_pl h hk).2] at hf
  cases hf
theorem leaseR_no {l : List (Int × Int)} {node : Int} (hf : ∀ x ∈ l, x.1 ≠ node) : leaseR l node = false := by
  cases h : leaseR l node with
  | false => rfl
  | true =>
    obtain ⟨x, hx, he⟩ := leaseR_true h
    exact absurd he (hf x (List.mem_of_getElem? hx))
/-- a lease laid in -/
def putL (l : List (Int × Int)) (node n : Int) : List (Int × Int) := l.take (pln l node) ++ (node, n) :: l.drop (pln l node)
/-- the document's way -/
def putStep (p : Int × Int) (s : List (Int × Int) × Bool) (x : Int × Int) : List (Int × Int) × Bool := if !s.2 && decide (x.1 > p.1) then (s.1 ++ [p] ++ [x], true) else (s.1 ++ [x], s.2)
def putEnd (p : Int × Int) (s : List (Int × Int) × Bool) : List (Int × Int) := if s.2 then s.1 else s.1 ++ [p]
theorem put_done (p : Int × Int) : ∀ (l acc : List (Int × Int)), l.foldl (putStep p) (acc, true) = (acc ++ l, true)
  | [], acc => by simp
  | x :: l, acc => by
    rw [List.foldl_cons]
    have e : putStep p (acc, true) x = (acc ++ [x], true) := by unfold putStep; simp
    rw [e, put_done p l]
    simp
theorem put_is (node n : Int) : ∀ (l acc : List (Int × Int)), RiseL l → (∀ x ∈ l, x.1 ≠ node) → putEnd (node, n) (l.foldl (putStep (node, n)) (acc, false)) = acc ++ putL l node n
  | [], acc, _, _ => by simp [putEnd, putL]
  | x :: l, acc, h, hn => by
    have hl : RiseL l := List.Pairwise.of_cons h
    have hx := hn x (by simp)
    rw [List.foldl_cons]
    by_cases hlt : x.1 < node
    · have e : putStep (node, n) (acc, false) x = (acc ++ [x], false) := by unfold putStep; rw [if_neg (by simp; omega)]
      have e2 : pln (x :: l) node = pln l node + 1 := by
        conv => lhs; unfold pln
        rw [if_neg (by omega)]
      rw [e, put_is node n l _ hl (fun y hy => hn y (by simp [hy]))]
      unfold putL
      rw [e2]
      simp
    · have e : putStep (node, n) (acc, false) x = (acc ++ [(node, n)] ++ [x], true) := by unfold putStep; rw [if_pos (by simp; omega)]
      have e2 : pln (x :: l) node = 0 := by
        conv => lhs; unfold pln
        rw [if_pos (by omega)]
      rw [e, put_done]
      unfold putL
      rw [e2]
      simp [putEnd]
/-- Settle: the rows behind it, and what was settled as spent -/
def spentR (amount spent : Int) : Int := if spent < 0 then amount else min spent amount
def settledR (r : Row) (node spent : Int) (x : Int × Int) : Row := ⟨r.key, two r.avail (x.2 - spentR x.2 spent), r.mark, r.out.eraseIdx (pln r.out node)⟩
def settleR (start : Int) (R : List Row) (key node spent : Int) : List Row × Int :=
  if leaseR (rwAt start R key).out node then (match (rwAt start R key).out[pln (rwAt start R key).out node]? with
    | some x => (withR R (settledR (rwAt start R key) node spent x), spentR x.2 spent)
    | none => (R, 0)) else (R, 0)
/-- Grant: the rows behind it, and what was granted -/
def canR (r : Row) (want : Int) : Int := min (min (fit want) r.avail) 2147483648
def grantR (start : Int) (R : List Row) (key node want : Int) : List Row × Int :=
  if isAt R key = false ∨ leaseR (rwAt start R key).out node = true ∨ canR (rwAt start R key) want < 1 ∨ node < 0 ∨ node ≥ 64 then (R, 0)
  else (withR R ⟨key, (rwAt start R key).avail - canR (rwAt start R key) want, (rwAt start R key).mark, putL (rwAt start R key).out node (canR (rwAt start R key) want)⟩, canR (rwAt start R key) want)
/-- the keys of which a node has something out -/
def heldR (R : List Row) (node : Int) : List Int := (R.filter fun r => leaseR r.out node).map (·.key)
/-- a row as a table holds it -/
structure RowOk (r : Row) : Prop where
  a0 : 0 ≤ r.avail
  a1 : r.avail ≤ 4611686018427387904
  out : RiseL r.out
  node : ∀ x ∈ r.out, 0 ≤ x.1 ∧ x.1 < 64
  amt : ∀ x ∈ r.out, 1 ≤ x.2 ∧ x.2 ≤ 2147483648
structure Ok (R : List Row) : Prop where
  rise : Rise R
  len : R.length ≤ 16
  row : ∀ r ∈ R, RowOk r
theorem rise_len : ∀ {l : List (Int × Int)} {lo : Int}, RiseL l → (∀ x ∈ l, lo ≤ x.1 ∧ x.1 < 64) → (lo ≤ 64) → (l.length : Int) ≤ 64 - lo
  | [], lo, _, _, h => by simp; omega
  | x :: l, lo, h, hb, _ => by
    have hx := hb x (by simp)
    have := rise_len (l := l) (lo := x.1 + 1) (List.Pairwise.of_cons h) (fun y hy => ⟨by have := (List.pairwise_cons.1 h).1 y hy; omega, (hb y (by simp [hy])).2⟩) (by omega)
    simp only [List.length_cons]
    omega
theorem RowOk.len {r : Row} (h : RowOk r) : r.out.length ≤ 64 := by
  have := rise_len h.out h.node (by omega)
  omega
theorem rwAt_ok {start : Int} {R : List Row} (h : Ok R) (key : Int) : RowOk (rwAt start R key) := by
  unfold rwAt
  have z : RowOk ⟨key, 0, start, []⟩ := ⟨by simp, by simp, by simp [RiseL], by simp, by simp⟩
  split
  · rename_i r hr
    split
    · exact h.row r (List.mem_of_getElem? hr)
    · exact z
  · exact z
theorem withR_ok {R : List Row} {r : Row} (h : Ok R) (hr : RowOk r) (hl : isAt R r.key = true ∨ R.length < 16) : Ok (withR R r) := by
  refine ⟨(withR_rise r h.rise).1, ?_, fun x hx => ?_⟩
  · rw [withR_len]
    have := h.len
    split
    · exact this
    · rcases hl with hl | hl
      · contradiction
      · omega
  · rcases mem_withR hx with rfl | hx
    · exact hr
    · exact h.row x hx
theorem sweep_ok {start : Int} {c : Cf} {now : Int} {R : List Row} (h : Ok R) : Ok (sweepR start c now R) :=
  ⟨sweep_rise h.rise, Nat.le_trans (List.length_filter_le _ _) h.len, fun r hr => h.row r (List.mem_filter.1 hr).1⟩
theorem base_ok {start : Int} {R B : List Row} {key now : Int} {c : Cf} (h : Ok R) (hc : c.keys ≤ 16) (hb : baseR start R key now c = some B) : Ok B ∧ (isAt B key = true ∨ B.length < 16) := by
  unfold baseR at hb
  split at hb
  · split at hb
    · cases hb
    · injection hb with hb
      subst hb
      exact ⟨sweep_ok h, .inr (by omega)⟩
  · injection hb with hb
    subst hb
    rename_i h1
    refine ⟨h, ?_⟩
    cases hk : isAt R key with
    | true => exact .inl rfl
    | false => exact .inr (by have : ¬ (R.length : Int) ≥ c.keys := fun h2 => h1 ⟨hk, h2⟩; omega)
theorem minted_ok {r : Row} (h : RowOk r) (now : Int) (q : Int × Int) : RowOk (mintedR r now q) :=
  ⟨(two_bd _ _).1, (two_bd _ _).2, h.out, h.node, h.amt⟩
theorem mint_ok {start : Int} {R : List Row} {key now : Int} {c : Cf} (h : Ok R) (hc : c.keys ≤ 16) : Ok (mintR start R key now c).1 := by
  unfold mintR
  split
  · exact h
  · split
    · exact h
    · rename_i B hb
      obtain ⟨h1, h2⟩ := base_ok h hc hb
      refine withR_ok h1 (minted_ok (rwAt_ok h1 key) _ _) ?_
      unfold lookR mintedR
      simp only [rwAt_key]
      exact h2
theorem eraseIdx_mem {α : Type} {l : List α} {i : Nat} {x : α} (h : x ∈ l.eraseIdx i) : x ∈ l := (List.eraseIdx_sublist l i).mem h
theorem settle_ok {start : Int} {R : List Row} {key node spent : Int} (h : Ok R) : Ok (settleR start R key node spent).1 := by
  unfold settleR
  have hr := rwAt_ok (start := start) h key
  split
  · rename_i hl
    split
    · rename_i x hx
      refine withR_ok h ⟨(two_bd _ _).1, (two_bd _ _).2, List.Pairwise.sublist (List.eraseIdx_sublist _ _) hr.out, fun y hy => hr.node y (eraseIdx_mem hy), fun y hy => hr.amt y (eraseIdx_mem hy)⟩ (.inl ?_)
      unfold settledR
      simp only [rwAt_key]
      cases hk : isAt R key with
      | true => rfl
      | false =>
        rw [rwAt_no hk] at hl
        simp [leaseR, pln] at hl
    · exact h
  · exact h
theorem putL_mem {l : List (Int × Int)} {node n : Int} {x : Int × Int} (h : x ∈ putL l node n) : x = (node, n) ∨ x ∈ l := by
  unfold putL at h
  rcases List.mem_append.1 h with h | h
  · exact .inr (List.mem_of_mem_take h)
  · rcases List.mem_cons.1 h with h | h
    · exact .inl h
    · exact .inr (List.mem_of_mem_drop h)
theorem putL_rise {l : List (Int × Int)} {node n : Int} (h : RiseL l) (hf : leaseR l node = false) : RiseL (putL l node n) := by
  unfold putL
  have h1 : ∀ x ∈ l.take (pln l node), x.1 < node := fun x hx => by
    obtain ⟨j, hj⟩ := List.getElem?_of_mem hx
    rw [List.getElem?_take] at hj
    split at hj
    · exact pln_lt (by assumption) hj
    · cases hj
  have h2 : ∀ x ∈ l.drop (pln l node), node < x.1 := fun x hx => by
    obtain ⟨j, hj⟩ := List.getElem?_of_mem hx
    rw [List.getElem?_drop] at hj
    have hm := leaseR_false h hf (List.mem_of_getElem? hj)
    obtain ⟨y, hy⟩ : ∃ y, l[pln l node]? = some y := ⟨_, List.getElem?_eq_getElem (by have := (List.getElem?_eq_some_iff.1 hj).1; omega)⟩
    have := pln_at hy
    rcases Nat.eq_zero_or_pos j with rfl | hp
    · rw [Nat.add_zero, hy] at hj
      injection hj with hj
      subst hj
      omega
    · have := riseL_lt h hy hj (by omega)
      omega
  refine List.pairwise_append.2 ⟨List.Pairwise.sublist (List.take_sublist _ _) h, List.pairwise_cons.2 ⟨h2, List.Pairwise.sublist (List.drop_sublist _ _) h⟩, fun x hx y hy => ?_⟩
  have hx1 := h1 x hx
  rcases List.mem_cons.1 hy with rfl | hy
  · exact hx1
  · have := h2 y hy
    omega
theorem grant_ok {start : Int} {R : List Row} {key node want : Int} (h : Ok R) : Ok (grantR start R key node want).1 := by
  unfold grantR
  have hr := rwAt_ok (start := start) h key
  split
  · exact h
  · rename_i hc
    simp only [not_or, Bool.not_eq_false, Bool.not_eq_true] at hc
    obtain ⟨c1, c2, c3, c4, c5⟩ := hc
    have hn : canR (rwAt start R key) want ≤ (rwAt start R key).avail ∧ canR (rwAt start R key) want ≤ 2147483648 := by unfold canR; omega
    have ha := hr.a0
    have hb := hr.a1
    refine withR_ok h ⟨by simp only; omega, by simp only; omega, putL_rise hr.out c2, fun x hx => ?_, fun x hx => ?_⟩ (.inl c1)
    · rcases putL_mem hx with rfl | hx
      · simp only; omega
      · exact hr.node x hx
    · rcases putL_mem hx with rfl | hx
      · simp only; omega
      · exact hr.amt x hx
theorem settle_no {start : Int} {R : List Row} {key node spent : Int} (h : leaseR (rwAt start R key).out node = false) : settleR start R key node spent = (R, 0) := by
  unfold settleR; rw [h]; rfl
theorem settle_yes {start : Int} {R : List Row} {key node spent : Int} {x : Int × Int} (h : leaseR (rwAt start R key).out node = true) (hx : (rwAt start R key).out[pln (rwAt start R key).out node]? = some x) : settleR start R key node spent = (withR R (settledR (rwAt start R key) node spent x), spentR x.2 spent) := by
  unfold settleR; rw [h, hx]; rfl
end Go.Proofs.Ytphhfdlhkginkaa.Ba
