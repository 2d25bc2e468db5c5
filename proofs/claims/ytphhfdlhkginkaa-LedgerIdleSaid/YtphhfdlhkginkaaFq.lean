/- slices.Clone of leases, of rows; frame.Clone: the same token, in memory of its own. -/
import Derived.Test.YtphhfdlhkginkaaFi
set_option linter.unusedVariables false
set_option linter.unusedSimpArgs false
set_option maxRecDepth 100000
namespace Go.Proofs.Ytphhfdlhkginkaa.Fq
open Go.RowKit Go.MapKept Go.Shelf Hm Hs Hf Hx Hy Hv Fa Fb Ff Fg Fi
theorem RdS.far {w w' : World} {F : List Nat} {v : Value} {sz : Nat} {rows : List (List Value)} (h : RdS sz w v rows) (t : Turns F w w') (hF : ∀ k, v.ownBlock = some k → k ∉ F) : RdS sz w' v rows := by
  obtain ⟨A, c, hv, hc, hm2, hn, hf, hl⟩ := h
  refine ⟨A, c, hv, hc, hm2, hn, ⟨hf.1, fun hp => ?_⟩, hl⟩
  obtain ⟨ad, e, hh⟩ := hf.2 hp
  subst e
  refine ⟨ad, rfl, fun j r hj => ⟨(hh j r hj).1, fun i u hu => ?_⟩⟩
  have hcell := (hh j r hj).2 i u hu
  have hb : (ad.add (j * sz + i)).block = ad.block := by unfold Addr.add; split <;> rfl
  rw [t.cell (World.block_lt_of_cell? w _ hcell) (by rw [hb]; exact hF _ (by rw [hv]; rfl))]
  exact hcell
/-- its own memory lies from n on -/
def From (n : Nat) (v : Value) : Prop := ∀ k, v.ownBlock = some k → n ≤ k
structure RowsFrom (n : Nat) (w : World) (v : Value) (R : List Row) : Prop where
  own : From n v
  rows : ∃ X : List Rw, RdS 4 w v (X.map Rw.cells) ∧ RowsIs w X R ∧ ∀ x ∈ X, From n x.out
structure TokFrom (n : Nat) (w : World) (t : Tok) (sv rv : Value) : Prop where
  so : From n sv
  st : RdS 1 w sv (ins t.st)
  rows : RowsFrom n w rv t.rows
theorem RowsFrom.far {n : Nat} {w w' : World} {v : Value} {R : List Row} {F : List Nat} (h : RowsFrom n w v R) (t : Turns F w w') (hF : ∀ k ∈ F, k < n) : RowsFrom n w' v R := by
  obtain ⟨ho, X, h1, h2, h3⟩ := h
  have hn : ∀ u, From n u → ∀ k, u.ownBlock = some k → k ∉ F := fun u hu k hk hkF => by
    have := hu k hk
    have := hF k hkF
    omega
  exact ⟨ho, X, RdS.far h1 t (hn v ho), ⟨h2.1, fun j x r hx hr => by
    obtain ⟨a, b, c, d⟩ := h2.2 j x r hx hr
    exact ⟨a, b, c, RdS.far d t (hn _ (h3 x (List.mem_of_getElem? hx)))⟩⟩, h3⟩
theorem TokFrom.far {n : Nat} {w w' : World} {t : Tok} {sv rv : Value} {F : List Nat} (h : TokFrom n w t sv rv) (T : Turns F w w') (hF : ∀ k ∈ F, k < n) : TokFrom n w' t sv rv :=
  ⟨h.so, RdS.far h.st T (fun k hk hkF => by have := h.so k hk; have := hF k hkF; omega), h.rows.far T hF⟩
theorem TokFrom.tok {n : Nat} {w : World} {t : Tok} {sv rv : Value} (h : TokFrom n w t sv rv) : TokR w t sv rv := by
  obtain ⟨X, h1, h2, _⟩ := h.rows.rows
  exact ⟨h.st, X, h1, h2⟩
theorem TokFrom.mono {n m : Nat} {w : World} {t : Tok} {sv rv : Value} (h : TokFrom n w t sv rv) (hm : m ≤ n) : TokFrom m w t sv rv := by
  obtain ⟨X, h1, h2, h3⟩ := h.rows.rows
  exact ⟨fun k hk => Nat.le_trans hm (h.so k hk), h.st, fun k hk => Nat.le_trans hm (h.rows.own k hk), X, h1, h2, fun x hx k hk => Nat.le_trans hm (h3 x hx k hk)⟩
theorem infoRow : (Try.prog.info? 38).map (fun i => (i.zero, i.size, i.bytes)) = some (some (.agg #[.int .i64 0, .int .i64 0, .int .i64 0, .slice none 0 0]), 4, 48) := by kernel_rfl
theorem infoLs : (Try.prog.info? 76).map (fun i => (i.zero, i.size, i.bytes)) = some (some (.agg #[.int .i64 0, .int .i64 0]), 2, 16) := by kernel_rfl
set_option maxHeartbeats 1000000 in
theorem cloneLs_is (w : World) (v : Value) (l : List (Int × Int)) (h : RdS 2 w v (lss l)) (hn : l.length ≤ 100000) : Calls Try.prog 61 #[v] w fun e w' => ∃ u, e = .returned u ∧ OwnS 76 2 w' u (lss l) ∧ Turns [] w w' ∧ (∀ k, u.ownBlock = some k → w.heap.size ≤ k) := by
  obtain ⟨A, c, rfl, hc, hcm⟩ := h.form
  rw [lss_len] at hc ⊢
  have hh := Lib.hid h
  have q37 : ∀ (w : World) (a : Option Addr) (n c n' c' : Nat), (binOp .eql 36 (.slice a n c) (.slice none n' c')).run Try.prog w = .ok (.bool a.isNone) w := fun w a n c n' c' => Lib.run_eql_slice_nil w _ _ a n c n' c' Try.underlying36
  clear h
  cases A with
  | none =>
    obtain ⟨A2, c2, hv2, _, _, hnil, _⟩ := hh.out
    injection hv2 with e1 e2 e3
    subst e1
    have hc0 : c = 0 := by rw [e3]; exact hnil rfl
    subst hc0
    obtain rfl : l = [] := List.eq_nil_of_length_eq_zero (by omega)
    clear hh hnil e2 e3
    go_enter Try.func61, Try.ntmps61
    go_wp2_with fail
    go_ret
    exact ⟨_, rfl, OwnS.nil _ _ _, Turns.refl _ _, by simp [Value.ownBlock]⟩
  | some ad =>
    have H := (Sep.start w).newSlice ((Turns.refl [] w).alloc (.cells #[] 76)) (own_nil_lit w 76 2) (by simp [Value.ownBlock])
    have hs0 := hh.out.mv (w' := w.alloc (.cells #[] 76)) (fun a u => ((Turns.refl [] w).alloc (.cells #[] 76)).old)
    rw [lss_len] at hs0
    have hs1 := Lib.hid hs0
    clear hs0
    go_enter Try.func61, Try.ntmps61
    go_wp2_with (at_builtin; refine stop_ ?_)
    refine Mk_.mk ?_
    refine H.append 0 rfl hs1.out l.length (by simp [lss_len]) (lss l) (by simp) rfl _ _ _ rfl (.agg #[.int .i64 0, .int .i64 0]) 16 Try.underlying36 infoLs rfl (by decide) rfl rfl (lss_one _) (by omega) (by omega) ?_
    clear H hs1
    intro A1 c1 w3 H t3 _
    have O := H.own 0 rfl
    have T := H.t
    have Mi := mine_own H 0 rfl
    clear H t3
    go_wp2_with fail
    go_ret
    exact ⟨_, rfl, O, T, fun q hq => by simpa using Mi q hq⟩
theorem rows_one {X : List Rw} {R : List Row} {w : World} (h : RowsIs w X R) : ∀ r ∈ X.map Rw.cells, ∀ u ∈ r, u.oneCell' = true := by
  intro r hr u hu
  obtain ⟨x, hx, rfl⟩ := List.mem_map.1 hr
  obtain ⟨j, hj⟩ := List.getElem?_of_mem hx
  have hjl := (List.getElem?_eq_some_iff.1 hj).1
  obtain ⟨s, hs⟩ : ∃ s, R[j]? = some s := ⟨_, List.getElem?_eq_getElem (by rw [← h.1]; exact hjl)⟩
  obtain ⟨A, c, ho, _⟩ := ls_form (h.2 j x s hj hs).out
  unfold Rw.cells at hu
  rw [ho] at hu
  simp at hu
  rcases hu with rfl | rfl | rfl | rfl <;> rfl
set_option maxHeartbeats 1000000 in
theorem cloneRow_is (w : World) (v : Value) (X : List Rw) (h : RdS 4 w v (X.map Rw.cells)) (hn : X.length ≤ 100000) (ho : ∀ r ∈ X.map Rw.cells, ∀ u ∈ r, u.oneCell' = true) : Calls Try.prog 56 #[v] w fun e w' => ∃ u, e = .returned u ∧ OwnS 38 4 w' u (X.map Rw.cells) ∧ Turns [] w w' ∧ (∀ k, u.ownBlock = some k → w.heap.size ≤ k) := by
  obtain ⟨A, c, rfl, hc, hcm⟩ := h.form
  rw [List.length_map] at hc ⊢
  have hh := Lib.hid h
  have hoh := Lib.hid ho
  have q37 : ∀ (w : World) (a : Option Addr) (n c n' c' : Nat), (binOp .eql 22 (.slice a n c) (.slice none n' c')).run Try.prog w = .ok (.bool a.isNone) w := fun w a n c n' c' => Lib.run_eql_slice_nil w _ _ a n c n' c' Try.underlying22
  clear h ho
  cases A with
  | none =>
    obtain ⟨A2, c2, hv2, _, _, hnil, _⟩ := hh.out
    injection hv2 with e1 e2 e3
    subst e1
    have hc0 : c = 0 := by rw [e3]; exact hnil rfl
    subst hc0
    obtain rfl : X = [] := List.eq_nil_of_length_eq_zero (by omega)
    clear hh hnil e2 e3 hoh
    go_enter Try.func56, Try.ntmps56
    go_wp2_with fail
    go_ret
    exact ⟨_, rfl, OwnS.nil _ _ _, Turns.refl _ _, by simp [Value.ownBlock]⟩
  | some ad =>
    have H := (Sep.start w).newSlice ((Turns.refl [] w).alloc (.cells #[] 38)) (own_nil_lit w 38 4) (by simp [Value.ownBlock])
    have hs0 := hh.out.mv (w' := w.alloc (.cells #[] 38)) (fun a u => ((Turns.refl [] w).alloc (.cells #[] 38)).old)
    rw [List.length_map] at hs0
    have hs1 := Lib.hid hs0
    clear hs0
    go_enter Try.func56, Try.ntmps56
    go_wp2_with (at_builtin; refine stop_ ?_)
    refine Mk_.mk ?_
    refine H.append 0 rfl hs1.out X.length (by simp) (X.map Rw.cells) (by simp) rfl _ _ _ rfl (.agg #[.int .i64 0, .int .i64 0, .int .i64 0, .slice none 0 0]) 48 Try.underlying22 infoRow rfl (by decide) rfl rfl hoh.out (by omega) (by omega) ?_
    clear H hs1
    intro A1 c1 w3 H t3 _
    have O := H.own 0 rfl
    have T := H.t
    have Mi := mine_own H 0 rfl
    clear H t3
    go_wp2_with fail
    go_ret
    exact ⟨_, rfl, O, T, fun q hq => by simpa using Mi q hq⟩
end Go.Proofs.Ytphhfdlhkginkaa.Fq
