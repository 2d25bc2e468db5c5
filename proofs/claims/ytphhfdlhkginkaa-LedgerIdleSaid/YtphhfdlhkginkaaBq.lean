/- The ledger's Mint. -/
import Derived.Test.YtphhfdlhkginkaaBo
import Derived.Test.YtphhfdlhkginkaaBn
import Derived.Test.YtphhfdlhkginkaaBg
set_option linter.unusedVariables false
set_option linter.unusedSimpArgs false
set_option maxRecDepth 100000
namespace Go.Proofs.Ytphhfdlhkginkaa.Bq
open Go.RowKit Go.MapKept Go.Shelf Hm Hs Hr Hb Hf Hg Hx Hy Hv Hz Hu Fa Ff Fq Ba Bb Bc Bg Bi Bj Bo Cf Cn Sm Sat Mu Mv Ca Cb Bn Ia
def cfc (c : Cfg) : Array Value := #[.int .i64 c.n, .int .i64 c.skew, .int .i64 c.ttl, .int .i64 c.valid, .int .i64 c.loss, .int .i64 c.hear, .int .i64 c.keys, .int .i64 c.queue, c.rv]
def olen : Value → Nat
  | .slice _ n _ => n
  | _ => 0
/-- as much of a row as idle looks at -/
def rwRow (x : Rw) : Row := ⟨x.key, x.avail, x.mark, List.replicate (olen x.out) (0, 0)⟩
theorem idle_rw {w : World} {x : Rw} {r : Row} (h : RowIs w x r) (start now : Int) (c : Ba.Cf) : idleR start c now (rwRow x) = idleR start c now r := by
  obtain ⟨A, cc, rfl, _⟩ := row_form h
  unfold idleR rwRow olen
  simp only [List.length_replicate]
theorem rows_filter {w : World} {pX : Rw → Bool} {pR : Row → Bool} : ∀ {X : List Rw} {R : List Row}, RowsIs w X R → (∀ x r, RowIs w x r → pX x = pR r) → RowsIs w (X.filter pX) (R.filter pR)
  | [], [], _, _ => RowsIs.nil w
  | [], r :: R, h, _ => by have := h.1; simp at this
  | x :: X, [], h, _ => by have := h.1; simp at this
  | x :: X, r :: R, h, hp => by
    have hx : RowIs w x r := h.2 0 x r rfl rfl
    have ht : RowsIs w X R := ⟨by have := h.1; simpa using this, fun j y s hy hs => h.2 (j + 1) y s (by simpa using hy) (by simpa using hs)⟩
    have ih := rows_filter ht hp
    have e := hp x r hx
    rw [List.filter_cons, List.filter_cons, e]
    cases pR r with
    | true => exact RowsIs.app (RowsIs.one hx) ih
    | false => exact ih
set_option maxHeartbeats 2000000 in
theorem mint1_is (w : World) (start now : Int) (v : Value) (R : List Row) (x : Rw) (r : Row) (c : Cfg) (bt bn bc : Nat) (h : RT w v R) (hx : RowIs w x r) (hr : RdS 2 w c.rv (rts c.rates)) (Bt : Blk w bt #[.int .i64 start, v] 24) (Bn_ : Blk w bn #[.int .i64 now] 3) (Bc_ : Blk w bc (cfc c) 27) :
    Calls Try.prog 57 #[x.v, .pointer (some ⟨bt, 0, none⟩), .pointer (some ⟨bn, 0, none⟩), .pointer (some ⟨bc, 0, none⟩)] w fun e w' => e = .returned (.bool (idleR start (cfg c) now r)) ∧ Turns [] w w' := by
  obtain ⟨Ao, co, rfl, ho⟩ := row_form hx
  obtain ⟨A, cc, rfl, hlc, hcm⟩ := h.form
  have T0 := (Turns.refl [] w).alloc (.cells #[.int .i64 r.key, .int .i64 r.avail, .int .i64 r.mark, .slice Ao r.out.length co] 38)
  have I1 := Lib.hid (idle_is _ start now _ R _ r c (h.turns T0) (hx.turns T0) (hr.mv (fun a u => T0.old)))
  obtain ⟨Ar, cr, hrv, hlr, hcr⟩ := hr.form
  rw [rts_len] at hrv
  obtain ⟨n, skew, ttl, valid, loss, hear, keys, queue, rv, rates⟩ := c
  simp only at hrv
  subst hrv
  have t0 := T0.old (Bt.cell 0)
  have t1 := T0.old (Bt.cell 1)
  have n0 := T0.old (Bn_.cell 0)
  have c0 := T0.old (Bc_.cell 0)
  have c1 := T0.old (Bc_.cell 1)
  have c2 := T0.old (Bc_.cell 2)
  have c3 := T0.old (Bc_.cell 3)
  have c4 := T0.old (Bc_.cell 4)
  have c5 := T0.old (Bc_.cell 5)
  have c6 := T0.old (Bc_.cell 6)
  have c7 := T0.old (Bc_.cell 7)
  have c8 := T0.old (Bc_.cell 8)
  simp only [cfc] at c0 c1 c2 c3 c4 c5 c6 c7 c8
  generalize idleR start _ now r = b at *
  unfold Rw.v Cfg.v at I1
  unfold Rw.v
  simp only at I1 ⊢
  clear h hx hr ho Bt Bn_ Bc_
  go_enter Try.func57, Try.ntmps57
  go_wp2_with fail
  go_at_call 58
  refine Calls.mono (I1.out) ?_
  rintro e w1 ⟨rfl, t1'⟩
  go_wp2_with fail
  go_ret
  exact ⟨rfl, T0.trans t1'⟩
end Go.Proofs.Ytphhfdlhkginkaa.Bq
