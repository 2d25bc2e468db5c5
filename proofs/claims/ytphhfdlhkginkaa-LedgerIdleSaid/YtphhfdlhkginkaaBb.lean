/- The ledger's at and Find, and the document's. -/
import Derived.Test.YtphhfdlhkginkaaBa
import Derived.Test.YtphhfdlhkginkaaFf
import Derived.Test.YtphhfdlhkginkaaWg
set_option linter.unusedVariables false
set_option linter.unusedSimpArgs false
set_option maxRecDepth 100000
namespace Go.Proofs.Ytphhfdlhkginkaa.Bb
open Go.RowKit Go.MapKept Hm Hs Hf Hx Hy Hv Fa Ff Ba
set_option maxHeartbeats 4000000 in
theorem at_is (w : World) (start key : Int) (v : Value) (R : List Row) (h : RT w v R) : Calls Try.prog 37 #[.agg #[.int .i64 start, v], .int .i64 key] w fun e w' => e = .returned (.tuple #[.int .i64 (pl R key), .bool (isAt R key)]) ∧ Turns [] w w' := by
  obtain ⟨A, c, rfl, hlc, hcm⟩ := h.form
  have hh := Lib.hid h
  obtain ⟨p, hp⟩ : ∃ p, pl R key = p := ⟨_, rfl⟩
  obtain ⟨b, hb⟩ : ∃ b, isAt R key = b := ⟨_, rfl⟩
  rw [hp, hb]
  have hph := Lib.hid hp
  have hbh := Lib.hid hb
  have B0 := Blk.new w #[.int .i64 start, .slice A R.length c] 24
  have T0 := (Turns.refl [] w).alloc (.cells #[.int .i64 start, .slice A R.length c] 24)
  have t1 : World.cell? (w.alloc (.cells #[.int .i64 start, .slice A R.length c] 24)) ⟨w.heap.size, 1, none⟩ = some _ := (B0).cell 1
  clear h hp hb B0
  have hr0 := Lib.hid (hh.out.turns T0)
  generalize hw0 : w.alloc (.cells #[.int .i64 start, .slice A R.length c] 24) = w0 at *
  go_enter Try.func37, Try.ntmps37
  go_wp2_with fail
  try rw [hw0]
  clear hw0
  refine Ht.wp_scope_once 0 (fun a' w' => w' = w0 ∧ ∃ (k : Nat) (u7 u8 u9 u10 u11 u12 u13 u14 u15 u16 u17 u18 u19 u20 u21 u22 u23 u24 u25 u26 u27 u28 u29 u30 u31 u32 u33 u34 u35 u36 u37 u38 u39 : Value), a' = { tmps := #[.agg #[.int .i64 start, .slice A R.length c], .int .i64 key, .pointer (some ⟨w.heap.size, 0, none⟩), undef, .int .i64 0, .bool false, .int .i64 k, u7, u8, u9, u10, u11, u12, u13, u14, u15, u16, u17, u18, u19, u20, u21, u22, u23, u24, u25, u26, u27, u28, u29, u30, u31, u32, u33, u34, u35, u36, u37, u38, u39], defers := [] } ∧ k ≤ R.length ∧ p = k + pl (R.drop k) key) (fun a' _ => R.length - (RowKit.intOf (a'.tmps.getD 6 undef)).toNat) rfl ?_ ?_
  · rintro a' w' ⟨rfl, k, u7, u8, u9, u10, u11, u12, u13, u14, u15, u16, u17, u18, u19, u20, u21, u22, u23, u24, u25, u26, u27, u28, u29, u30, u31, u32, u33, u34, u35, u36, u37, u38, u39, rfl, hkl, hpk⟩
    by_cases hlt : k < R.length
    · obtain ⟨r, hr⟩ : ∃ r, R[k]? = some r := ⟨_, List.getElem?_eq_getElem hlt⟩
      obtain ⟨ad, c', x, hv, hxr, LX⟩ := hr0.out.at_ hr
      injection hv with e1 e2 e3
      subst e1 e3
      have x0 := LX.k
      have hkey := hxr.key
      rw [hkey] at x0
      have g1 : (((k : Nat) : Int) == (R.length : Int)) = false := by simp; omega
      have g1b : decide (((k : Nat) : Int) < (R.length : Int)) = true := decide_eq_true (by omega)
      have g1c : decide (k < R.length) = true := decide_eq_true hlt
      have g1d : (k == R.length) = false := by simp; omega
      by_cases hge : key ≤ r.key
      · have g2 : decide (r.key ≥ key) = true := decide_eq_true hge
        have g2b : decide (key ≤ r.key) = true := decide_eq_true hge
        have hpp : p = k := by rw [hpk, pl_here hr hge]; omega
        have hbb : b = (r.key == key) := by rw [← hbh.out]; unfold isAt; rw [hph.out, hpp, hr]
        have hbq := Lib.hid hbb
        subst hpp
        clear hpk LX e2 hxr hkey hr hge hbb
        go_wp2_with fail
        go_wp2_with fail
        refine wp_region_flo [(0, true), (1, true), (2, true), (3, true), (4, true), (5, true), (6, true), (7, true), (8, true), (9, true), (10, true), (11, true), (12, true), (13, true), (14, true), (15, true), (16, true), (17, true)] (fun W => W = w'.drew) (by kernel_rfl) rfl (by kernel_rfl) (by intro c d v a w h; cases d <;> first | (simpa [Exit.then, Exit.inBlock, Act.put] using h) | exact h) (rfl) ?_
        refine flo_read _ rfl (fun K hK => ?_)
        go_simp
        first | (refine hK _ ?_) | (refine ⟨fun W hS => ?_, hK _ ?_⟩; · (subst hS; try go_simp))
        clear hK K
        refine flo_read _ rfl (fun K hK => ?_)
        go_simp
        first | (refine hK _ ?_) | (refine ⟨fun W hS => ?_, hK _ ?_⟩; · (subst hS; try go_simp))
        clear hK K
        refine flo_read _ rfl (fun K hK => ?_)
        go_simp
        first | (refine hK _ ?_) | (refine ⟨fun W hS => ?_, hK _ ?_⟩; · (subst hS; try go_simp))
        clear hK K
        refine flo_read _ rfl (fun K hK => ?_)
        go_simp
        first | (refine hK _ ?_) | (refine ⟨fun W hS => ?_, hK _ ?_⟩; · (subst hS; try go_simp))
        clear hK K
        refine flo_read _ rfl (fun K hK => ?_)
        go_simp
        first | (refine hK _ ?_) | (refine ⟨fun W hS => ?_, hK _ ?_⟩; · (subst hS; try go_simp))
        clear hK K
        refine flo_read _ rfl (fun K hK => ?_)
        go_simp
        first | (refine hK _ ?_) | (refine ⟨fun W hS => ?_, hK _ ?_⟩; · (subst hS; try go_simp))
        clear hK K
        refine flo_read _ rfl (fun K hK => ?_)
        go_simp
        first | (refine hK _ ?_) | (refine ⟨fun W hS => ?_, hK _ ?_⟩; · (subst hS; try go_simp))
        clear hK K
        refine flo_read _ rfl (fun K hK => ?_)
        go_simp
        first | (refine hK _ ?_) | (refine ⟨fun W hS => ?_, hK _ ?_⟩; · (subst hS; try go_simp))
        clear hK K
        refine flo_read _ rfl (fun K hK => ?_)
        go_simp
        first | (refine hK _ ?_) | (refine ⟨fun W hS => ?_, hK _ ?_⟩; · (subst hS; try go_simp))
        clear hK K
        refine flo_read _ rfl (fun K hK => ?_)
        go_simp
        first | (refine hK _ ?_) | (refine ⟨fun W hS => ?_, hK _ ?_⟩; · (subst hS; try go_simp))
        clear hK K
        refine flo_read _ rfl (fun K hK => ?_)
        go_simp
        first | (refine hK _ ?_) | (refine ⟨fun W hS => ?_, hK _ ?_⟩; · (subst hS; try go_simp))
        clear hK K
        refine flo_read _ rfl (fun K hK => ?_)
        go_simp
        first | (refine hK _ ?_) | (refine ⟨fun W hS => ?_, hK _ ?_⟩; · (subst hS; try go_simp))
        clear hK K
        refine flo_read _ rfl (fun K hK => ?_)
        go_simp
        first | (refine hK _ ?_) | (refine ⟨fun W hS => ?_, hK _ ?_⟩; · (subst hS; try go_simp))
        clear hK K
        refine flo_read _ rfl (fun K hK => ?_)
        go_simp
        first | (refine hK _ ?_) | (refine ⟨fun W hS => ?_, hK _ ?_⟩; · (subst hS; try go_simp))
        clear hK K
        refine flo_read _ rfl (fun K hK => ?_)
        go_simp
        first | (refine hK _ ?_) | (refine ⟨fun W hS => ?_, hK _ ?_⟩; · (subst hS; try go_simp))
        clear hK K
        refine flo_read _ rfl (fun K hK => ?_)
        go_simp
        first | (refine hK _ ?_) | (refine ⟨fun W hS => ?_, hK _ ?_⟩; · (subst hS; try go_simp))
        clear hK K
        refine flo_read _ rfl (fun K hK => ?_)
        go_simp
        first | (refine hK _ ?_) | (refine ⟨fun W hS => ?_, hK _ ?_⟩; · (subst hS; try go_simp))
        clear hK K
        refine flo_read _ rfl (fun K hK => ?_)
        go_simp
        first | (refine hK _ ?_) | (refine ⟨fun W hS => ?_, hK _ ?_⟩; · (subst hS; try go_simp))
        clear hK K
        refine flo_end ?_
        go_wp2_with fail
        simp only [Exit.jump]
        go_ret2
        exact ⟨by rw [hbq.out]; rfl, T0.drew⟩
      · have g2 : decide (r.key ≥ key) = false := decide_eq_false hge
        have g2b : decide (key ≤ r.key) = false := decide_eq_false hge
        rw [pl_next hr hge] at hpk
        have hpkh := Lib.hid hpk
        clear hpk LX e2 hxr hkey hr hge
        go_wp2_with fail
        go_step3
        exact ⟨rfl, ⟨rfl, k + 1, _, _, _, _, _, _, _, _, _, _, _, _, _, _, _, _, _, _, _, _, _, _, _, _, _, _, _, _, _, _, _, _, _, rfl, by omega, by have := hpkh.out; omega⟩, by simp [RowKit.intOf]; omega⟩
    · obtain rfl : k = R.length := by omega
      have g1 : ((R.length : Int) == (R.length : Int)) = true := by simp
      have g1b : decide ((R.length : Int) < (R.length : Int)) = false := by simp
      rw [List.drop_length] at hpk
      unfold pl at hpk
      have hbb : b = false := by rw [← hbh.out]; unfold isAt; rw [hph.out, hpk, Nat.add_zero, List.getElem?_eq_none (by omega)]
      obtain rfl : p = R.length := by omega
      subst hbb
      clear hpk
      go_wp2_with fail
      go_wp2_with fail
      refine wp_region_flo [(0, true), (1, true), (2, true), (3, true), (4, true), (5, true), (6, true), (7, true), (8, true), (9, true), (10, true), (11, true), (12, true), (13, true), (14, true), (15, true), (16, true), (17, true)] (fun W => W = w'.drew) (by kernel_rfl) rfl (by kernel_rfl) (by intro c d v a w h; cases d <;> first | (simpa [Exit.then, Exit.inBlock, Act.put] using h) | exact h) (rfl) ?_
      refine flo_read _ rfl (fun K hK => ?_)
      go_simp
      first | (refine hK _ ?_) | (refine ⟨fun W hS => ?_, hK _ ?_⟩; · (subst hS; try go_simp))
      clear hK K
      refine flo_read _ rfl (fun K hK => ?_)
      go_simp
      first | (refine hK _ ?_) | (refine ⟨fun W hS => ?_, hK _ ?_⟩; · (subst hS; try go_simp))
      clear hK K
      refine flo_read _ rfl (fun K hK => ?_)
      go_simp
      first | (refine hK _ ?_) | (refine ⟨fun W hS => ?_, hK _ ?_⟩; · (subst hS; try go_simp))
      clear hK K
      refine flo_read _ rfl (fun K hK => ?_)
      go_simp
      first | (refine hK _ ?_) | (refine ⟨fun W hS => ?_, hK _ ?_⟩; · (subst hS; try go_simp))
      clear hK K
      refine flo_read _ rfl (fun K hK => ?_)
      go_simp
      first | (refine hK _ ?_) | (refine ⟨fun W hS => ?_, hK _ ?_⟩; · (subst hS; try go_simp))
      clear hK K
      refine flo_read _ rfl (fun K hK => ?_)
      go_simp
      first | (refine hK _ ?_) | (refine ⟨fun W hS => ?_, hK _ ?_⟩; · (subst hS; try go_simp))
      clear hK K
      refine flo_read _ rfl (fun K hK => ?_)
      go_simp
      first | (refine hK _ ?_) | (refine ⟨fun W hS => ?_, hK _ ?_⟩; · (subst hS; try go_simp))
      clear hK K
      refine flo_read _ rfl (fun K hK => ?_)
      go_simp
      first | (refine hK _ ?_) | (refine ⟨fun W hS => ?_, hK _ ?_⟩; · (subst hS; try go_simp))
      clear hK K
      refine flo_read _ rfl (fun K hK => ?_)
      go_simp
      first | (refine hK _ ?_) | (refine ⟨fun W hS => ?_, hK _ ?_⟩; · (subst hS; try go_simp))
      clear hK K
      refine flo_read _ rfl (fun K hK => ?_)
      go_simp
      first | (refine hK _ ?_) | (refine ⟨fun W hS => ?_, hK _ ?_⟩; · (subst hS; try go_simp))
      clear hK K
      refine flo_read _ rfl (fun K hK => ?_)
      go_simp
      first | (refine hK _ ?_) | (refine ⟨fun W hS => ?_, hK _ ?_⟩; · (subst hS; try go_simp))
      clear hK K
      refine flo_read _ rfl (fun K hK => ?_)
      go_simp
      first | (refine hK _ ?_) | (refine ⟨fun W hS => ?_, hK _ ?_⟩; · (subst hS; try go_simp))
      clear hK K
      refine flo_read _ rfl (fun K hK => ?_)
      go_simp
      first | (refine hK _ ?_) | (refine ⟨fun W hS => ?_, hK _ ?_⟩; · (subst hS; try go_simp))
      clear hK K
      refine flo_read _ rfl (fun K hK => ?_)
      go_simp
      first | (refine hK _ ?_) | (refine ⟨fun W hS => ?_, hK _ ?_⟩; · (subst hS; try go_simp))
      clear hK K
      refine flo_read _ rfl (fun K hK => ?_)
      go_simp
      first | (refine hK _ ?_) | (refine ⟨fun W hS => ?_, hK _ ?_⟩; · (subst hS; try go_simp))
      clear hK K
      refine flo_read _ rfl (fun K hK => ?_)
      go_simp
      first | (refine hK _ ?_) | (refine ⟨fun W hS => ?_, hK _ ?_⟩; · (subst hS; try go_simp))
      clear hK K
      refine flo_read _ rfl (fun K hK => ?_)
      go_simp
      first | (refine hK _ ?_) | (refine ⟨fun W hS => ?_, hK _ ?_⟩; · (subst hS; try go_simp))
      clear hK K
      refine flo_read _ rfl (fun K hK => ?_)
      go_simp
      first | (refine hK _ ?_) | (refine ⟨fun W hS => ?_, hK _ ?_⟩; · (subst hS; try go_simp))
      clear hK K
      refine flo_end ?_
      go_wp2_with fail
      simp only [Exit.jump]
      go_ret2
      exact ⟨rfl, T0.drew⟩
  · intro hF
    have hFh := Lib.hid hF
    clear hF
    go_wp2
    go_step3
    rename_i K hK
    exact hK _ _ (hFh.out _ _ ⟨rfl, 0, _, _, _, _, _, _, _, _, _, _, _, _, _, _, _, _, _, _, _, _, _, _, _, _, _, _, _, _, _, _, _, _, _, rfl, by omega, by simp [hph.out]⟩)
end Go.Proofs.Ytphhfdlhkginkaa.Bb
