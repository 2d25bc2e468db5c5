/- The walks of the document's queue: at. -/
import Derived.Test.YtoojemdehmabhaaQg
set_option linter.unusedVariables false
set_option linter.unusedSimpArgs false
set_option maxRecDepth 100000
namespace Go.Proofs.Ytoojemdehmabhaa.Qh
open Go.RowKit Go.MapKept Go.Shelf Hm Hs Hf Hg Hx Hy Hv Qa Qb Qe
/-- the document's queue: its block, its items -/
abbrev rq (d : Nat) (room : Int) (lv : Value) (R : List It) : List Th := [tBlk d #[.int .i64 room, lv] 31, tOwn 84 5 lv (R.map It.cells)]
theorem at_is (w : World) (d : Nat) (room : Int) (lv : Value) (R : List It) (k : Int) (h : Got (rq d room lv R) w) (hn : R.length ≤ 1000000) : Calls Try.prog 100 #[.pointer (some ⟨d, 0, none⟩), .int .i64 k] w fun e w' => e = .returned (.int .i64 (posQ R k)) ∧ Turns [] w w' := by
  have hrd := (h.sep.own 1 rfl).reads
  have hb := h.sep.blk 0 rfl
  obtain ⟨A, c, rfl, _⟩ := hrd.form
  rw [List.length_map] at hb
  obtain ⟨p, hp⟩ : ∃ p, posQ R k = p := ⟨_, rfl⟩
  rw [hp]
  have hph := Lib.hid hp
  have hrdh := Lib.hid hrd
  clear h hp hrd
  have c1 : World.cell? (w) ⟨d, 1, none⟩ = some _ := (hb).cell 1
  go_enter Try.func100, Try.ntmps100
  go_wp2_with fail
  go_loopw [5] (fun v5 wr => ∃ (j : Nat), j ≤ R.length ∧ v5 = .int .i64 j ∧ ixFrom (fun x => x.id == k) (R.drop j) j = p ∧ Turns [] w wr) (fun v5 _ => R.length - (RowKit.intOf v5).toNat)
  case atStart => exact ⟨0, by omega, rfl, hph.out, Turns.refl _ _⟩
  case round =>
    obtain ⟨j, hj, rfl, hpj, T⟩ := hrel
    clear c1
    have hpjh := Lib.hid hpj
    clear hpj
    have c1 := T.old (hb.cell 1)
    by_cases hlt : j < R.length
    · have g1 : decide ((j : Int) < (R.length : Int)) = true := by simp; omega
      obtain ⟨x, hx⟩ : ∃ x, R[j]? = some x := ⟨_, List.getElem?_eq_getElem hlt⟩
      obtain ⟨ad, c', hv, L⟩ := icells_at hrdh.out hx
      rw [List.length_map] at hv
      injection hv with e1 e2 e3
      subst e1 e3
      have i0 := (L.turns T).i
      have hp2 := hpjh.out
      rw [drop_cons hx] at hp2
      unfold ixFrom at hp2
      clear hx L e2
      by_cases hk : x.id = k
      · have g2 : (x.id == k) = true := by simpa using hk
        rw [if_pos g2] at hp2
        subst hp2
        clear hk
        go_wp2_with fail
        go_ret
        exact ⟨rfl, T⟩
      · have g2 : (x.id == k) = false := by simpa using hk
        rw [if_neg (by rw [g2]; simp)] at hp2
        have hp2h := Lib.hid hp2
        clear hp2 hk
        go_wp2_with fail
        go_roundw
        case rel => exact ⟨j + 1, by omega, by go_num, hp2h.out, T⟩
        case measure => simp [RowKit.intOf]; omega
    · obtain rfl : j = R.length := by omega
      have g1 : decide ((R.length : Int) < (R.length : Int)) = false := by simp
      have hp2 := hpjh.out
      rw [List.drop_length] at hp2
      unfold ixFrom at hp2
      subst hp2
      go_wp2_with fail
      go_ret
      exact ⟨rfl, T⟩
end Go.Proofs.Ytoojemdehmabhaa.Qh
