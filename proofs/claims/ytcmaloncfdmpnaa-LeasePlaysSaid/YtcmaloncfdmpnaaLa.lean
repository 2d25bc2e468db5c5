/- The walks of package lease: Drop, All. -/
import Derived.Test.YtcmaloncfdmpnaaLw
import Derived.Test.YtcmaloncfdmpnaaHl
import Derived.Test.YtcmaloncfdmpnaaSi
import Derived.Test.YtcmaloncfdmpnaaWb
import Derived.Deep.LoopGhost
set_option linter.unusedVariables false
set_option linter.unusedSimpArgs false
set_option maxRecDepth 100000
namespace Go.Proofs.Ytcmaloncfdmpnaa.La
open Go.RowKit Go.MapKept Go.Shelf Hm Hs Hf Hg Hk Hx Hv Hl Sm Sat Wa Lw
def Lea.cells (l : Lea) : List Value := [.int .i64 l.key, .int .i64 l.gen, .int .i64 l.amount, .int .i64 l.spent, .int .i64 l.until_]
theorem old_in {F : List Nat} {w w' : World} (t : Turns F w w') {a : Addr} {v : Value} (h : w.cell? a = some v) (hF : a.block ∉ F) : w'.cell? a = some v := by
  have hb := World.block_lt_of_cell? w _ h
  unfold World.cell? at h ⊢
  rw [t.block _ hb hF]
  exact h
theorem drop_nil (w : World) (g : Int) : Calls Try.prog 71 #[.pointer none, .int .i64 g] w fun e w' => e = .returned (.int .i64 0) ∧ Turns [] w w' := by
  go_enter Try.func71, Try.ntmps71
  go_wp2_with fail
  go_ret
  exact ⟨rfl, (Turns.refl _ _).alloc _⟩
theorem all_nil (w : World) : Calls Try.prog 66 #[.pointer none] w fun e w' => e = .returned (.slice none 0 0) ∧ Turns [] w w' := by
  go_enter Try.func66, Try.ntmps66
  go_wp2_with fail
  go_ret
  exact ⟨rfl, Turns.refl _ _⟩
theorem fn_is (w : World) (x : Lea) (k g : Int) (gb : Nat) (hg : w.cell? ⟨gb, 0, none⟩ = some (.int .i64 g)) : Calls Try.prog 118 #[.int .i64 k, x.v, .pointer (some ⟨gb, 0, none⟩)] w fun e w' => e = .returned (.bool (decide (x.gen < g))) ∧ Turns [] w w' := by
  have c0 : ∀ o, (w.alloc o).cell? ⟨gb, 0, none⟩ = some (.int .i64 g) := fun o => ((Turns.refl [] w).alloc o).old hg
  unfold Lea.v
  go_enter Try.func118, Try.ntmps118
  go_wp2_with fail
  go_ret
  exact ⟨rfl, (Turns.refl _ _).alloc _⟩
/-- elder than g -/
def pdG (g : Int) : Value → Bool
  | .agg a => (match a.toList with | [_, .int .i64 x, _, _, _] => decide (x < g) | _ => false)
  | _ => false
theorem pdG_v (g : Int) (x : Lea) : pdG g x.v = decide (x.gen < g) := rfl
theorem mem_enc {l : List Lea} {k : Int} {v : Value} (h : (k, v) ∈ enc l) : ∃ x ∈ l, x.key = k ∧ v = x.v := by
  obtain ⟨x, hx, e⟩ := List.mem_map.1 h
  injection e with e1 e2
  exact ⟨x, hx, e1, e2.symm⟩
set_option maxHeartbeats 1000000 in
theorem delf_is (w : World) (m gb : Nat) (l : List Lea) (g : Int) (h : IMap w m (enc l)) (hg : w.cell? ⟨gb, 0, none⟩ = some (.int .i64 g)) : Calls Try.prog 117 #[.map (some m), .func (.func 118) #[] #[.pointer (some ⟨gb, 0, none⟩)]] w
    fun e w' => e = .returned (.tuple #[]) ∧ IMap w' m (enc (l.filter fun x => !decide (x.gen < g))) ∧ Turns [m] w w' := by
  have ho := h.once
  have hgm : gb ≠ m := by
    rintro rfl
    obtain ⟨es, clock, hb, _⟩ := h
    unfold World.cell? at hg
    rw [hb] at hg
    simp at hg
  have hfin : (enc l).filter (fun p => !pdG g p.2) = enc (l.filter fun x => !decide (x.gen < g)) := by
    unfold enc
    rw [List.filter_map]
    rfl
  have hfh := Lib.hid hfin
  have hoh := Lib.hid ho
  clear hfin ho
  go_enter Try.func117, Try.ntmps117
  go_wp2_with (at_range; refine wp_range h rfl _ 158 3 109 rfl Try.underlying158 rfl ?_; intro w0 r0 t0)
  go_frame
  go_loopw [8] (fun _ wr => ∃ left, IR wr m w.heap.size (still (pdG g) (enc l) left) left ∧ Turns [m] w wr) (fun _ wr => wr.rangeLeft m w.heap.size)
  case atStart => exact ⟨_, by rw [still_start]; exact r0, t0.mono (by simp)⟩
  case round =>
    obtain ⟨left, R, T⟩ := hrel
    go_wp2_with (first | (at_next; refine wp_next R rfl _ rfl rfl ?_ ?_) | go_in)
    · intro hl0
      go_wp2_with fail
      go_end0
      refine ⟨rfl, ?_, T⟩
      have M := R.map
      rw [still_end hl0, hfh.out] at M
      exact M
    · intro k v w1 hm hlk R1 hlt T1 hen
      obtain ⟨x, hx, hxk, rfl⟩ := mem_enc (List.mem_filter.1 hm).1
      have T2 : Turns [m] w w1 := T.then T1 (by simp)
      have g1 := old_in T2 hg (by simpa using hgm)
      have Fh := Lib.hid (fn_is (w1.alloc (.cells #[.int .i64 x.key, .int .i64 x.gen, .int .i64 x.amount, .int .i64 x.spent, .int .i64 x.until_] 109)) x k g gb (((Turns.refl [] _).alloc _).old g1))
      have hlth := Lib.hid hlt
      have hmh := Lib.hid hm
      subst hxk
      have R2 := R1.turns ((Turns.refl [] _).alloc (.cells #[.int .i64 x.key, .int .i64 x.gen, .int .i64 x.amount, .int .i64 x.spent, .int .i64 x.until_] 109)) (by simp) (by simp)
      have hl2 := R1.left_turns ((Turns.refl [] _).alloc (.cells #[.int .i64 x.key, .int .i64 x.gen, .int .i64 x.amount, .int .i64 x.spent, .int .i64 x.until_] 109)) (by simp) (by simp)
      have T3 := T2.trans ((Turns.refl [m] _).alloc (.cells #[.int .i64 x.key, .int .i64 x.gen, .int .i64 x.amount, .int .i64 x.spent, .int .i64 x.until_] 109))
      have hl2h := Lib.hid hl2
      unfold Lea.v at hen
      clear hm hlt hl2 hlk R T hx hg
      by_cases hd : x.gen < g
      · have d1 := decide_eq_true hd
        rw [d1] at Fh
        have hdh := Lib.hid d1
        clear d1 hd
        go_wp2_with fail
        go_at_call 118
        refine Calls.mono (Fh.out) ?_
        rintro e w2 ⟨rfl, t2⟩
        have R3 := R2.turns t2 (by simp) (by simp)
        have hl3 := Lib.hid (R2.left_turns t2 (by simp) (by simp))
        have T4 := T3.trans (t2.mono (by simp))
        clear R2 T3 t2 Fh R1 T1 hen T2 g1
        go_wp2_with (at_delete; refine wp_drop R3 rfl _ _ _ _ _ _ rfl Try.underlying158 Try.underlying3 rfl _ rfl ?_; intro w4 R4 hle4 t4; go_frame)
        rw [still_struck hoh.out hmh.out (by rw [pdG_v]; exact hdh.out)] at R4
        rw [show (fun y => (left y && !(y == x.key)) && !(y == x.key)) = fun y => left y && !(y == x.key) from by funext y; cases left y <;> cases (y == x.key) <;> rfl] at R4
        go_roundw
        case rel => exact ⟨_, R4, T4.trans t4⟩
        case measure => have := hl3.out; have := hl2h.out; have := hlth.out; omega
      · have d1 : decide (x.gen < g) = false := decide_eq_false hd
        rw [d1] at Fh
        have hdh := Lib.hid d1
        clear d1 hd
        go_wp2_with fail
        go_at_call 118
        refine Calls.mono (Fh.out) ?_
        rintro e w2 ⟨rfl, t2⟩
        have R3 := R2.turns t2 (by simp) (by simp)
        have hl3 := Lib.hid (R2.left_turns t2 (by simp) (by simp))
        have T4 := T3.trans (t2.mono (by simp))
        rw [still_stays hoh.out hmh.out (by rw [pdG_v]; exact hdh.out)] at R3
        clear R2 T3 t2 Fh R1 T1 hen T2 g1
        go_wp2_with fail
        go_roundw
        case rel => exact ⟨_, R3, T4⟩
        case measure => have := hl3.out; have := hl2h.out; have := hlth.out; omega
/-- the leases, by keys -/
def sl (l : List Lea) : List Lea := (skeys (enc l)).map fun k => (find l k).getD Lea.zero
theorem drop_is (w : World) (b m : Nat) (l : List Lea) (h : IsWallet w b m l) (g : Int) (hl : l.length ≤ 1000000) :
    Calls Try.prog 71 #[.pointer (some ⟨b, 0, none⟩), .int .i64 g] w fun e w' => e = .returned (.int .i64 ((l.length : Int) - ((l.filter fun x => !decide (x.gen < g)).length : Int))) ∧ IsWallet w' b m (l.filter fun x => !decide (x.gen < g)) ∧ Turns [m] w w' := by
  have c0 : ∀ o, (w.alloc o).cell? ⟨b, 0, none⟩ = some (.map (some m)) := fun o => (h.blk.alloc o).cell 0
  have hbm : b ≠ m := h.blk.ne_map h.map
  have D := delf_is (w.alloc (.cells #[.int .i64 g] 3)) m w.heap.size l g (h.map.alloc _) ((Blk.new w #[.int .i64 g] 3).cell 0)
  have Dh := Lib.hid D
  have hf := List.length_filter_le (fun x : Lea => !decide (x.gen < g)) l
  have L0 : ∀ W, IMap W m (enc l) → (Builtin.len_ #[158] 3 #[.map (some m)]).run Try.prog W = .ok (.int .i64 (l.length : Int)) W := fun W hW => by
    have := run_len hW Try.underlying158 3
    unfold enc at this
    rwa [List.length_map] at this
  have L1 := L0 _ (h.map.alloc (.cells #[.int .i64 g] 3))
  generalize hq : (l.filter fun x => !decide (x.gen < g)) = q at *
  have L2 : ∀ W, IMap W m (enc q) → (Builtin.len_ #[158] 3 #[.map (some m)]).run Try.prog W = .ok (.int .i64 (q.length : Int)) W := fun W hW => by
    have := run_len hW Try.underlying158 3
    unfold enc at this
    rwa [List.length_map] at this
  have L2h := Lib.hid L2
  clear L0 L2 D hq
  go_enter Try.func71, Try.ntmps71
  go_wp2_with fail
  go_at_call 117
  refine Calls.mono (Dh.out) ?_
  rintro e w1 ⟨rfl, M1, t1⟩
  have L3 := L2h.out _ M1
  have B1 := (h.blk.alloc (.cells #[.int .i64 g] 3)).turns t1 (by simpa using hbm)
  have c1 : w1.cell? ⟨b, 0, none⟩ = some (.map (some m)) := B1.cell 0
  have hw : IntKind.i64.wrap ((l.length : Int) - (q.length : Int)) = (l.length : Int) - (q.length : Int) := IntWalk.i64_in _ (by omega)
  go_wp2_with fail
  go_ret
  exact ⟨rfl, ⟨B1, M1⟩, ((Turns.refl [m] w).alloc _).trans t1⟩
end Go.Proofs.Ytcmaloncfdmpnaa.La
