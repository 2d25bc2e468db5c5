/- The walks of package disk. -/
import Derived.Test.YtknmjmhiejmjdaaProg
import Derived.Test.YtknmjmhiejmjdaaHs
import Derived.Test.YtknmjmhiejmjdaaHr
import Derived.Lib.MinMax
import Derived.KernelRfl
import Derived.StillTailTactics
import Derived.Lib.Hide
import Derived.WalkSpells
import Derived.BigQuiet
import Derived.Deep.QuietTactic
set_option linter.unusedVariables false
set_option linter.unusedSimpArgs false
set_option maxRecDepth 100000
namespace Go.Proofs.Ytknmjmhiejmjdaa.Dk
open Go.RowKit Hm Hs Hr
theorem info5 : (Try.prog.info? 5).map (fun i => (i.zero, i.size, i.bytes)) = some (some (.int .u8 0), 1, 1) := by kernel_rfl
/-- A disk: its block, its file's slice, the file, how much is safe, the room. -/
structure IsDisk (w : World) (b : Nat) (fv : Value) (file : List Int) (safe room : Int) : Prop where
  blk : Blk w b #[fv, .int .i64 safe, .int .i64 room] 65
  own : OwnS 5 1 w fv (bys file)
/-- the blocks that a disk lies in -/
def foot (b : Nat) (fv : Value) : List Nat := b :: fv.ownBlock.toList
theorem IsDisk.turns {w w' : World} {b : Nat} {fv : Value} {file : List Int} {safe room : Int} {F : List Nat} (h : IsDisk w b fv file safe room) (t : Turns F w w') (hF : ∀ k ∈ foot b fv, k ∉ F) : IsDisk w' b fv file safe room :=
  ⟨h.blk.turns t (hF b (by simp [foot])), h.own.turns t (fun k hk => hF k (by simp [foot, hk]))⟩
theorem IsDisk.lt {w : World} {b : Nat} {fv : Value} {file : List Int} {safe room : Int} (h : IsDisk w b fv file safe room) : ∀ k ∈ foot b fv, k < w.heap.size := by
  intro k hk
  unfold foot at hk
  rcases List.mem_cons.1 hk with rfl | hk
  · exact h.blk.lt
  · exact h.own.lt (by simpa using hk)
theorem IsDisk.apart {w : World} {b : Nat} {fv : Value} {file : List Int} {safe room : Int} (h : IsDisk w b fv file safe room) : ∀ k, fv.ownBlock = some k → k ≠ b := fun k hk => h.own.ne_blk hk h.blk (by decide)
/-- a disk's file has moved to a block of its own: the old one's, or a new one -/
def Moved (w : World) (b : Nat) (fv fv' : Value) : Prop := ∀ k ∈ foot b fv', k ∈ foot b fv ∨ w.heap.size ≤ k
theorem Moved.refl (w : World) (b : Nat) (fv : Value) : Moved w b fv fv := fun k hk => .inl hk

theorem new_bad (room : Int) (w : World) (h : room < 0 ∨ 16777216 < room) : Calls Try.prog 7 #[.int .i64 room] w fun e w' => e = .returned (.tuple #[.pointer none, .int .i64 1]) ∧ Turns [] w w' := by
  by_cases h1 : room < 0
  · have h1' := decide_eq_true h1
    clear h h1
    go_enter Try.func7, Try.ntmps7
    go_wp2_with fail
    go_ret2
    exact ⟨rfl, Turns.refl _ _⟩
  · have h1' := decide_eq_false h1
    have h2' : decide (room > 16777216) = true := decide_eq_true (by omega)
    clear h h1
    go_enter Try.func7, Try.ntmps7
    go_wp2_with fail
    go_ret2
    exact ⟨rfl, Turns.refl _ _⟩
theorem new_ok (room : Int) (w : World) (h : 0 ≤ room ∧ room ≤ 16777216) : Calls Try.prog 7 #[.int .i64 room] w fun e w' => ∃ b, e = .returned (.tuple #[.pointer (some ⟨b, 0, none⟩), .int .i64 0]) ∧ IsDisk w' b (.slice none 0 0) [] 0 room ∧ w.heap.size ≤ b ∧ Turns [] w w' := by
  have h1' : decide (room < 0) = false := decide_eq_false (by omega)
  have h2' : decide (room > 16777216) = false := decide_eq_false (by omega)
  clear h
  go_enter Try.func7, Try.ntmps7
  go_wp2_with fail
  go_ret2
  exact ⟨_, rfl, ⟨Blk.new _ _ _, OwnS.nil _ _ _⟩, Nat.le_refl _, (Turns.refl _ _).alloc _⟩
theorem write_nil (v : Value) (w : World) : Calls Try.prog 23 #[.pointer none, v] w fun e w' => e = .returned (.int .i64 1) ∧ Turns [] w w' := by
  go_enter Try.func23, Try.ntmps23
  go_wp2_with fail
  go_ret
  exact ⟨rfl, Turns.refl _ _⟩
theorem write_full (w : World) (b : Nat) (fv sv : Value) (file news : List Int) (safe room : Int) (h : IsDisk w b fv file safe room) (hs : RdS 1 w sv (bys news)) (hl : file.length ≤ 16777216) (hn : news.length ≤ 16777216)
    (hr : decide ((file.length : Int) + (news.length : Int) > room) = true) : Calls Try.prog 23 #[.pointer (some ⟨b, 0, none⟩), sv] w fun e w' => e = .returned (.int .i64 3) ∧ Turns [] w w' := by
  have c0 : w.cell? ⟨b, 0, none⟩ = some _ := h.blk.cell 0
  have c2 : w.cell? ⟨b, 2, none⟩ = some _ := h.blk.cell 2
  obtain ⟨A, c, rfl, _⟩ := h.own.form
  obtain ⟨A', c', rfl, _⟩ := hs.form
  simp only [bys_len] at *
  go_enter Try.func23, Try.ntmps23
  go_wp2_with fail
  go_quiet (fail)
  go_wp2_with fail
  go_ret
  exact ⟨rfl, (Turns.refl _ _).drewN _⟩
theorem write_ok (w : World) (b : Nat) (fv sv : Value) (file news : List Int) (safe room : Int) (h : IsDisk w b fv file safe room) (hs : RdS 1 w sv (bys news)) (hl : file.length ≤ 16777216) (hn : news.length ≤ 16777216)
    (hr : decide ((file.length : Int) + (news.length : Int) > room) = false) : Calls Try.prog 23 #[.pointer (some ⟨b, 0, none⟩), sv] w
    fun e w' => e = .returned (.int .i64 0) ∧ ∃ fv', IsDisk w' b fv' (file ++ news) safe room ∧ Turns (foot b fv) w w' ∧ Moved w b fv fv' := by
  have c0 : w.cell? ⟨b, 0, none⟩ = some _ := h.blk.cell 0
  have c2 : w.cell? ⟨b, 2, none⟩ = some _ := h.blk.cell 2
  have hap := h.apart
  obtain ⟨A, c, hfv, _⟩ := h.own.form
  obtain ⟨A', c', hsv, _⟩ := hs.form
  have ho := h.own
  have hb := h.blk
  have hs0 := hs
  have h0 := h
  subst hfv hsv
  simp only [bys_len] at *
  go_enter Try.func23, Try.ntmps23
  go_wp2_with fail
  go_quiet (fail)
  have hq : Turns [] w (w.drewN nq) := (Turns.refl _ _).drewN _
  replace h0 := h0.turns hq (by simp)
  have hs1 : RdS 1 (w.drewN nq) _ (bys news) := hs0.mv (fun a u hu => hu)
  generalize w.drewN nq = w1 at *
  have d0 : w1.cell? ⟨b, 0, none⟩ = some _ := h0.blk.cell 0
  go_wp2_with (at_builtin; refine wp_append h0.own hs1 rfl _ _ _ rfl (.int .u8 0) 1 Try.underlying39 info5 rfl (by decide) rfl rfl (bys_one _) (by simp; omega) (by simp; omega) ?_; intro fv' w2 ho2 t2 hloc hnil; obtain ⟨A2, c2', hfv2, _⟩ := ho2.form; simp only [List.length_append, bys_len] at hfv2; subst hfv2; have hb2 := h0.blk.turns t2 (by intro hm; exact hap _ (by simpa using hm) rfl); have d0 : w2.cell? ⟨b, 0, none⟩ = some _ := hb2.cell 0; have df := hb2.frozen 0)
  have hb3 := hb2.set 0 (.slice A2 (file.length + news.length) c2')
  have hne : ∀ k, (Value.slice A2 (file.length + news.length) c2').ownBlock = some k → k ≠ b := fun k hk => ho2.ne_blk hk hb2 (by decide)
  have ho3 := ho2.turns ((Turns.refl [b] w2).setCell (p := ⟨b, 0, none⟩) (by simp) (.slice A2 (file.length + news.length) c2')) (fun k hk => by simpa using hne k hk)
  rw [← bys_append] at ho3
  have T2 : Turns (foot b (.slice A file.length c)) w w2 := (hq.mono (by simp)).trans (t2.mono (fun k hk => by unfold foot; simp at hk ⊢; exact .inr hk))
  have hsz := hq.size
  go_wp2_with fail
  go_ret
  exact ⟨rfl, _, ⟨hb3, ho3⟩, T2.setCell (by simp [foot]) _, fun k hk => by unfold foot at hk ⊢; simp only [List.mem_cons, Option.mem_toList] at hk ⊢; rcases hk with hk | hk; exact .inl (.inl hk); rcases hloc with h1 | h1; exact .inl (.inr (h1 ▸ hk)); rw [h1] at hk; exact .inr (by injection hk with hk; omega)⟩
theorem sync_nil (w : World) : Calls Try.prog 37 #[.pointer none] w fun e w' => e = .returned (.int .i64 0) ∧ Turns [] w w' := by
  go_enter Try.func37, Try.ntmps37
  go_wp2_with fail
  go_ret
  exact ⟨rfl, Turns.refl _ _⟩
theorem sync_is (w : World) (b : Nat) (fv : Value) (file : List Int) (safe room : Int) (h : IsDisk w b fv file safe room) (hl : file.length ≤ 16777216) (hs : 0 ≤ safe ∧ safe ≤ file.length) :
    Calls Try.prog 37 #[.pointer (some ⟨b, 0, none⟩)] w fun e w' => e = .returned (.int .i64 (file.length - safe)) ∧ IsDisk w' b fv file file.length room ∧ Turns [b] w w' := by
  have c0 : w.cell? ⟨b, 0, none⟩ = some _ := h.blk.cell 0
  have c1 : w.cell? ⟨b, 1, none⟩ = some _ := h.blk.cell 1
  have f1 := h.blk.frozen 1
  have hap := h.apart
  have h0 := h
  obtain ⟨A, c, hfv, _⟩ := h.own.form
  subst hfv
  obtain ⟨hs1, hs2⟩ := hs
  simp only [bys_len] at *
  go_enter Try.func37, Try.ntmps37
  go_wp2_with fail
  go_quiet (fail)
  have hq : Turns [] w (w.drewN nq) := (Turns.refl _ _).drewN _
  replace h0 := h0.turns hq (by simp)
  have d0 : (w.drewN nq).cell? ⟨b, 0, none⟩ = some _ := h0.blk.cell 0
  have d1 : (w.drewN nq).cell? ⟨b, 1, none⟩ = some _ := h0.blk.cell 1
  have e1 := h0.blk.frozen 1
  generalize w.drewN nq = w1 at *
  have hb3 := h0.blk.set 1 (.int .i64 file.length)
  have ho3 := h0.own.turns ((Turns.refl [b] w1).setCell (p := ⟨b, 1, none⟩) (by simp) (.int .i64 file.length)) (fun k hk => by simpa using hap k hk)
  go_wp2_with fail
  go_ret
  exact ⟨rfl, ⟨hb3, ho3⟩, (hq.mono (by simp)).setCell (by simp) _⟩
theorem safe_nil (w : World) : Calls Try.prog 25 #[.pointer none] w fun e w' => e = .returned (.int .i64 0) ∧ Turns [] w w' := by
  go_enter Try.func25, Try.ntmps25
  go_wp2_with fail
  go_ret
  exact ⟨rfl, Turns.refl _ _⟩
theorem safe_is (w : World) (b : Nat) (fv : Value) (file : List Int) (safe room : Int) (h : IsDisk w b fv file safe room) : Calls Try.prog 25 #[.pointer (some ⟨b, 0, none⟩)] w fun e w' => e = .returned (.int .i64 safe) ∧ Turns [] w w' := by
  have c1 : w.cell? ⟨b, 1, none⟩ = some _ := h.blk.cell 1
  go_enter Try.func25, Try.ntmps25
  go_wp2_with fail
  go_ret
  exact ⟨rfl, Turns.refl _ _⟩
/-- bytes.Clone: nil of nil; else a slice of the call's own. -/
theorem clone_nil (w : World) : Calls Try.prog 39 #[.slice none 0 0] w fun e w' => e = .returned (.slice none 0 0) ∧ Turns [] w w' := by
  have hnn := Lib.run_eql_slice_nil (P := Try.prog)
  go_enter Try.func39, Try.ntmps39
  go_wp2_with fail
  go_ret
  exact ⟨rfl, Turns.refl _ _⟩
theorem clone_is (w : World) (sv : Value) (l : List Int) (hs : RdS 1 w sv (bys l)) (hl : l.length ≤ 16777216) : Calls Try.prog 39 #[sv] w
    fun e w' => ∃ v, e = .returned v ∧ OwnS 5 1 w' v (bys l) ∧ Turns [] w w' ∧ ∀ k, v.ownBlock = some k → w.heap.size ≤ k := by
  have hs0 := hs
  obtain ⟨A, c, rfl, _, _, hn, _⟩ := hs
  cases A with
  | none =>
    have hc := hn rfl
    subst hc
    have hl0 : l = [] := by
      obtain ⟨A2, c2, e2, h2, _, _⟩ := hs0
      injection e2 with _ e3 e4
      have : (bys l).length = 0 := by omega
      rw [bys_len] at this
      exact List.eq_nil_of_length_eq_zero this
    subst hl0
    refine (clone_nil w).mono ?_
    rintro e w' ⟨rfl, t⟩
    exact ⟨_, rfl, OwnS.nil _ _ _, t, by simp [Value.ownBlock]⟩
  | some ad =>
    have hz : OwnS 5 1 (w.alloc (.cells #[] 5)) (.slice (some ⟨w.heap.size, 0, none⟩) 0 0) [] := ⟨World.ownsRow_lit w #[] 0 (Nat.zero_le _) (by decide) rfl, by simp⟩
    have hs1 : RdS 1 (w.alloc (.cells #[] 5)) _ (bys l) := hs0.mv (fun a u hu => ((Turns.refl [] w).alloc _).old hu)
    have hnn := Lib.run_eql_slice_nil (P := Try.prog)
    simp only [bys_len] at *
    go_enter Try.func39, Try.ntmps39
    go_wp2_with (at_builtin; refine wp_append hz hs1 rfl _ _ _ rfl (.int .u8 0) 1 Try.underlying39 info5 rfl (by decide) rfl rfl (bys_one _) (by simp; omega) (by simp; omega) ?_; intro fv' w2 ho2 t2 hloc hnil; obtain ⟨A2, c2', hfv2, _⟩ := ho2.form; simp only [List.nil_append, bys_len] at hfv2; subst hfv2)
    have T0 := (Turns.refl [] w).alloc (.cells #[] 5)
    have hlo : ∀ k, (Value.slice A2 l.length c2').ownBlock = some k → w.heap.size ≤ k := fun k hk => by rw [hk] at hloc; simp [Value.ownBlock] at hloc; omega
    have T2 := T0.then t2 (by intro k hk; simp [Value.ownBlock] at hk; omega)
    go_wp2_with fail
    go_ret
    exact ⟨_, rfl, by simpa using ho2, T2, hlo⟩
theorem file_nil (w : World) : Calls Try.prog 24 #[.pointer none] w fun e w' => e = .returned (.slice none 0 0) ∧ Turns [] w w' := by
  go_enter Try.func24, Try.ntmps24
  go_wp2_with fail
  go_ret
  exact ⟨rfl, Turns.refl _ _⟩
theorem file_is (w : World) (b : Nat) (fv : Value) (file : List Int) (safe room : Int) (h : IsDisk w b fv file safe room) (hl : file.length ≤ 16777216) : Calls Try.prog 24 #[.pointer (some ⟨b, 0, none⟩)] w
    fun e w' => ∃ v, e = .returned v ∧ OwnS 5 1 w' v (bys file) ∧ Turns [] w w' ∧ ∀ k, v.ownBlock = some k → w.heap.size ≤ k := by
  have c0 : w.cell? ⟨b, 0, none⟩ = some _ := h.blk.cell 0
  have ho := h.own.reads
  go_enter Try.func24, Try.ntmps24
  go_wp2_with fail
  go_at_call 39
  refine Calls.mono (clone_is _ fv file ho hl) ?_
  rintro e w1 ⟨v, rfl, ho1, t1, hf⟩
  go_wp2_with fail
  go_ret
  exact ⟨_, rfl, ho1, t1, hf⟩
theorem replace_nil (v : Value) (w : World) : Calls Try.prog 27 #[.pointer none, v] w fun e w' => e = .returned (.int .i64 1) ∧ Turns [] w w' := by
  go_enter Try.func27, Try.ntmps27
  go_wp2_with fail
  go_ret
  exact ⟨rfl, Turns.refl _ _⟩
theorem replace_full (w : World) (b : Nat) (fv sv : Value) (file news : List Int) (safe room : Int) (h : IsDisk w b fv file safe room) (hs : RdS 1 w sv (bys news)) (hn : news.length ≤ 16777216)
    (hr : decide ((news.length : Int) > room) = true) : Calls Try.prog 27 #[.pointer (some ⟨b, 0, none⟩), sv] w fun e w' => e = .returned (.int .i64 3) ∧ Turns [] w w' := by
  have c2 : w.cell? ⟨b, 2, none⟩ = some _ := h.blk.cell 2
  obtain ⟨A', c', rfl, _⟩ := hs.form
  simp only [bys_len] at *
  go_enter Try.func27, Try.ntmps27
  go_wp2_with fail
  go_ret
  exact ⟨rfl, Turns.refl _ _⟩
theorem replace_ok (w : World) (b : Nat) (fv sv : Value) (file news : List Int) (safe room : Int) (h : IsDisk w b fv file safe room) (hs : RdS 1 w sv (bys news)) (hn : news.length ≤ 16777216)
    (hr : decide ((news.length : Int) > room) = false) : Calls Try.prog 27 #[.pointer (some ⟨b, 0, none⟩), sv] w
    fun e w' => e = .returned (.int .i64 0) ∧ ∃ fv', IsDisk w' b fv' news news.length room ∧ Turns (foot b fv) w w' ∧ Moved w b fv fv' := by
  have c2 : w.cell? ⟨b, 2, none⟩ = some _ := h.blk.cell 2
  obtain ⟨A', c', hsv, _⟩ := hs.form
  have hs0 := hs
  subst hsv
  simp only [bys_len] at *
  go_enter Try.func27, Try.ntmps27
  go_wp2_with fail
  go_at_call 39
  refine Calls.mono (clone_is _ _ news hs0 hn) ?_
  rintro e w1 ⟨v, rfl, ho1, t1, hf⟩
  have hb1 := h.blk.turns t1 (by simp)
  obtain ⟨A2, c2', hfv2, _⟩ := ho1.form
  simp only [bys_len] at hfv2
  subst hfv2
  have d0 : w1.cell? ⟨b, 0, none⟩ = some _ := hb1.cell 0
  have d1 : w1.cell? ⟨b, 1, none⟩ = some _ := hb1.cell 1
  have f0 := hb1.frozen 0
  have f1 := hb1.frozen 1
  have hb3 := (hb1.set 0 (.slice A2 news.length c2')).set 1 (.int .i64 news.length)
  have hne : ∀ k, (Value.slice A2 news.length c2').ownBlock = some k → k ≠ b := fun k hk => ho1.ne_blk hk hb1 (by decide)
  have ho3 := ho1.turns (((Turns.refl [b] w1).setCell (p := ⟨b, 0, none⟩) (by simp) (.slice A2 news.length c2')).setCell (p := ⟨b, 1, none⟩) (by simp) (.int .i64 news.length)) (fun k hk => by simpa using hne k hk)
  have T := ((t1.mono (G := foot b fv) (by simp)).setCell (p := ⟨b, 0, none⟩) (by simp [foot]) (.slice A2 news.length c2')).setCell (p := ⟨b, 1, none⟩) (by simp [foot]) (.int .i64 news.length)
  go_wp2_with fail
  go_ret
  exact ⟨rfl, _, ⟨hb3, ho3⟩, T, fun k hk => by unfold foot at hk ⊢; simp only [List.mem_cons, Option.mem_toList] at hk ⊢; rcases hk with hk | hk; exact .inl (.inl hk); exact .inr (hf k hk)⟩
theorem crash_nil (k : Int) (w : World) : Calls Try.prog 16 #[.pointer none, .int .i64 k] w fun e w' => e = .returned (.int .i64 0) ∧ Turns [] w w' := by
  go_enter Try.func16, Try.ntmps16
  go_wp2_with fail
  go_ret
  exact ⟨rfl, Turns.refl _ _⟩
theorem crash_is (w : World) (b : Nat) (fv : Value) (file : List Int) (safe : Nat) (room keep : Int) (m : Nat) (h : IsDisk w b fv file safe room) (hl : file.length ≤ 16777216) (hs : safe ≤ file.length)
    (hm : (safe : Int) + min (max keep 0) ((file.length : Int) - safe) = m) : Calls Try.prog 16 #[.pointer (some ⟨b, 0, none⟩), .int .i64 keep] w
    fun e w' => e = .returned (.int .i64 (file.length - m)) ∧ ∃ fv', IsDisk w' b fv' (file.take m) m room ∧ Turns (foot b fv) w w' ∧ Moved w b fv fv' := by
  have c0 : w.cell? ⟨b, 0, none⟩ = some _ := h.blk.cell 0
  have c1 : w.cell? ⟨b, 1, none⟩ = some _ := h.blk.cell 1
  have hml : m ≤ file.length := by omega
  obtain ⟨i0, hi, hzz⟩ := Option.map_eq_some_iff.1 info5
  simp only [Prod.mk.injEq] at hzz
  obtain ⟨hz0, hz1, hz2⟩ := hzz
  have h0 := h
  obtain ⟨A, c, hfv, _⟩ := h.own.form
  subst hfv
  simp only [bys_len] at *
  have HM : Hid (IntKind.i64.wrap ((safe : Int) + min (max keep 0) (IntKind.i64.wrap ((file.length : Int) - safe))) = (m : Int)) := by
    show _ = _
    rw [IntWalk.i64_in ((file.length : Int) - safe) (by omega), IntWalk.i64_in _ (by omega)]; exact hm
  clear hm
  go_enter Try.func16, Try.ntmps16
  go_wp2_with fail
  go_still_tail 14, (by kernel_rfl)
  change wpList _ _ _ _ _ w.drew
  have hq : Turns [] w w.drew := (Turns.refl _ _).drew
  replace h0 := h0.turns hq (by simp)
  generalize w.drew = w1 at *
  refine wp_make rfl _ _ _ rfl (.int .u8 0) 1 Try.underlying39 info5 rfl _ _ _ _ m rfl rfl HM.out HM.out (by omega) (by omega) ?_
  intro w2 ho2 t2
  have T2 := hq.trans t2
  replace h0 := h0.turns t2 (by simp)
  have d0 : w2.cell? ⟨b, 0, none⟩ = some _ := h0.blk.cell 0
  have hrd := h0.own.reads
  have hbn : b ≠ w1.heap.size := fun e => by
    obtain ⟨cells, hcc⟩ := ho2.typed (k := w1.heap.size) rfl
    have hb := h0.blk
    unfold Blk at hb
    rw [e, hcc] at hb
    injection hb with hb
    injection hb with _ hb
    exact absurd hb (by decide)
  have hwn : w.heap.size ≤ w1.heap.size := hq.size
  go_wp2_with (refine wp_copy ho2 hrd rfl _ _ _ _ rfl Try.underlying39 (by rfl) rfl rfl (bys_one _) m (by simp; omega) ?_; intro w3 ho3 t3; have hb3 := h0.blk.turns t3 (by simpa [Value.ownBlock] using hbn); have d0 : w3.cell? ⟨b, 0, none⟩ = some _ := hb3.cell 0; have d1 : w3.cell? ⟨b, 1, none⟩ = some _ := hb3.cell 1; have f0 := hb3.frozen 0; have f1 := hb3.frozen 1)
  have ho4 : OwnS 5 1 w3 (.slice (some ⟨w1.heap.size, 0, none⟩) m m) (bys (file.take m)) := by
    have e : (bys file).take m ++ (List.replicate m [Value.int .u8 0]).drop m = bys (file.take m) := by
      rw [List.drop_of_length_le (by simp), List.append_nil]; unfold bys; rw [List.map_take]
    rw [← e]; exact ho3
  have hb4 := (hb3.set 0 (.slice (some ⟨w1.heap.size, 0, none⟩) m m)).set 1 (.int .i64 m)
  have ho5 := ho4.turns (((Turns.refl [b] w3).setCell (p := ⟨b, 0, none⟩) (by simp) (.slice (some ⟨w1.heap.size, 0, none⟩) m m)).setCell (p := ⟨b, 1, none⟩) (by simp) (.int .i64 m)) (fun k hk => by simp [Value.ownBlock] at hk ⊢; omega)
  have T3 := T2.then t3 (by simp [Value.ownBlock]; omega)
  have T4 := ((T3.mono (G := foot b (.slice A file.length c)) (by simp)).setCell (p := ⟨b, 0, none⟩) (by simp [foot]) (.slice (some ⟨w1.heap.size, 0, none⟩) m m)).setCell (p := ⟨b, 1, none⟩) (by simp [foot]) (.int .i64 m)
  go_ret
  exact ⟨rfl, _, ⟨hb4, ho5⟩, T4, fun k hk => by simp [foot, Value.ownBlock] at hk ⊢; omega⟩
end Go.Proofs.Ytknmjmhiejmjdaa.Dk
