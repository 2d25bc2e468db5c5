/- QueuePlays: the plain facts of an act; the law's walk. -/
import Derived.Test.YtoojemdehmabhaaQz
import Derived.Test.YtoojemdehmabhaaRs
set_option linter.unusedVariables false
set_option linter.unusedSimpArgs false
set_option maxRecDepth 100000
namespace Go.Proofs.Ytoojemdehmabhaa.Za
open Go.RowKit Go.MapKept Go.Shelf Hm Hs Hf Hg Hx Hy Hv Sm Qa Qb Qe Qf Qg Qh Qi Qj Qk Qm Qn Qo Qq Qr Qt Qv Qw Qx Qy Qz
theorem cls_sub {l l' : List It} (h : Cls l) (hs : l'.Sublist l) : Cls l' := fun x hx => h x (hs.subset hx)
theorem take_sub (l : List It) (id : Int) : (takeQ l id).2.2.Sublist l := by
  unfold takeQ
  split
  · exact List.Sublist.refl _
  · exact List.eraseIdx_sublist _ _
theorem stay_sub (l : List It) (now : Int) : (stay l now).Sublist l := List.filter_sublist
theorem bad_cls {x : It} (h : ¬ badQ x = true) : 0 ≤ x.cls ∧ x.cls ≤ 2 := by
  obtain ⟨_, h2, h3, _⟩ := badQ_no (by simpa using h)
  have := of_decide_eq_false h2
  have := of_decide_eq_false h3
  omega
theorem step_cls {room : Int} {l : List It} {a : Qy.Act} (h : Cls l) : Cls (stepQ room l a) := by
  unfold stepQ
  split
  · exact cls_sub h (take_sub _ _)
  · split
    · exact cls_sub h (stay_sub _ _)
    · unfold putQ
      split
      · exact h
      · rename_i hb
        split
        · exact h
        · split
          · exact h
          · intro y hy
            rcases List.mem_append.1 hy with hy | hy
            · exact h y hy
            · simp at hy; subst hy; exact bad_cls hb
theorem step_len {room : Int} {l : List It} {a : Qy.Act} (h : (l.length : Int) ≤ room) : ((stepQ room l a).length : Int) ≤ room := by
  unfold stepQ
  split
  · have := (take_sub l a.x.id).length_le; omega
  · split
    · have := (stay_sub l a.x.until_).length_le; omega
    · unfold putQ
      split
      · exact h
      · split
        · exact h
        · split
          · exact h
          · simp only [List.length_append, List.length_singleton]
            omega
/-- an act's cells -/
structure ACells (w : World) (ad : Addr) (m : Nat) (a : Qy.Act) : Prop where
  c0 : w.cell? (ad.add m) = some (.int .u8 a.kind)
  c1 : w.cell? ⟨(ad.add m).block, (ad.add m).off + 1, none⟩ = some (.int .i64 a.x.id)
  c2 : w.cell? ⟨(ad.add m).block, (ad.add m).off + 2, none⟩ = some (.int .i64 a.x.key)
  c3 : w.cell? ⟨(ad.add m).block, (ad.add m).off + 3, none⟩ = some (.int .i64 a.x.cost)
  c4 : w.cell? ⟨(ad.add m).block, (ad.add m).off + 4, none⟩ = some (.int .i64 a.x.cls)
  c5 : w.cell? ⟨(ad.add m).block, (ad.add m).off + 5, none⟩ = some (.int .i64 a.x.until_)
theorem ACells.turns {w w' : World} {ad : Addr} {m : Nat} {a : Qy.Act} (h : ACells w ad m a) (t : Turns [] w w') : ACells w' ad m a := ⟨t.old h.c0, t.old h.c1, t.old h.c2, t.old h.c3, t.old h.c4, t.old h.c5⟩
theorem acells_of {w : World} {ad : Addr} {m : Nat} {a : Qy.Act} (h : ∀ i u, (Qy.Act.cells a)[i]? = some u → w.cell? (ad.add (m + i)) = some u) : ACells w ad m a := by
  have h0 := h 0 _ rfl
  have h1 := h 1 _ rfl
  have h2 := h 2 _ rfl
  have h3 := h 3 _ rfl
  have h4 := h 4 _ rfl
  have h5 := h 5 _ rfl
  rw [Nat.add_zero] at h0
  rw [add_field _ _ _ (by omega)] at h1 h2 h3 h4 h5
  exact ⟨h0, h1, h2, h3, h4, h5⟩
/-- First, whatever comes -/
def firstV (l : List It) (key : Int) : It × Bool := match ofQ l key with | [] => (It.zero, false) | x :: _ => (x, true)
theorem first_any (w : World) (b : Nat) (room : Int) (iv : Value) (l : List It) (key : Int) (h : Got (qm b room iv l) w) (hn : l.length < 20) (hL : Cls l) (x : It) (ok : Bool) (hq : firstV l key = (x, ok)) : Calls Try.prog 13 #[.pointer (some ⟨b, 0, none⟩), .int .i64 key] w fun e w' => e = .returned (.tuple #[x.v, .bool ok]) ∧ Turns [] w w' := by
  unfold firstV at hq
  cases ho : ofQ l key with
  | nil =>
    rw [ho] at hq
    simp only [Prod.mk.injEq] at hq
    obtain ⟨rfl, rfl⟩ := hq
    exact first_none w b room iv l key h hn hL ho
  | cons y r =>
    rw [ho] at hq
    simp only [Prod.mk.injEq] at hq
    obtain ⟨rfl, rfl⟩ := hq
    exact first_some w b room iv l key y r h hn hL ho
theorem ofQ_len (l : List It) (key : Int) (hL : Cls l) : (ofQ l key).length ≤ l.length := by
  unfold ofQ
  rw [stab_len (fun x hx => hL x (List.mem_filter.1 hx).1)]
  exact List.length_filter_le _ _
theorem first_nil (w : World) : Calls Try.prog 13 #[.pointer none, .int .i64 1] w fun e w' => e = .returned (.tuple #[It.zero.v, .bool false]) ∧ Turns [] w w' := by
  have H := (Sep.start w).alloc #[.int .i64 0, .int .i64 0, .int .i64 0, .int .i64 0, .int .i64 0] 34
  have hHh := Lib.hid H
  unfold It.v It.zero
  clear H
  go_enter Try.func13, Try.ntmps13
  go_wp2_with fail
  go_at_call 40
  refine Calls.mono (of_nil _ 1) ?_
  rintro e w1 ⟨rfl, t1⟩
  have H := hHh.out.turns t1
  have z0 : World.cell? (w1) ⟨w.heap.size, 0, none⟩ = some _ := (H.blk 0 rfl).cell 0
  have zf0 : World.frozen? (w1) ⟨w.heap.size, 0, none⟩ = false := (H.blk 0 rfl).frozen 0
  have z1 : World.cell? (w1) ⟨w.heap.size, 1, none⟩ = some _ := (H.blk 0 rfl).cell 1
  have zf1 : World.frozen? (w1) ⟨w.heap.size, 1, none⟩ = false := (H.blk 0 rfl).frozen 1
  have z2 : World.cell? (w1) ⟨w.heap.size, 2, none⟩ = some _ := (H.blk 0 rfl).cell 2
  have zf2 : World.frozen? (w1) ⟨w.heap.size, 2, none⟩ = false := (H.blk 0 rfl).frozen 2
  have z3 : World.cell? (w1) ⟨w.heap.size, 3, none⟩ = some _ := (H.blk 0 rfl).cell 3
  have zf3 : World.frozen? (w1) ⟨w.heap.size, 3, none⟩ = false := (H.blk 0 rfl).frozen 3
  have z4 : World.cell? (w1) ⟨w.heap.size, 4, none⟩ = some _ := (H.blk 0 rfl).cell 4
  have zf4 : World.frozen? (w1) ⟨w.heap.size, 4, none⟩ = false := (H.blk 0 rfl).frozen 4
  have H7 := ((((H.set 0 rfl 0 (.int .i64 0)).set 0 rfl 1 (.int .i64 0)).set 0 rfl 2 (.int .i64 0)).set 0 rfl 3 (.int .i64 0)).set 0 rfl 4 (.int .i64 0)
  have hR := H7.blk 0 rfl
  have T := H7.t
  clear H H7 t1 hHh
  go_wp2_with fail
  refine bodyPost_ret (res_list (rs := [.cell 4 34, .tmp 5]) rfl (by simp) (.cell w.heap.size _ _ _ rfl hR Try.underlying34 rfl (by kernel_rfl) (.tmp .nil))) rfl ?_
  exact ⟨rfl, T⟩
theorem keys_nil (w : World) : Calls Try.prog 42 #[.pointer none] w fun e w' => e = .returned (.slice none 0 0) ∧ Turns [] w w' := by
  have S1 := Lib.hid (fun W => Ss.sort_is W 3 (.slice none 0 0) [] (OwnS.nil _ _ _) (by simp))
  have K1 := Lib.hid (fun W => Ss.compact_is W 3 (.slice none 0 0) [] (OwnS.nil _ _ _) (by simp))
  go_enter Try.func42, Try.ntmps42
  go_wp2_with fail
  go_at_call 12
  refine Calls.mono (all_nil _) ?_
  rintro e w1 ⟨rfl, t1⟩
  go_wp2_with fail
  go_loopw [3, 9] (fun v3 v9 wr => v3 = .slice none 0 0 ∧ v9 = .int .i64 0 ∧ wr = w1) (fun _ _ _ => 0)
  case atStart => exact ⟨rfl, rfl, rfl⟩
  case round =>
    obtain ⟨rfl, rfl, rfl⟩ := hrel
    go_wp2_with fail
    go_at_call 86
    refine Calls.mono (S1.out _) ?_
    rintro e w2 ⟨rfl, o2, t2⟩
    go_wp2_with fail
    go_at_call 87
    refine Calls.mono (K1.out _) ?_
    rintro e w3 ⟨u, rfl, o3, t3, hb3⟩
    have hu : u = .slice none 0 0 := by
      obtain ⟨A, c, rfl, h1, h2, h3⟩ := o3.form
      cases A with
      | none => have := h3 rfl; subst this; rfl
      | some ad => simp [Value.ownBlock] at hb3
    subst hu
    have T := (t1.trans t2).trans t3
    clear t1 t2 t3 o2 o3 hb3
    go_wp2_with fail
    go_ret
    exact ⟨rfl, T⟩
theorem sum_nil (w : World) : Calls Try.prog 44 #[.pointer none, .int .i64 1] w fun e w' => e = .returned (.int .i64 0) ∧ Turns [] w w' := by
  go_enter Try.func44, Try.ntmps44
  go_wp2_with fail
  go_at_call 40
  refine Calls.mono (of_nil _ 1) ?_
  rintro e w1 ⟨rfl, t1⟩
  go_wp2_with fail
  go_loopw [5, 12] (fun v5 v12 wr => v5 = .int .i64 0 ∧ v12 = .int .i64 0 ∧ wr = w1) (fun _ _ _ => 0)
  case atStart => exact ⟨rfl, rfl, rfl⟩
  case round =>
    obtain ⟨rfl, rfl, rfl⟩ := hrel
    go_wp2_with fail
    go_ret
    exact ⟨rfl, t1⟩
end Go.Proofs.Ytoojemdehmabhaa.Za
