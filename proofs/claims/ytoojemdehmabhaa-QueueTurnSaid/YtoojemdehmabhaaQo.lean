/- queue's First where there is none, Keys. -/
import Derived.Test.YtoojemdehmabhaaQn
import Derived.Test.YtoojemdehmabhaaSs
set_option linter.unusedVariables false
set_option linter.unusedSimpArgs false
set_option maxRecDepth 100000
namespace Go.Proofs.Ytoojemdehmabhaa.Qo
open Go.RowKit Go.MapKept Go.Shelf Hm Hs Hf Hg Hx Hy Hv Sm Sat Ss Qa Qb Qc Qd Qe Qf Qk Ql Qm Qn
set_option maxHeartbeats 1000000 in
theorem first_none (w : World) (b : Nat) (room : Int) (iv : Value) (l : List It) (key : Int) (h : Got (qm b room iv l) w) (hn : l.length < 20) (hL : Cls l) (ho : ofQ l key = []) : Calls Try.prog 13 #[.pointer (some ⟨b, 0, none⟩), .int .i64 key] w fun e w' => e = .returned (.tuple #[It.zero.v, .bool false]) ∧ Turns [] w w' := by
  have H := (Sep.start w).alloc #[.int .i64 0, .int .i64 0, .int .i64 0, .int .i64 0, .int .i64 0] 34
  have hg : Got (qm b room iv l) (w.alloc (.cells #[.int .i64 0, .int .i64 0, .int .i64 0, .int .i64 0, .int .i64 0] 34)) := (h.sep.turns ((Turns.refl [] w).alloc (.cells #[.int .i64 0, .int .i64 0, .int .i64 0, .int .i64 0, .int .i64 0] 34))).got [0, 1]
  have O1 := Lib.hid (of_is _ b room iv l key hg hn hL)
  rw [ho] at O1
  have hHh := Lib.hid H
  unfold It.v It.zero
  clear h hL H hg ho
  go_enter Try.func13, Try.ntmps13
  go_wp2_with fail
  go_at_call 40
  refine Calls.mono (O1.out) ?_
  rintro e w1 ⟨u, rfl, o, t1⟩
  obtain ⟨A, c, rfl, _⟩ := formM o
  have H := hHh.out.turns t1
  have z0 : World.cell? (w1) ⟨w.heap.size, 0, none⟩ = some _ := (H.blk 0 rfl).cell 0
  have zf0 : World.frozen? (w1) ⟨w.heap.size, 0, none⟩ = false := (H.blk 0 rfl).frozen 0
  have z1 : World.cell? (w1) ⟨w.heap.size, 1, none⟩ = some _ := (H.blk 0 rfl).cell 1
  have zf1 : World.frozen? (w1) ⟨w.heap.size, 1, none⟩ = false := (H.blk 0 rfl).frozen 1
  have z2 : World.cell? (w1) ⟨w.heap.size, 2, none⟩ = some _ := (H.blk 0 rfl).cell 2
  have zf2 : World.frozen? (w1) ⟨w.heap.size, 2, none⟩ = false := (H.blk 0 rfl).frozen 2
  have z3 : World.cell? (w1) ⟨w.heap.size, 3, none⟩ = some _ := (H.blk 0 rfl).cell 3
  have zf3 : World.frozen? (w1) ⟨w.heap.size, 3, none⟩ = false := (H.blk 0 rfl).frozen 3
  have z4 : World.cell? (w1) ⟨w.heap.size, 4, none⟩ = some _ := (H.blk 0 rfl).cell 4
  have zf4 : World.frozen? (w1) ⟨w.heap.size, 4, none⟩ = false := (H.blk 0 rfl).frozen 4
  have H7 := ((((H.set 0 rfl 0 (.int .i64 0)).set 0 rfl 1 (.int .i64 0)).set 0 rfl 2 (.int .i64 0)).set 0 rfl 3 (.int .i64 0)).set 0 rfl 4 (.int .i64 0)
  have hR := H7.blk 0 rfl
  have T := H7.t
  rw [List.length_nil]
  clear H H7 o t1 hHh O1
  go_wp2_with fail
  refine bodyPost_ret (res_list (rs := [.cell 4 34, .tmp 5]) rfl (by simp) (.cell w.heap.size _ _ _ rfl hR Try.underlying34 rfl (by kernel_rfl) (.tmp .nil))) rfl ?_
  exact ⟨rfl, T⟩
theorem infoI : (Try.prog.info? 3).map (fun i => (i.zero, i.size, i.bytes)) = some (some (.int .i64 0), 1, 8) := by kernel_rfl
theorem oneI (w : World) (x : Int) : RdS 1 (w.alloc (.cells #[.int .i64 x] 3)) (.slice (some ⟨w.heap.size, 0, none⟩) 1 1) (ins [x]) :=
  RdS.of_cells (rows := ins [x]) (heap_alloc w (.cells #[.int .i64 x] 3)).1 rfl (by simp [ins]) 1 (by simp [ins]) (by decide)
def keysQ (l : List It) : List Int := onces (l.map It.key)
set_option maxHeartbeats 1000000 in
theorem keys_is (w : World) (b : Nat) (room : Int) (iv : Value) (l : List It) (h : Got (qm b room iv l) w) (hn : l.length < 20) : Calls Try.prog 42 #[.pointer (some ⟨b, 0, none⟩)] w fun e w' => ∃ u, e = .returned u ∧ OwnS 3 1 w' u (ins (keysQ l)) ∧ Turns [] w w' := by
  have A1 := Lib.hid (all_is w b room iv l h (by omega))
  clear h
  go_enter Try.func42, Try.ntmps42
  go_wp2_with fail
  go_at_call 12
  refine Calls.mono (A1.out) ?_
  rintro e w1 ⟨u, rfl, o, t1, hb⟩
  obtain ⟨A, c, rfl, _⟩ := formM o
  have ord := Lib.hid o.reads
  have H0 := (Sep.start w1).nilSlice 3 1
  clear o A1 hb
  go_wp2_with fail
  go_loopw [3, 9] (fun v3 v9 wr => ∃ (k : Nat), k ≤ l.length ∧ v9 = .int .i64 k ∧ Sep [] w1 [tOwn 3 1 v3 (ins ((l.take k).map It.key))] wr) (fun _ v9 _ => l.length - (RowKit.intOf v9).toNat)
  case atStart => exact ⟨0, by omega, rfl, H0⟩
  case round =>
    clear H0
    obtain ⟨k, hk, rfl, H⟩ := hrel
    have el : ((l.take k).map It.key).length = k := by rw [List.length_map, List.length_take]; omega
    obtain ⟨A3, c3, hvv, _⟩ := formI (H.own 0 rfl)
    rw [el] at hvv
    subst hvv
    by_cases hlt : k < l.length
    · have g1 : decide ((k : Int) < (l.length : Int)) = true := decide_eq_true (by omega)
      have g1b : decide (k < l.length) = true := decide_eq_true hlt
      obtain ⟨x, hx⟩ : ∃ x, l[k]? = some x := ⟨_, List.getElem?_eq_getElem hlt⟩
      obtain ⟨ad, c', hv, LX⟩ := icells_at ord.out hx
      injection hv with e1 e2 e3
      subst e1 e3
      obtain ⟨x0, x1, x2, x3, x4⟩ := LX.turns H.t
      have er : ins ((l.take (k + 1)).map It.key) = ins ((l.take k).map It.key) ++ ins [x.key] := by rw [take_next hx, List.map_append, ins_append]; rfl
      have erh := Lib.hid er
      have elh : Hid (k + 1 = (ins ((l.take k).map It.key)).length + (ins [x.key]).length) := Lib.hid (by rw [ins_len, ins_len, el]; rfl)
      have O1 := Lib.hid (oneI (wr.alloc (.cells #[.int .i64 x.id, .int .i64 x.key, .int .i64 x.cost, .int .i64 x.cls, .int .i64 x.until_] 34)) x.key)
      have H2 := (H.alloc #[.int .i64 x.id, .int .i64 x.key, .int .i64 x.cost, .int .i64 x.cls, .int .i64 x.until_] 34).alloc #[.int .i64 x.key] 3
      rw [World.size_alloc] at H2 O1
      have hHh := Lib.hid H2
      clear hx e2 LX er el H H2
      go_wp2_with (at_builtin; refine stop_ ?_)
      refine Mk_.mk ?_
      refine hHh.out.append 2 rfl O1.out (k + 1) elh.out (ins ((l.take (k + 1)).map It.key)) erh.out rfl _ _ _ rfl (.int .i64 0) 8 Try.underlying66 Qo.infoI rfl (by decide) rfl rfl (ins_one _) (by omega) (by omega) ?_
      clear hHh O1 elh erh x0 x1 x2 x3 x4
      intro A4 c4 wn H tn _
      clear tn
      have H2 := Lib.hid (H.keep [2])
      clear H
      go_wp2_with fail
      go_roundw
      case rel => exact ⟨k + 1, by omega, by go_num, H2.out⟩
      case measure => simp [RowKit.intOf]; omega
    · obtain rfl : k = l.length := by omega
      have g1 : decide ((l.length : Int) < (l.length : Int)) = false := by simp
      rw [List.take_length] at H
      have S1 := Lib.hid (sort_is wr _ _ (l.map It.key) (H.own 0 rfl) (by rw [List.length_map]; omega))
      have hHh := Lib.hid H
      clear H el
      go_wp2_with fail
      go_at_call 86
      refine Calls.mono (S1.out) ?_
      rintro e w2 ⟨rfl, o2, t2⟩
      have H := hHh.out.slice 0 rfl o2 t2 (.inl rfl)
      have K1 := Lib.hid (compact_is w2 _ _ (srt (l.map It.key)) (H.own 0 rfl) (by rw [srt_len, List.length_map]; omega))
      have hH2 := Lib.hid H
      clear H hHh S1 o2 t2
      go_wp2_with fail
      go_at_call 87
      refine Calls.mono (K1.out) ?_
      rintro e w3 ⟨u, rfl, o3, t3, hb3⟩
      have H := hH2.out.slice 0 rfl o3 t3 (.inl hb3)
      have T := t1.trans H.t
      go_wp2_with fail
      go_ret
      exact ⟨_, rfl, o3, T⟩
end Go.Proofs.Ytoojemdehmabhaa.Qo
