/- The document's Total; a row minted: the ledger's Look, the document's minted and Look. -/
import Derived.Test.YtphhfdlhkginkaaBe
set_option linter.unusedVariables false
set_option linter.unusedSimpArgs false
set_option maxRecDepth 100000
namespace Go.Proofs.Ytphhfdlhkginkaa.Bf
open Go.RowKit Go.MapKept Hm Hs Hf Hx Hy Hv Fa Ff Ba Bb Bc Bd Be Sm Sat Mu Mv
theorem infoI : (Try.prog.info? 3).map (fun i => (i.zero, i.size, i.bytes)) = some (some (.int .i64 0), 1, 8) := by kernel_rfl
theorem oneI {w : World} {b : Nat} {x : Int} (h : Blk w b #[.int .i64 x] 3) : RdS 1 w (.slice (some ⟨b, 0, none⟩) 1 1) (ins [x]) :=
  RdS.of_cells (rows := ins [x]) h rfl (by simp [ins]) 1 (by simp [ins]) (by decide)
theorem own_lit (w : World) (xs : List Int) (cs : Array Value) (hx : cs.toList = xs.map (Value.int .i64)) (n : Nat) (hn : n = xs.length) (hl : n ≤ 1000) : OwnS 3 1 (w.alloc (.cells cs 3)) (.slice (some ⟨w.heap.size, 0, none⟩) n n) (ins xs) := by
  subst hn
  have hs : cs.size = xs.length * 1 := by rw [← Array.length_toList, hx, List.length_map, Nat.mul_one]
  have := World.ownsRow_lit (base := 0) (e := 3) (size := 1) w cs xs.length (Nat.zero_le _) (by unfold maxLen; omega) hs
  refine ⟨?_, by intro r hr; unfold ins at hr; obtain ⟨x, _, rfl⟩ := List.mem_map.1 hr; rfl⟩
  rw [ins_len, ins_flat, ← hx]
  exact this
theorem irow_of {w : World} {A : Option Addr} {n c : Nat} {xs : List Int} (h : RdS 1 w (.slice A n c) (ins xs)) : IRow w A xs ∧ n = xs.length := by
  obtain ⟨A', c', hv, hc, hm, hn, hf, hl⟩ := h
  injection hv with e1 e2 e3
  subst e1
  rw [ins_len] at e2
  refine ⟨⟨by have := hf.1; rwa [ins_len] at this, fun hp => ?_⟩, e2⟩
  obtain ⟨ad, e, hh⟩ := hf.2 (by rw [ins_len]; exact hp)
  refine ⟨ad, e, fun j x hj => ?_⟩
  have := (hh j [.int .i64 x] (by unfold ins; rw [List.getElem?_map, hj]; rfl)).2 0 _ rfl
  rwa [Nat.mul_one, Nat.add_zero] at this
set_option maxHeartbeats 4000000 in
theorem rtotal_is (w : World) (x : Rw) (r : Row) (h : RowIs w x r) (hn : r.out.length ≤ 100000) : Calls Try.prog 20 #[x.v] w fun e w' => e = .returned (.int .i64 (totalR r)) ∧ Turns [] w w' := by
  obtain ⟨A, c, rfl, ho⟩ := row_form h
  have hoh := Lib.hid ho
  unfold Rw.v
  simp only
  have hTh : Hid (totalR r = sum (r.avail :: (r.out.take r.out.length).map (·.2))) := Lib.hid (by rw [List.take_length]; rfl)
  obtain ⟨tt, htt⟩ : ∃ tt, totalR r = tt := ⟨_, rfl⟩
  rw [htt] at hTh ⊢
  have H0 := (Sep.start w).alloc #[.int .i64 r.key, .int .i64 r.avail, .int .i64 r.mark, .slice A r.out.length c] 38
  have H := H0.newSlice ((Turns.refl [] _).alloc (.cells #[.int .i64 r.avail] 3)) (own_lit _ [r.avail] #[.int .i64 r.avail] rfl 1 rfl (by omega)) (by simp [Value.ownBlock])
  rw [World.size_alloc] at H
  have hHh := Lib.hid H
  have t1 : World.cell? (w.alloc (.cells #[.int .i64 r.key, .int .i64 r.avail, .int .i64 r.mark, .slice A r.out.length c] 38)) ⟨w.heap.size, 1, none⟩ = some _ := (H0.blk 0 rfl).cell 1
  clear h ho htt H0 H
  go_enter Try.func20, Try.ntmps20
  go_wp2_with fail
  go_loopw [3, 4] (fun v3 v4 wr => ∃ (k : Nat), k ≤ r.out.length ∧ v4 = .int .i64 k ∧ Sep [] w [tOwn 3 1 v3 (ins (r.avail :: (r.out.take k).map (·.2))), tBlk w.heap.size #[.int .i64 r.key, .int .i64 r.avail, .int .i64 r.mark, .slice A r.out.length c] 38] wr) (fun _ v4 _ => r.out.length - (RowKit.intOf v4).toNat)
  case atStart => exact ⟨0, by omega, rfl, hHh.out⟩
  case round =>
    clear hHh t1
    obtain ⟨k, hk, rfl, H⟩ := hrel
    have el : (r.avail :: (r.out.take k).map (·.2)).length = k + 1 := by rw [List.length_cons, List.length_map, List.length_take]; omega
    obtain ⟨A3, c3, hvv, _⟩ := formI (H.own 0 rfl)
    rw [el] at hvv
    subst hvv
    have t3 : World.cell? (wr) ⟨w.heap.size, 3, none⟩ = some _ := (H.blk 1 rfl).cell 3
    by_cases hlt : k < r.out.length
    · have g1 : decide ((k : Int) < (r.out.length : Int)) = true := decide_eq_true (by omega)
      have g1b : decide (k < r.out.length) = true := decide_eq_true hlt
      obtain ⟨p, hp⟩ : ∃ p, r.out[k]? = some p := ⟨_, List.getElem?_eq_getElem hlt⟩
      obtain ⟨ad, c', hv, L⟩ := ls_at hoh.out hp
      injection hv with e1 e2 e3
      subst e1 e3
      obtain ⟨x0, x1⟩ := L.turns H.t
      have erh := Lib.hid (show ins (r.avail :: (r.out.take (k + 1)).map (·.2)) = ins (r.avail :: (r.out.take k).map (·.2)) ++ ins [p.2] by rw [take_next hp, List.map_append, ← List.cons_append, ins_append]; rfl)
      have elh : Hid (k + 1 + 1 = (ins (r.avail :: (r.out.take k).map (·.2))).length + (ins [p.2]).length) := Lib.hid (by rw [ins_len, ins_len, el]; rfl)
      have O1 := Lib.hid (oneI (Blk.new wr #[.int .i64 p.2] 3))
      have H2 := H.alloc #[.int .i64 p.2] 3
      have hHh := Lib.hid H2
      clear hp e2 L el H H2
      go_wp2_with (at_builtin; refine stop_ ?_)
      refine Mk_.mk ?_
      refine hHh.out.append 1 rfl O1.out (k + 1 + 1) elh.out (ins (r.avail :: (r.out.take (k + 1)).map (·.2))) erh.out rfl _ _ _ rfl (.int .i64 0) 8 Try.underlying46 infoI rfl (by decide) rfl rfl (ins_one _) (by omega) (by omega) ?_
      clear hHh O1 elh erh x0 x1 t3
      intro A4 c4 wn H tn _
      clear tn
      have H2 := Lib.hid (H.keep [1, 2])
      clear H
      go_wp2_with fail
      go_roundw
      case rel => exact ⟨k + 1, by omega, by go_num, H2.out⟩
      case measure => simp [RowKit.intOf]; omega
    · obtain rfl : k = r.out.length := by omega
      have g1 : decide ((r.out.length : Int) < (r.out.length : Int)) = false := by simp
      obtain ⟨I1, I2⟩ := irow_of (H.own 0 rfl).reads
      have S1 := radd_is A3 _ c3 _ I1
      rw [el] at S1
      rw [← hTh.out] at S1
      have S1h := Lib.hid S1
      have Th := Lib.hid H.t
      clear H el I1 I2 S1
      go_wp2_with fail
      go_at_call 46
      refine Calls.mono (S1h.out) ?_
      rintro e w2 ⟨rfl, t2⟩
      have T := Th.out.trans t2
      clear t3
      go_wp2_with fail
      go_ret
      exact ⟨rfl, T⟩
end Go.Proofs.Ytphhfdlhkginkaa.Bf
