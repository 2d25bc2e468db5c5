/- Files of records, and the walk of vault's Open. -/
import Derived.Test.YtknmjmhiejmjdaaVe
set_option linter.unusedVariables false
set_option linter.unusedSimpArgs false
set_option maxRecDepth 100000
namespace Go.Proofs.Ytknmjmhiejmjdaa.Vf
open Go.RowKit Go.MapKept Go.ChangeShapes Go.WideShapes Hm Hs Hr Hb Hf Hg Hv Ho Dk Dr Kw Kn Kr Ks Va Vb Vc Vd Ve
/-- these records are the file's first ones, each one may be, and rises from the one ahead of it -/
def Good (file : List Int) (L : List V4) : Prop := ∀ j x, L[j]? = some x → x = decV (file.drop (32 * j)) ∧ x.ok = true ∧ (lastV (L.take j)).rises x = true
/-- the next one is bad -/
def Bad (file : List Int) (L : List V4) : Prop := (decV (file.drop (32 * L.length))).ok = false ∨ (lastV L).rises (decV (file.drop (32 * L.length))) = false
theorem lastV_snoc (L : List V4) (x : V4) : lastV (L ++ [x]) = x := by unfold lastV; rw [List.getLast?_append]; rfl
theorem Good.snoc {file : List Int} {L : List V4} (h : Good file L) (h1 : (decV (file.drop (32 * L.length))).ok = true) (h2 : (lastV L).rises (decV (file.drop (32 * L.length))) = true) : Good file (L ++ [decV (file.drop (32 * L.length))]) := by
  intro j x hj
  by_cases hlt : j < L.length
  · rw [List.getElem?_append_left hlt] at hj
    obtain ⟨a, b, c⟩ := h j x hj
    exact ⟨a, b, by rw [List.take_append_of_le_length (by omega)]; exact c⟩
  · rw [List.getElem?_append_right (by omega)] at hj
    have hj0 : j = L.length := by
      cases hd : j - L.length with
      | zero => omega
      | succ m => rw [hd] at hj; simp at hj
    subst hj0
    rw [Nat.sub_self] at hj
    injection hj with hj
    subst hj
    exact ⟨rfl, h1, by rw [List.take_left]; exact h2⟩
/-- a file's records, up to the first bad one -/
theorem parse_ex (file : List Int) : ∀ n : Nat, ∃ L, Good file L ∧ (L.length = n ∨ (L.length < n ∧ Bad file L))
  | 0 => ⟨[], by intro j x hj; simp at hj, .inl rfl⟩
  | n + 1 => by
    obtain ⟨L, hg, h⟩ := parse_ex file n
    rcases h with h | ⟨h, hb⟩
    · by_cases h1 : (decV (file.drop (32 * L.length))).ok = true
      · by_cases h2 : (lastV L).rises (decV (file.drop (32 * L.length))) = true
        · exact ⟨_, hg.snoc h1 h2, .inl (by simp [h])⟩
        · exact ⟨L, hg, .inr ⟨by omega, .inr (by simpa using h2)⟩⟩
      · exact ⟨L, hg, .inr ⟨by omega, .inl (by simpa using h1)⟩⟩
    · exact ⟨L, hg, .inr ⟨by omega, hb⟩⟩
theorem decV_take (l : List Int) : decV (l.take 32) = decV l := by
  unfold decV
  congr 1
  · rw [List.take_take]; congr 1
  · rw [List.drop_take, List.take_take]; congr 1
  · rw [List.drop_take, List.take_take]; congr 1
  · rw [List.drop_take, List.take_take]; congr 1
/-- a slice of bytes' part -/
theorem part_reads {w : World} {A : Option Addr} {n c : Nat} {l : List Int} (h : RdS 1 w (.slice A n c) (bys l)) {k : Nat} (hk : k + 32 ≤ l.length) (hc : k + 32 ≤ c) : RdS 1 w (.slice (A.map (fun x => x.add k)) 32 (c - k)) (bys ((l.drop k).take 32)) := by
  have h1 := RdS.drop h (k := k) (by rw [bys_len]; omega) rfl
  rw [if_neg (by omega)] at h1
  rw [bys_drop] at h1
  have h2 := RdS.take h1 (k := 32) (by rw [bys_len, List.length_drop]; omega)
  rw [bys_take] at h2
  exact h2
theorem open_nil (w : World) : Calls Try.prog 8 #[.pointer none] w fun e w' => e = .returned (.tuple #[.pointer none, .int .i64 1]) ∧ Turns [] w w' := by
  go_enter Try.func8, Try.ntmps8
  go_wp2_with fail
  go_ret2
  exact ⟨rfl, Turns.refl _ _⟩
set_option maxHeartbeats 4000000 in
theorem open_bad (w : World) (b : Nat) (fv : Value) (file : List Int) (safe room : Int) (L : List V4) (h : IsDisk w b fv file safe room) (hl : file.length ≤ 1000000) (hby : Byt file) (hg : Good file L) (hn : L.length < file.length / 32) (hbad : Bad file L) :
    Calls Try.prog 8 #[.pointer (some ⟨b, 0, none⟩)] w fun e w' => e = .returned (.tuple #[.pointer none, .int .i64 2]) ∧ Turns [] w w' := by
  have T0 := (Turns.refl [] w).alloc (.cells #[.int .i64 0, .int .i64 0, .int .i64 0, .int .i64 0, .pointer (some ⟨b, 0, none⟩), .int .i64 0] 69)
  have V0 : IsV _ w.heap.size b z4 0 := Blk.new w #[.int .i64 0, .int .i64 0, .int .i64 0, .int .i64 0, .pointer (some ⟨b, 0, none⟩), .int .i64 0] 69
  have h0 := h.turns T0 (by simp)
  have hlh : Hid (file.length ≤ 1000000) := hl
  have hbyh : Hid _ := hby
  have hgh : Hid _ := hg
  have hnh : Hid (L.length < file.length / 32) := hn
  have hbh : Hid _ := hbad
  clear hby hg hbad h hn
  go_enter Try.func8, Try.ntmps8
  go_wp2_with fail
  go_at_call 24
  refine Calls.mono (file_is _ b fv file safe room h0 (by omega)) ?_
  rintro e w1 ⟨v, rfl, ho1, t1, hf1⟩
  have V1 : IsV w1 w.heap.size b z4 0 := Blk.turns V0 t1 (by simp)
  have T1 := T0.trans t1
  obtain ⟨A, c, rfl, hc1, hc2, hc3⟩ := ho1.form
  rw [bys_len] at ho1 hc1
  have hrd := ho1.reads
  have hrdh : Hid _ := hrd
  have hap : ∀ q, (Value.slice A file.length c).ownBlock = some q → q ≠ w.heap.size := fun q hq => ho1.ne_blk hq V1 (by decide)
  have hws := Blk.lt V1
  clear T0 V0 h0 t1 hf1 ho1 hrd
  go_wp2_with fail
  go_loopw [6] (fun v6 wr => ∃ (k : Nat), k ≤ L.length ∧ v6 = .int .i64 ((32 * k : Nat) : Int) ∧ IsV wr w.heap.size b (lastV (L.take k)) k ∧ Turns [] w wr ∧ RdS 1 wr (.slice A file.length c) (bys file)) (fun v6 _ => file.length - (intOf v6).toNat)
  case atStart => exact ⟨0, by omega, rfl, V1, T1, hrdh.out⟩
  case round =>
    obtain ⟨k, hk, rfl, V2, T2, R2⟩ := hrel
    clear V1 T1 hrdh
    obtain ⟨K, hK⟩ : ∃ K, 32 * k = K := ⟨_, rfl⟩
    have hb32 : K + 32 ≤ file.length := by have := hnh.out; have := hlh.out; omega
    have e1 : ((K + 32 : Nat) : Int) = (K : Int) + 32 := by omega
    rw [hK]
    have g1 : decide ((K : Int) + 32 ≤ (file.length : Int)) = true := by simp; omega
    have hc1' : K + 32 ≤ c := by omega
    have R3 := part_reads R2 hb32 hc1'
    have hRd := vread_is wr _ ((file.drop K).take 32) R3 (by rw [List.length_take, List.length_drop]; omega) (Byt.take (l := file.drop K) (Byt.drop (l := file) hbyh.out K) 32)
    rw [decV_take] at hRd
    have w1h : IntKind.i64.wrap ((K : Int) + 32) = (K : Int) + 32 := IntWalk.i64_in _ (by omega)
    clear R3
    rcases Nat.lt_or_ge k L.length with hlt | hge
    · obtain ⟨x, hx⟩ : ∃ x, L[k]? = some x := ⟨_, List.getElem?_eq_getElem hlt⟩
      obtain ⟨hx1, hx2, hx3⟩ := hgh.out k x hx
      rw [hK] at hx1
      have hnx : lastV (L.take (k + 1)) = x := by rw [List.take_add_one, hx]; exact lastV_snoc _ _
      rw [← hx1, hx2] at hRd
      have hRis := fun w => rises_is w (lastV (L.take k)) x
      rw [hx3] at hRis
      have hRdh : Hid _ := hRd
      have hRish : Hid _ := hRis
      have hnxh : Hid _ := hnx
      have hKh : Hid _ := hK
      clear hRd hRis hK hx1 hx2 hx3 hnx hx hgh hbh hnh hbyh
      generalize lastV (L.take k) = st at *
      go_wp2_with fail
      go_at_call 26
      refine Calls.mono (hRdh.out) ?_
      rintro e w3 ⟨s, rfl, hs3, t3⟩
      obtain rfl : s = x := hs3 trivial
      have V3 := Blk.turns V2 t3 (by simp)
      have T3 := T2.trans t3
      have R3 := R2.mv (fun a u hu => t3.old hu)
      have V4' := (Blk.alloc V3 (.cells #[.int .i64 s.p, .int .i64 s.g, .int .i64 s.h, .int .i64 s.r] 25)).drew
      have S4 := (Blk.new w3 #[.int .i64 s.p, .int .i64 s.g, .int .i64 s.h, .int .i64 s.r] 25).drew
      have t4 := ((Turns.refl [] w3).alloc (.cells #[.int .i64 s.p, .int .i64 s.g, .int .i64 s.h, .int .i64 s.r] 25)).drew
      have R4 := R3.mv (fun a u hu => t4.old hu)
      have T4 := T3.trans t4
      have hne : w.heap.size < w3.heap.size := Blk.lt V3
      clear V2 T2 R2 V3 T3 R3 t3 t4 hRdh hs3
      go_wp2_with fail
      refine wp_region_flo2 [(0, true, [9]), (1, true, [9]), (2, true, []), (3, true, [9]), (4, true, [9]), (5, true, [9]), (6, true, [9]), (7, true, []), (8, true, []), (9, false, []), (10, true, []), (11, true, [])] (fun _ _ => True) (by kernel_rfl) rfl (by kernel_rfl) (by intro c d v a w h; cases d <;> first | (simpa [Exit.then, Exit.inBlock, Act.put] using h) | exact h) ?_
      generalize (w3.alloc (.cells #[.int .i64 s.p, .int .i64 s.g, .int .i64 s.h, .int .i64 s.r] 25)).drew = w4 at *
      have c0 : w4.cell? ⟨w.heap.size, 0, none⟩ = some _ := V4'.cell 0
      have c1 : w4.cell? ⟨w.heap.size, 1, none⟩ = some _ := V4'.cell 1
      have c2 : w4.cell? ⟨w.heap.size, 2, none⟩ = some _ := V4'.cell 2
      have c3 : w4.cell? ⟨w.heap.size, 3, none⟩ = some _ := V4'.cell 3
      have d0 : w4.cell? ⟨w3.heap.size, 0, none⟩ = some _ := S4.cell 0
      have d1 : w4.cell? ⟨w3.heap.size, 1, none⟩ = some _ := S4.cell 1
      have d2 : w4.cell? ⟨w3.heap.size, 2, none⟩ = some _ := S4.cell 2
      have d3 : w4.cell? ⟨w3.heap.size, 3, none⟩ = some _ := S4.cell 3
      first
        | (refine flo2_read _ rfl (fun _ => True) trivial (fun _ _ _ _ => trivial) (fun K hK => ?_); go_simp; first | (refine hK _ ?_) | (refine ⟨fun W _ => ?_, hK _ ?_⟩; · (go_simp)) | (refine ⟨fun W => ?_, hK _ ?_⟩; · (go_simp)))
        | (refine flo2_read _ rfl (fun W => W = _) rfl (by simp) (fun K hK => ?_); go_simp; first | (refine hK _ ?_) | (refine ⟨fun W hS => ?_, hK _ ?_⟩; · (subst hS; go_simp)) | (refine ⟨?_, hK _ ?_⟩; · (go_simp)))
      clear hK K
      first
        | (refine flo2_read _ rfl (fun _ => True) trivial (fun _ _ _ _ => trivial) (fun K hK => ?_); go_simp; first | (refine hK _ ?_) | (refine ⟨fun W _ => ?_, hK _ ?_⟩; · (go_simp)) | (refine ⟨fun W => ?_, hK _ ?_⟩; · (go_simp)))
        | (refine flo2_read _ rfl (fun W => W = _) rfl (by simp) (fun K hK => ?_); go_simp; first | (refine hK _ ?_) | (refine ⟨fun W hS => ?_, hK _ ?_⟩; · (subst hS; go_simp)) | (refine ⟨?_, hK _ ?_⟩; · (go_simp)))
      clear hK K
      first
        | (refine flo2_read _ rfl (fun _ => True) trivial (fun _ _ _ _ => trivial) (fun K hK => ?_); go_simp; first | (refine hK _ ?_) | (refine ⟨fun W _ => ?_, hK _ ?_⟩; · (go_simp)) | (refine ⟨fun W => ?_, hK _ ?_⟩; · (go_simp)))
        | (refine flo2_read _ rfl (fun W => W = _) rfl (by simp) (fun K hK => ?_); go_simp; first | (refine hK _ ?_) | (refine ⟨fun W hS => ?_, hK _ ?_⟩; · (subst hS; go_simp)) | (refine ⟨?_, hK _ ?_⟩; · (go_simp)))
      clear hK K
      first
        | (refine flo2_read _ rfl (fun _ => True) trivial (fun _ _ _ _ => trivial) (fun K hK => ?_); go_simp; first | (refine hK _ ?_) | (refine ⟨fun W _ => ?_, hK _ ?_⟩; · (go_simp)) | (refine ⟨fun W => ?_, hK _ ?_⟩; · (go_simp)))
        | (refine flo2_read _ rfl (fun W => W = _) rfl (by simp) (fun K hK => ?_); go_simp; first | (refine hK _ ?_) | (refine ⟨fun W hS => ?_, hK _ ?_⟩; · (subst hS; go_simp)) | (refine ⟨?_, hK _ ?_⟩; · (go_simp)))
      clear hK K
      first
        | (refine flo2_read _ rfl (fun _ => True) trivial (fun _ _ _ _ => trivial) (fun K hK => ?_); go_simp; first | (refine hK _ ?_) | (refine ⟨fun W _ => ?_, hK _ ?_⟩; · (go_simp)) | (refine ⟨fun W => ?_, hK _ ?_⟩; · (go_simp)))
        | (refine flo2_read _ rfl (fun W => W = _) rfl (by simp) (fun K hK => ?_); go_simp; first | (refine hK _ ?_) | (refine ⟨fun W hS => ?_, hK _ ?_⟩; · (subst hS; go_simp)) | (refine ⟨?_, hK _ ?_⟩; · (go_simp)))
      clear hK K
      first
        | (refine flo2_read _ rfl (fun _ => True) trivial (fun _ _ _ _ => trivial) (fun K hK => ?_); go_simp; first | (refine hK _ ?_) | (refine ⟨fun W _ => ?_, hK _ ?_⟩; · (go_simp)) | (refine ⟨fun W => ?_, hK _ ?_⟩; · (go_simp)))
        | (refine flo2_read _ rfl (fun W => W = _) rfl (by simp) (fun K hK => ?_); go_simp; first | (refine hK _ ?_) | (refine ⟨fun W hS => ?_, hK _ ?_⟩; · (subst hS; go_simp)) | (refine ⟨?_, hK _ ?_⟩; · (go_simp)))
      clear hK K
      first
        | (refine flo2_read _ rfl (fun _ => True) trivial (fun _ _ _ _ => trivial) (fun K hK => ?_); go_simp; first | (refine hK _ ?_) | (refine ⟨fun W _ => ?_, hK _ ?_⟩; · (go_simp)) | (refine ⟨fun W => ?_, hK _ ?_⟩; · (go_simp)))
        | (refine flo2_read _ rfl (fun W => W = _) rfl (by simp) (fun K hK => ?_); go_simp; first | (refine hK _ ?_) | (refine ⟨fun W hS => ?_, hK _ ?_⟩; · (subst hS; go_simp)) | (refine ⟨?_, hK _ ?_⟩; · (go_simp)))
      clear hK K
      first
        | (refine flo2_read _ rfl (fun _ => True) trivial (fun _ _ _ _ => trivial) (fun K hK => ?_); go_simp; first | (refine hK _ ?_) | (refine ⟨fun W _ => ?_, hK _ ?_⟩; · (go_simp)) | (refine ⟨fun W => ?_, hK _ ?_⟩; · (go_simp)))
        | (refine flo2_read _ rfl (fun W => W = _) rfl (by simp) (fun K hK => ?_); go_simp; first | (refine hK _ ?_) | (refine ⟨fun W hS => ?_, hK _ ?_⟩; · (subst hS; go_simp)) | (refine ⟨?_, hK _ ?_⟩; · (go_simp)))
      clear hK K
      first
        | (refine flo2_read _ rfl (fun _ => True) trivial (fun _ _ _ _ => trivial) (fun K hK => ?_); go_simp; first | (refine hK _ ?_) | (refine ⟨fun W _ => ?_, hK _ ?_⟩; · (go_simp)) | (refine ⟨fun W => ?_, hK _ ?_⟩; · (go_simp)))
        | (refine flo2_read _ rfl (fun W => W = _) rfl (by simp) (fun K hK => ?_); go_simp; first | (refine hK _ ?_) | (refine ⟨fun W hS => ?_, hK _ ?_⟩; · (subst hS; go_simp)) | (refine ⟨?_, hK _ ?_⟩; · (go_simp)))
      clear hK K
      refine flo2_alone _ rfl ?_
      go_wp2_with fail
      go_at_call 19
      refine Calls.mono (hRish.out _) ?_
      rintro e w5 ⟨rfl, t5⟩
      go_wp2_with fail
      refine ⟨trivial, _, fun _ _ h => h, ?_⟩
      have V5 := V4'.turns t5 (by simp)
      have S5 := S4.turns t5 (by simp)
      have R5 := R4.mv (fun a u hu => t5.old hu)
      have T5 := T4.trans t5
      clear V4' S4 R4 T4 t5 hRish c0 c1 c2 c3 d0 d1 d2 d3
      first
        | (refine flo2_read _ rfl (fun _ => True) trivial (fun _ _ _ _ => trivial) (fun K hK => ?_); go_simp; first | (refine hK _ ?_) | (refine ⟨fun W _ => ?_, hK _ ?_⟩; · (go_simp)) | (refine ⟨fun W => ?_, hK _ ?_⟩; · (go_simp)))
        | (refine flo2_read _ rfl (fun W => W = _) rfl (by simp) (fun K hK => ?_); go_simp; first | (refine hK _ ?_) | (refine ⟨fun W hS => ?_, hK _ ?_⟩; · (subst hS; go_simp)) | (refine ⟨?_, hK _ ?_⟩; · (go_simp)))
      clear hK K
      first
        | (refine flo2_read _ rfl (fun _ => True) trivial (fun _ _ _ _ => trivial) (fun K hK => ?_); go_simp; first | (refine hK _ ?_) | (refine ⟨fun W _ => ?_, hK _ ?_⟩; · (go_simp)) | (refine ⟨fun W => ?_, hK _ ?_⟩; · (go_simp)))
        | (refine flo2_read _ rfl (fun W => W = _) rfl (by simp) (fun K hK => ?_); go_simp; first | (refine hK _ ?_) | (refine ⟨fun W hS => ?_, hK _ ?_⟩; · (subst hS; go_simp)) | (refine ⟨?_, hK _ ?_⟩; · (go_simp)))
      clear hK K
      refine flo2_end ?_
      have d0 : w5.cell? ⟨w3.heap.size, 0, none⟩ = some _ := S5.cell 0
      have d1 : w5.cell? ⟨w3.heap.size, 1, none⟩ = some _ := S5.cell 1
      have d2 : w5.cell? ⟨w3.heap.size, 2, none⟩ = some _ := S5.cell 2
      have d3 : w5.cell? ⟨w3.heap.size, 3, none⟩ = some _ := S5.cell 3
      have c0 : w5.cell? ⟨w.heap.size, 0, none⟩ = some _ := V5.cell 0
      have c1 : w5.cell? ⟨w.heap.size, 1, none⟩ = some _ := V5.cell 1
      have c2 : w5.cell? ⟨w.heap.size, 2, none⟩ = some _ := V5.cell 2
      have c3 : w5.cell? ⟨w.heap.size, 3, none⟩ = some _ := V5.cell 3
      have c5 : w5.cell? ⟨w.heap.size, 5, none⟩ = some _ := V5.cell 5
      have f0 := V5.frozen 0
      have f1 := V5.frozen 1
      have f2 := V5.frozen 2
      have f3 := V5.frozen 3
      have f5 := V5.frozen 5
      have hk1 : IntKind.i64.wrap ((k : Int) + 1) = (k : Int) + 1 := IntWalk.i64_in _ (by have := hKh.out; omega)
      have V6 := ((((V5.set 0 (.int .i64 s.p)).set 1 (.int .i64 s.g)).set 2 (.int .i64 s.h)).set 3 (.int .i64 s.r)).set 5 (.int .i64 ((k : Int) + 1))
      have t6 := (((((Turns.refl [w.heap.size] w5).setCell (p := ⟨w.heap.size, 0, none⟩) (by simp) (.int .i64 s.p)).setCell (p := ⟨w.heap.size, 1, none⟩) (by simp) (.int .i64 s.g)).setCell (p := ⟨w.heap.size, 2, none⟩) (by simp) (.int .i64 s.h)).setCell (p := ⟨w.heap.size, 3, none⟩) (by simp) (.int .i64 s.r)).setCell (p := ⟨w.heap.size, 5, none⟩) (by simp) (.int .i64 ((k : Int) + 1))
      have T6 := T5.then t6 (by simp)
      have R6 := RdS.turns R5 t6 (fun q hq => by simpa using hap q hq)
      go_wp2_with fail
      go_roundw
      case rel => exact ⟨k + 1, by omega, by rw [show 32 * (k + 1) = K + 32 by have := hKh.out; omega]; go_num, by rw [hnxh.out]; exact V6, T6, R6⟩
      case measure => have := hKh.out; simp [intOf]; omega
    · obtain rfl : k = L.length := by omega
      rw [List.take_length] at V2
      have hbd := hbh.out
      unfold Bad at hbd
      rw [hK] at hbd
      have hlt0 := hnh.out
      clear hgh hbh hnh hbyh
      by_cases hok : (decV (file.drop K)).ok = true
      · have hris : (lastV L).rises (decV (file.drop K)) = false := by
          rcases hbd with h | h
          · rw [hok] at h; cases h
          · exact h
        rw [hok] at hRd
        have hRis := fun w => rises_is w (lastV L) (decV (file.drop K))
        rw [hris] at hRis
        generalize decV (file.drop K) = x at *
        have hRdh : Hid _ := hRd
        have hRish : Hid _ := hRis
        clear hRd hRis hK hok hris hbd hlt0
        generalize lastV L = st at *
        go_wp2_with fail
        go_at_call 26
        refine Calls.mono (hRdh.out) ?_
        rintro e w3 ⟨s, rfl, hs3, t3⟩
        obtain rfl : s = x := hs3 trivial
        have V3 := Blk.turns V2 t3 (by simp)
        have T3 := T2.trans t3
        have V4' := (Blk.alloc V3 (.cells #[.int .i64 s.p, .int .i64 s.g, .int .i64 s.h, .int .i64 s.r] 25)).drew
        have S4 := (Blk.new w3 #[.int .i64 s.p, .int .i64 s.g, .int .i64 s.h, .int .i64 s.r] 25).drew
        have t4 := ((Turns.refl [] w3).alloc (.cells #[.int .i64 s.p, .int .i64 s.g, .int .i64 s.h, .int .i64 s.r] 25)).drew
        have T4 := T3.trans t4
        clear V2 T2 R2 V3 T3 t3 t4 hRdh hs3
        go_wp2_with fail
        refine wp_region_flo2 [(0, true, [9]), (1, true, [9]), (2, true, []), (3, true, [9]), (4, true, [9]), (5, true, [9]), (6, true, [9]), (7, true, []), (8, true, []), (9, false, []), (10, true, []), (11, true, [])] (fun _ _ => True) (by kernel_rfl) rfl (by kernel_rfl) (by intro c d v a w h; cases d <;> first | (simpa [Exit.then, Exit.inBlock, Act.put] using h) | exact h) ?_
        generalize (w3.alloc (.cells #[.int .i64 s.p, .int .i64 s.g, .int .i64 s.h, .int .i64 s.r] 25)).drew = w4 at *
        have c0 : w4.cell? ⟨w.heap.size, 0, none⟩ = some _ := V4'.cell 0
        have c1 : w4.cell? ⟨w.heap.size, 1, none⟩ = some _ := V4'.cell 1
        have c2 : w4.cell? ⟨w.heap.size, 2, none⟩ = some _ := V4'.cell 2
        have c3 : w4.cell? ⟨w.heap.size, 3, none⟩ = some _ := V4'.cell 3
        have d0 : w4.cell? ⟨w3.heap.size, 0, none⟩ = some _ := S4.cell 0
        have d1 : w4.cell? ⟨w3.heap.size, 1, none⟩ = some _ := S4.cell 1
        have d2 : w4.cell? ⟨w3.heap.size, 2, none⟩ = some _ := S4.cell 2
        have d3 : w4.cell? ⟨w3.heap.size, 3, none⟩ = some _ := S4.cell 3
        first
          | (refine flo2_read _ rfl (fun _ => True) trivial (fun _ _ _ _ => trivial) (fun K hK => ?_); go_simp; first | (refine hK _ ?_) | (refine ⟨fun W _ => ?_, hK _ ?_⟩; · (go_simp)) | (refine ⟨fun W => ?_, hK _ ?_⟩; · (go_simp)))
          | (refine flo2_read _ rfl (fun W => W = _) rfl (by simp) (fun K hK => ?_); go_simp; first | (refine hK _ ?_) | (refine ⟨fun W hS => ?_, hK _ ?_⟩; · (subst hS; go_simp)) | (refine ⟨?_, hK _ ?_⟩; · (go_simp)))
        clear hK K
        first
          | (refine flo2_read _ rfl (fun _ => True) trivial (fun _ _ _ _ => trivial) (fun K hK => ?_); go_simp; first | (refine hK _ ?_) | (refine ⟨fun W _ => ?_, hK _ ?_⟩; · (go_simp)) | (refine ⟨fun W => ?_, hK _ ?_⟩; · (go_simp)))
          | (refine flo2_read _ rfl (fun W => W = _) rfl (by simp) (fun K hK => ?_); go_simp; first | (refine hK _ ?_) | (refine ⟨fun W hS => ?_, hK _ ?_⟩; · (subst hS; go_simp)) | (refine ⟨?_, hK _ ?_⟩; · (go_simp)))
        clear hK K
        first
          | (refine flo2_read _ rfl (fun _ => True) trivial (fun _ _ _ _ => trivial) (fun K hK => ?_); go_simp; first | (refine hK _ ?_) | (refine ⟨fun W _ => ?_, hK _ ?_⟩; · (go_simp)) | (refine ⟨fun W => ?_, hK _ ?_⟩; · (go_simp)))
          | (refine flo2_read _ rfl (fun W => W = _) rfl (by simp) (fun K hK => ?_); go_simp; first | (refine hK _ ?_) | (refine ⟨fun W hS => ?_, hK _ ?_⟩; · (subst hS; go_simp)) | (refine ⟨?_, hK _ ?_⟩; · (go_simp)))
        clear hK K
        first
          | (refine flo2_read _ rfl (fun _ => True) trivial (fun _ _ _ _ => trivial) (fun K hK => ?_); go_simp; first | (refine hK _ ?_) | (refine ⟨fun W _ => ?_, hK _ ?_⟩; · (go_simp)) | (refine ⟨fun W => ?_, hK _ ?_⟩; · (go_simp)))
          | (refine flo2_read _ rfl (fun W => W = _) rfl (by simp) (fun K hK => ?_); go_simp; first | (refine hK _ ?_) | (refine ⟨fun W hS => ?_, hK _ ?_⟩; · (subst hS; go_simp)) | (refine ⟨?_, hK _ ?_⟩; · (go_simp)))
        clear hK K
        first
          | (refine flo2_read _ rfl (fun _ => True) trivial (fun _ _ _ _ => trivial) (fun K hK => ?_); go_simp; first | (refine hK _ ?_) | (refine ⟨fun W _ => ?_, hK _ ?_⟩; · (go_simp)) | (refine ⟨fun W => ?_, hK _ ?_⟩; · (go_simp)))
          | (refine flo2_read _ rfl (fun W => W = _) rfl (by simp) (fun K hK => ?_); go_simp; first | (refine hK _ ?_) | (refine ⟨fun W hS => ?_, hK _ ?_⟩; · (subst hS; go_simp)) | (refine ⟨?_, hK _ ?_⟩; · (go_simp)))
        clear hK K
        first
          | (refine flo2_read _ rfl (fun _ => True) trivial (fun _ _ _ _ => trivial) (fun K hK => ?_); go_simp; first | (refine hK _ ?_) | (refine ⟨fun W _ => ?_, hK _ ?_⟩; · (go_simp)) | (refine ⟨fun W => ?_, hK _ ?_⟩; · (go_simp)))
          | (refine flo2_read _ rfl (fun W => W = _) rfl (by simp) (fun K hK => ?_); go_simp; first | (refine hK _ ?_) | (refine ⟨fun W hS => ?_, hK _ ?_⟩; · (subst hS; go_simp)) | (refine ⟨?_, hK _ ?_⟩; · (go_simp)))
        clear hK K
        first
          | (refine flo2_read _ rfl (fun _ => True) trivial (fun _ _ _ _ => trivial) (fun K hK => ?_); go_simp; first | (refine hK _ ?_) | (refine ⟨fun W _ => ?_, hK _ ?_⟩; · (go_simp)) | (refine ⟨fun W => ?_, hK _ ?_⟩; · (go_simp)))
          | (refine flo2_read _ rfl (fun W => W = _) rfl (by simp) (fun K hK => ?_); go_simp; first | (refine hK _ ?_) | (refine ⟨fun W hS => ?_, hK _ ?_⟩; · (subst hS; go_simp)) | (refine ⟨?_, hK _ ?_⟩; · (go_simp)))
        clear hK K
        first
          | (refine flo2_read _ rfl (fun _ => True) trivial (fun _ _ _ _ => trivial) (fun K hK => ?_); go_simp; first | (refine hK _ ?_) | (refine ⟨fun W _ => ?_, hK _ ?_⟩; · (go_simp)) | (refine ⟨fun W => ?_, hK _ ?_⟩; · (go_simp)))
          | (refine flo2_read _ rfl (fun W => W = _) rfl (by simp) (fun K hK => ?_); go_simp; first | (refine hK _ ?_) | (refine ⟨fun W hS => ?_, hK _ ?_⟩; · (subst hS; go_simp)) | (refine ⟨?_, hK _ ?_⟩; · (go_simp)))
        clear hK K
        first
          | (refine flo2_read _ rfl (fun _ => True) trivial (fun _ _ _ _ => trivial) (fun K hK => ?_); go_simp; first | (refine hK _ ?_) | (refine ⟨fun W _ => ?_, hK _ ?_⟩; · (go_simp)) | (refine ⟨fun W => ?_, hK _ ?_⟩; · (go_simp)))
          | (refine flo2_read _ rfl (fun W => W = _) rfl (by simp) (fun K hK => ?_); go_simp; first | (refine hK _ ?_) | (refine ⟨fun W hS => ?_, hK _ ?_⟩; · (subst hS; go_simp)) | (refine ⟨?_, hK _ ?_⟩; · (go_simp)))
        clear hK K
        refine flo2_alone _ rfl ?_
        go_wp2_with fail
        go_at_call 19
        refine Calls.mono (hRish.out _) ?_
        rintro e w5 ⟨rfl, t5⟩
        go_wp2_with fail
        refine ⟨trivial, _, fun _ _ h => h, ?_⟩
        have T5 := T4.trans t5
        first
          | (refine flo2_read _ rfl (fun _ => True) trivial (fun _ _ _ _ => trivial) (fun K hK => ?_); go_simp; first | (refine hK _ ?_) | (refine ⟨fun W _ => ?_, hK _ ?_⟩; · (go_simp)) | (refine ⟨fun W => ?_, hK _ ?_⟩; · (go_simp)))
          | (refine flo2_read _ rfl (fun W => W = _) rfl (by simp) (fun K hK => ?_); go_simp; first | (refine hK _ ?_) | (refine ⟨fun W hS => ?_, hK _ ?_⟩; · (subst hS; go_simp)) | (refine ⟨?_, hK _ ?_⟩; · (go_simp)))
        clear hK K
        first
          | (refine flo2_read _ rfl (fun _ => True) trivial (fun _ _ _ _ => trivial) (fun K hK => ?_); go_simp; first | (refine hK _ ?_) | (refine ⟨fun W _ => ?_, hK _ ?_⟩; · (go_simp)) | (refine ⟨fun W => ?_, hK _ ?_⟩; · (go_simp)))
          | (refine flo2_read _ rfl (fun W => W = _) rfl (by simp) (fun K hK => ?_); go_simp; first | (refine hK _ ?_) | (refine ⟨fun W hS => ?_, hK _ ?_⟩; · (subst hS; go_simp)) | (refine ⟨?_, hK _ ?_⟩; · (go_simp)))
        clear hK K
        refine flo2_end ?_
        go_wp2_with fail
        go_ret2
        exact ⟨rfl, T5⟩
      · have hok' : (decV (file.drop K)).ok = false := by simpa using hok
        rw [hok'] at hRd
        have hRdh : Hid _ := hRd
        clear hRd hK hok hok' hbd hlt0
        generalize decV (file.drop K) = x at *
        go_wp2_with fail
        go_at_call 26
        refine Calls.mono (hRdh.out) ?_
        rintro e w3 ⟨s, rfl, hs3, t3⟩
        have T3 := T2.trans t3
        have t4 := ((Turns.refl [] w3).alloc (.cells #[.int .i64 s.p, .int .i64 s.g, .int .i64 s.h, .int .i64 s.r] 25)).drew
        have T4 := T3.trans t4
        clear V2 T2 R2 T3 t3 t4 hRdh hs3
        go_wp2_with fail
        refine wp_region_flo2 [(0, true, [9]), (1, true, [9]), (2, true, []), (3, true, [9]), (4, true, [9]), (5, true, [9]), (6, true, [9]), (7, true, []), (8, true, []), (9, false, []), (10, true, []), (11, true, [])] (fun _ _ => True) (by kernel_rfl) rfl (by kernel_rfl) (by intro c d v a w h; cases d <;> first | (simpa [Exit.then, Exit.inBlock, Act.put] using h) | exact h) ?_
        generalize (w3.alloc (.cells #[.int .i64 s.p, .int .i64 s.g, .int .i64 s.h, .int .i64 s.r] 25)).drew = w4 at *
        first
          | (refine flo2_read _ rfl (fun _ => True) trivial (fun _ _ _ _ => trivial) (fun K hK => ?_); go_simp; first | (refine hK _ ?_) | (refine ⟨fun W _ => ?_, hK _ ?_⟩; · (go_simp)) | (refine ⟨fun W => ?_, hK _ ?_⟩; · (go_simp)))
          | (refine flo2_read _ rfl (fun W => W = _) rfl (by simp) (fun K hK => ?_); go_simp; first | (refine hK _ ?_) | (refine ⟨fun W hS => ?_, hK _ ?_⟩; · (subst hS; go_simp)) | (refine ⟨?_, hK _ ?_⟩; · (go_simp)))
        clear hK K
        first
          | (refine flo2_read _ rfl (fun _ => True) trivial (fun _ _ _ _ => trivial) (fun K hK => ?_); go_simp; first | (refine hK _ ?_) | (refine ⟨fun W _ => ?_, hK _ ?_⟩; · (go_simp)) | (refine ⟨fun W => ?_, hK _ ?_⟩; · (go_simp)))
          | (refine flo2_read _ rfl (fun W => W = _) rfl (by simp) (fun K hK => ?_); go_simp; first | (refine hK _ ?_) | (refine ⟨fun W hS => ?_, hK _ ?_⟩; · (subst hS; go_simp)) | (refine ⟨?_, hK _ ?_⟩; · (go_simp)))
        clear hK K
        first
          | (refine flo2_read _ rfl (fun _ => True) trivial (fun _ _ _ _ => trivial) (fun K hK => ?_); go_simp; first | (refine hK _ ?_) | (refine ⟨fun W _ => ?_, hK _ ?_⟩; · (go_simp)) | (refine ⟨fun W => ?_, hK _ ?_⟩; · (go_simp)))
          | (refine flo2_read _ rfl (fun W => W = _) rfl (by simp) (fun K hK => ?_); go_simp; first | (refine hK _ ?_) | (refine ⟨fun W hS => ?_, hK _ ?_⟩; · (subst hS; go_simp)) | (refine ⟨?_, hK _ ?_⟩; · (go_simp)))
        clear hK K
        first
          | (refine flo2_read _ rfl (fun _ => True) trivial (fun _ _ _ _ => trivial) (fun K hK => ?_); go_simp; first | (refine hK _ ?_) | (refine ⟨fun W _ => ?_, hK _ ?_⟩; · (go_simp)) | (refine ⟨fun W => ?_, hK _ ?_⟩; · (go_simp)))
          | (refine flo2_read _ rfl (fun W => W = _) rfl (by simp) (fun K hK => ?_); go_simp; first | (refine hK _ ?_) | (refine ⟨fun W hS => ?_, hK _ ?_⟩; · (subst hS; go_simp)) | (refine ⟨?_, hK _ ?_⟩; · (go_simp)))
        clear hK K
        first
          | (refine flo2_read _ rfl (fun _ => True) trivial (fun _ _ _ _ => trivial) (fun K hK => ?_); go_simp; first | (refine hK _ ?_) | (refine ⟨fun W _ => ?_, hK _ ?_⟩; · (go_simp)) | (refine ⟨fun W => ?_, hK _ ?_⟩; · (go_simp)))
          | (refine flo2_read _ rfl (fun W => W = _) rfl (by simp) (fun K hK => ?_); go_simp; first | (refine hK _ ?_) | (refine ⟨fun W hS => ?_, hK _ ?_⟩; · (subst hS; go_simp)) | (refine ⟨?_, hK _ ?_⟩; · (go_simp)))
        clear hK K
        first
          | (refine flo2_read _ rfl (fun _ => True) trivial (fun _ _ _ _ => trivial) (fun K hK => ?_); go_simp; first | (refine hK _ ?_) | (refine ⟨fun W _ => ?_, hK _ ?_⟩; · (go_simp)) | (refine ⟨fun W => ?_, hK _ ?_⟩; · (go_simp)))
          | (refine flo2_read _ rfl (fun W => W = _) rfl (by simp) (fun K hK => ?_); go_simp; first | (refine hK _ ?_) | (refine ⟨fun W hS => ?_, hK _ ?_⟩; · (subst hS; go_simp)) | (refine ⟨?_, hK _ ?_⟩; · (go_simp)))
        clear hK K
        first
          | (refine flo2_read _ rfl (fun _ => True) trivial (fun _ _ _ _ => trivial) (fun K hK => ?_); go_simp; first | (refine hK _ ?_) | (refine ⟨fun W _ => ?_, hK _ ?_⟩; · (go_simp)) | (refine ⟨fun W => ?_, hK _ ?_⟩; · (go_simp)))
          | (refine flo2_read _ rfl (fun W => W = _) rfl (by simp) (fun K hK => ?_); go_simp; first | (refine hK _ ?_) | (refine ⟨fun W hS => ?_, hK _ ?_⟩; · (subst hS; go_simp)) | (refine ⟨?_, hK _ ?_⟩; · (go_simp)))
        clear hK K
        first
          | (refine flo2_read _ rfl (fun _ => True) trivial (fun _ _ _ _ => trivial) (fun K hK => ?_); go_simp; first | (refine hK _ ?_) | (refine ⟨fun W _ => ?_, hK _ ?_⟩; · (go_simp)) | (refine ⟨fun W => ?_, hK _ ?_⟩; · (go_simp)))
          | (refine flo2_read _ rfl (fun W => W = _) rfl (by simp) (fun K hK => ?_); go_simp; first | (refine hK _ ?_) | (refine ⟨fun W hS => ?_, hK _ ?_⟩; · (subst hS; go_simp)) | (refine ⟨?_, hK _ ?_⟩; · (go_simp)))
        clear hK K
        first
          | (refine flo2_read _ rfl (fun _ => True) trivial (fun _ _ _ _ => trivial) (fun K hK => ?_); go_simp; first | (refine hK _ ?_) | (refine ⟨fun W _ => ?_, hK _ ?_⟩; · (go_simp)) | (refine ⟨fun W => ?_, hK _ ?_⟩; · (go_simp)))
          | (refine flo2_read _ rfl (fun W => W = _) rfl (by simp) (fun K hK => ?_); go_simp; first | (refine hK _ ?_) | (refine ⟨fun W hS => ?_, hK _ ?_⟩; · (subst hS; go_simp)) | (refine ⟨?_, hK _ ?_⟩; · (go_simp)))
        clear hK K
        refine flo2_alone _ rfl ?_
        go_wp2_with fail
        refine ⟨trivial, _, fun _ _ h => h, ?_⟩
        first
          | (refine flo2_read _ rfl (fun _ => True) trivial (fun _ _ _ _ => trivial) (fun K hK => ?_); go_simp; first | (refine hK _ ?_) | (refine ⟨fun W _ => ?_, hK _ ?_⟩; · (go_simp)) | (refine ⟨fun W => ?_, hK _ ?_⟩; · (go_simp)))
          | (refine flo2_read _ rfl (fun W => W = _) rfl (by simp) (fun K hK => ?_); go_simp; first | (refine hK _ ?_) | (refine ⟨fun W hS => ?_, hK _ ?_⟩; · (subst hS; go_simp)) | (refine ⟨?_, hK _ ?_⟩; · (go_simp)))
        clear hK K
        first
          | (refine flo2_read _ rfl (fun _ => True) trivial (fun _ _ _ _ => trivial) (fun K hK => ?_); go_simp; first | (refine hK _ ?_) | (refine ⟨fun W _ => ?_, hK _ ?_⟩; · (go_simp)) | (refine ⟨fun W => ?_, hK _ ?_⟩; · (go_simp)))
          | (refine flo2_read _ rfl (fun W => W = _) rfl (by simp) (fun K hK => ?_); go_simp; first | (refine hK _ ?_) | (refine ⟨fun W hS => ?_, hK _ ?_⟩; · (subst hS; go_simp)) | (refine ⟨?_, hK _ ?_⟩; · (go_simp)))
        clear hK K
        refine flo2_end ?_
        go_wp2_with fail
        go_ret2
        exact ⟨rfl, T4⟩
set_option maxHeartbeats 4000000 in
theorem open_ok (w : World) (b : Nat) (fv : Value) (file : List Int) (safe safe' room : Int) (L : List V4) (h : IsDisk w b fv file safe room) (hroom : (file.length : Int) ≤ room) (hs1 : 32 * L.length = file.length → safe' = safe) (hs2 : 32 * L.length < file.length → safe' = ((32 * L.length : Nat) : Int)) (hl : file.length ≤ 1000000) (hby : Byt file) (hg : Good file L) (hn : L.length = file.length / 32) :
    Calls Try.prog 8 #[.pointer (some ⟨b, 0, none⟩)] w fun e w' => ∃ vb fv', e = .returned (.tuple #[.pointer (some ⟨vb, 0, none⟩), .int .i64 0]) ∧ IsV w' vb b (lastV L) L.length ∧ w.heap.size ≤ vb ∧ IsDisk w' b fv' (file.take (32 * L.length)) safe' room ∧ Turns (foot b fv) w w' ∧ Moved w b fv fv' := by
  have T0 := (Turns.refl [] w).alloc (.cells #[.int .i64 0, .int .i64 0, .int .i64 0, .int .i64 0, .pointer (some ⟨b, 0, none⟩), .int .i64 0] 69)
  have V0 : IsV _ w.heap.size b z4 0 := Blk.new w #[.int .i64 0, .int .i64 0, .int .i64 0, .int .i64 0, .pointer (some ⟨b, 0, none⟩), .int .i64 0] 69
  have h0 := h.turns T0 (by simp)
  have hlh : Hid (file.length ≤ 1000000) := hl
  have hbyh : Hid _ := hby
  have hgh : Hid _ := hg
  have hnh : Hid (L.length = file.length / 32) := hn
  have hs1h : Hid (32 * L.length = file.length → safe' = safe) := hs1
  have hs2h : Hid (32 * L.length < file.length → safe' = ((32 * L.length : Nat) : Int)) := hs2
  have hD : Hid _ := h
  clear hby hg h hn hs1 hs2
  go_enter Try.func8, Try.ntmps8
  go_wp2_with fail
  go_at_call 24
  refine Calls.mono (file_is _ b fv file safe room h0 (by omega)) ?_
  rintro e w1 ⟨v, rfl, ho1, t1, hf1⟩
  have V1 : IsV w1 w.heap.size b z4 0 := Blk.turns V0 t1 (by simp)
  have T1 := T0.trans t1
  obtain ⟨A, c, rfl, hc1, hc2, hc3⟩ := ho1.form
  rw [bys_len] at ho1 hc1
  have hrd := ho1.reads
  have hrdh : Hid _ := hrd
  have hap : ∀ q, (Value.slice A file.length c).ownBlock = some q → q ≠ w.heap.size := fun q hq => ho1.ne_blk hq V1 (by decide)
  have hws := Blk.lt V1
  clear T0 V0 h0 t1 hf1 ho1 hrd
  go_wp2_with fail
  go_loopw [6] (fun v6 wr => ∃ (k : Nat), k ≤ L.length ∧ v6 = .int .i64 ((32 * k : Nat) : Int) ∧ IsV wr w.heap.size b (lastV (L.take k)) k ∧ Turns [] w wr ∧ RdS 1 wr (.slice A file.length c) (bys file)) (fun v6 _ => file.length - (intOf v6).toNat)
  case atStart => exact ⟨0, by omega, rfl, V1, T1, hrdh.out⟩
  case round =>
    obtain ⟨k, hk, rfl, V2, T2, R2⟩ := hrel
    clear V1 T1 hrdh
    obtain ⟨K, hK⟩ : ∃ K, 32 * k = K := ⟨_, rfl⟩
    have hKl : K ≤ 1000000 := by have := hnh.out; have := hlh.out; omega
    have w1h : IntKind.i64.wrap ((K : Int) + 32) = (K : Int) + 32 := IntWalk.i64_in _ (by omega)
    rcases Nat.lt_or_ge k L.length with hlt | hge
    · have hb32 : K + 32 ≤ file.length := by have := hnh.out; have := hlh.out; omega
      have e1 : ((K + 32 : Nat) : Int) = (K : Int) + 32 := by omega
      rw [hK]
      have g1 : decide ((K : Int) + 32 ≤ (file.length : Int)) = true := by simp; omega
      have hc1' : K + 32 ≤ c := by omega
      have R3 := part_reads R2 hb32 hc1'
      have hRd := vread_is wr _ ((file.drop K).take 32) R3 (by rw [List.length_take, List.length_drop]; omega) (Byt.take (l := file.drop K) (Byt.drop (l := file) hbyh.out K) 32)
      rw [decV_take] at hRd
      clear R3
      obtain ⟨x, hx⟩ : ∃ x, L[k]? = some x := ⟨_, List.getElem?_eq_getElem hlt⟩
      obtain ⟨hx1, hx2, hx3⟩ := hgh.out k x hx
      rw [hK] at hx1
      have hnx : lastV (L.take (k + 1)) = x := by rw [List.take_add_one, hx]; exact lastV_snoc _ _
      rw [← hx1, hx2] at hRd
      have hRis := fun w => rises_is w (lastV (L.take k)) x
      rw [hx3] at hRis
      have hRdh : Hid _ := hRd
      have hRish : Hid _ := hRis
      have hnxh : Hid _ := hnx
      have hKh : Hid _ := hK
      clear hRd hRis hK hx1 hx2 hx3 hnx hx hgh hs1h hs2h hD hnh hbyh
      generalize lastV (L.take k) = st at *
      go_wp2_with fail
      go_at_call 26
      refine Calls.mono (hRdh.out) ?_
      rintro e w3 ⟨s, rfl, hs3, t3⟩
      obtain rfl : s = x := hs3 trivial
      have V3 := Blk.turns V2 t3 (by simp)
      have T3 := T2.trans t3
      have R3 := R2.mv (fun a u hu => t3.old hu)
      have V4' := (Blk.alloc V3 (.cells #[.int .i64 s.p, .int .i64 s.g, .int .i64 s.h, .int .i64 s.r] 25)).drew
      have S4 := (Blk.new w3 #[.int .i64 s.p, .int .i64 s.g, .int .i64 s.h, .int .i64 s.r] 25).drew
      have t4 := ((Turns.refl [] w3).alloc (.cells #[.int .i64 s.p, .int .i64 s.g, .int .i64 s.h, .int .i64 s.r] 25)).drew
      have R4 := R3.mv (fun a u hu => t4.old hu)
      have T4 := T3.trans t4
      have hne : w.heap.size < w3.heap.size := Blk.lt V3
      clear V2 T2 R2 V3 T3 R3 t3 t4 hRdh hs3
      go_wp2_with fail
      refine wp_region_flo2 [(0, true, [9]), (1, true, [9]), (2, true, []), (3, true, [9]), (4, true, [9]), (5, true, [9]), (6, true, [9]), (7, true, []), (8, true, []), (9, false, []), (10, true, []), (11, true, [])] (fun _ _ => True) (by kernel_rfl) rfl (by kernel_rfl) (by intro c d v a w h; cases d <;> first | (simpa [Exit.then, Exit.inBlock, Act.put] using h) | exact h) ?_
      generalize (w3.alloc (.cells #[.int .i64 s.p, .int .i64 s.g, .int .i64 s.h, .int .i64 s.r] 25)).drew = w4 at *
      have c0 : w4.cell? ⟨w.heap.size, 0, none⟩ = some _ := V4'.cell 0
      have c1 : w4.cell? ⟨w.heap.size, 1, none⟩ = some _ := V4'.cell 1
      have c2 : w4.cell? ⟨w.heap.size, 2, none⟩ = some _ := V4'.cell 2
      have c3 : w4.cell? ⟨w.heap.size, 3, none⟩ = some _ := V4'.cell 3
      have d0 : w4.cell? ⟨w3.heap.size, 0, none⟩ = some _ := S4.cell 0
      have d1 : w4.cell? ⟨w3.heap.size, 1, none⟩ = some _ := S4.cell 1
      have d2 : w4.cell? ⟨w3.heap.size, 2, none⟩ = some _ := S4.cell 2
      have d3 : w4.cell? ⟨w3.heap.size, 3, none⟩ = some _ := S4.cell 3
      first
        | (refine flo2_read _ rfl (fun _ => True) trivial (fun _ _ _ _ => trivial) (fun K hK => ?_); go_simp; first | (refine hK _ ?_) | (refine ⟨fun W _ => ?_, hK _ ?_⟩; · (go_simp)) | (refine ⟨fun W => ?_, hK _ ?_⟩; · (go_simp)))
        | (refine flo2_read _ rfl (fun W => W = _) rfl (by simp) (fun K hK => ?_); go_simp; first | (refine hK _ ?_) | (refine ⟨fun W hS => ?_, hK _ ?_⟩; · (subst hS; go_simp)) | (refine ⟨?_, hK _ ?_⟩; · (go_simp)))
      clear hK K
      first
        | (refine flo2_read _ rfl (fun _ => True) trivial (fun _ _ _ _ => trivial) (fun K hK => ?_); go_simp; first | (refine hK _ ?_) | (refine ⟨fun W _ => ?_, hK _ ?_⟩; · (go_simp)) | (refine ⟨fun W => ?_, hK _ ?_⟩; · (go_simp)))
        | (refine flo2_read _ rfl (fun W => W = _) rfl (by simp) (fun K hK => ?_); go_simp; first | (refine hK _ ?_) | (refine ⟨fun W hS => ?_, hK _ ?_⟩; · (subst hS; go_simp)) | (refine ⟨?_, hK _ ?_⟩; · (go_simp)))
      clear hK K
      first
        | (refine flo2_read _ rfl (fun _ => True) trivial (fun _ _ _ _ => trivial) (fun K hK => ?_); go_simp; first | (refine hK _ ?_) | (refine ⟨fun W _ => ?_, hK _ ?_⟩; · (go_simp)) | (refine ⟨fun W => ?_, hK _ ?_⟩; · (go_simp)))
        | (refine flo2_read _ rfl (fun W => W = _) rfl (by simp) (fun K hK => ?_); go_simp; first | (refine hK _ ?_) | (refine ⟨fun W hS => ?_, hK _ ?_⟩; · (subst hS; go_simp)) | (refine ⟨?_, hK _ ?_⟩; · (go_simp)))
      clear hK K
      first
        | (refine flo2_read _ rfl (fun _ => True) trivial (fun _ _ _ _ => trivial) (fun K hK => ?_); go_simp; first | (refine hK _ ?_) | (refine ⟨fun W _ => ?_, hK _ ?_⟩; · (go_simp)) | (refine ⟨fun W => ?_, hK _ ?_⟩; · (go_simp)))
        | (refine flo2_read _ rfl (fun W => W = _) rfl (by simp) (fun K hK => ?_); go_simp; first | (refine hK _ ?_) | (refine ⟨fun W hS => ?_, hK _ ?_⟩; · (subst hS; go_simp)) | (refine ⟨?_, hK _ ?_⟩; · (go_simp)))
      clear hK K
      first
        | (refine flo2_read _ rfl (fun _ => True) trivial (fun _ _ _ _ => trivial) (fun K hK => ?_); go_simp; first | (refine hK _ ?_) | (refine ⟨fun W _ => ?_, hK _ ?_⟩; · (go_simp)) | (refine ⟨fun W => ?_, hK _ ?_⟩; · (go_simp)))
        | (refine flo2_read _ rfl (fun W => W = _) rfl (by simp) (fun K hK => ?_); go_simp; first | (refine hK _ ?_) | (refine ⟨fun W hS => ?_, hK _ ?_⟩; · (subst hS; go_simp)) | (refine ⟨?_, hK _ ?_⟩; · (go_simp)))
      clear hK K
      first
        | (refine flo2_read _ rfl (fun _ => True) trivial (fun _ _ _ _ => trivial) (fun K hK => ?_); go_simp; first | (refine hK _ ?_) | (refine ⟨fun W _ => ?_, hK _ ?_⟩; · (go_simp)) | (refine ⟨fun W => ?_, hK _ ?_⟩; · (go_simp)))
        | (refine flo2_read _ rfl (fun W => W = _) rfl (by simp) (fun K hK => ?_); go_simp; first | (refine hK _ ?_) | (refine ⟨fun W hS => ?_, hK _ ?_⟩; · (subst hS; go_simp)) | (refine ⟨?_, hK _ ?_⟩; · (go_simp)))
      clear hK K
      first
        | (refine flo2_read _ rfl (fun _ => True) trivial (fun _ _ _ _ => trivial) (fun K hK => ?_); go_simp; first | (refine hK _ ?_) | (refine ⟨fun W _ => ?_, hK _ ?_⟩; · (go_simp)) | (refine ⟨fun W => ?_, hK _ ?_⟩; · (go_simp)))
        | (refine flo2_read _ rfl (fun W => W = _) rfl (by simp) (fun K hK => ?_); go_simp; first | (refine hK _ ?_) | (refine ⟨fun W hS => ?_, hK _ ?_⟩; · (subst hS; go_simp)) | (refine ⟨?_, hK _ ?_⟩; · (go_simp)))
      clear hK K
      first
        | (refine flo2_read _ rfl (fun _ => True) trivial (fun _ _ _ _ => trivial) (fun K hK => ?_); go_simp; first | (refine hK _ ?_) | (refine ⟨fun W _ => ?_, hK _ ?_⟩; · (go_simp)) | (refine ⟨fun W => ?_, hK _ ?_⟩; · (go_simp)))
        | (refine flo2_read _ rfl (fun W => W = _) rfl (by simp) (fun K hK => ?_); go_simp; first | (refine hK _ ?_) | (refine ⟨fun W hS => ?_, hK _ ?_⟩; · (subst hS; go_simp)) | (refine ⟨?_, hK _ ?_⟩; · (go_simp)))
      clear hK K
      first
        | (refine flo2_read _ rfl (fun _ => True) trivial (fun _ _ _ _ => trivial) (fun K hK => ?_); go_simp; first | (refine hK _ ?_) | (refine ⟨fun W _ => ?_, hK _ ?_⟩; · (go_simp)) | (refine ⟨fun W => ?_, hK _ ?_⟩; · (go_simp)))
        | (refine flo2_read _ rfl (fun W => W = _) rfl (by simp) (fun K hK => ?_); go_simp; first | (refine hK _ ?_) | (refine ⟨fun W hS => ?_, hK _ ?_⟩; · (subst hS; go_simp)) | (refine ⟨?_, hK _ ?_⟩; · (go_simp)))
      clear hK K
      refine flo2_alone _ rfl ?_
      go_wp2_with fail
      go_at_call 19
      refine Calls.mono (hRish.out _) ?_
      rintro e w5 ⟨rfl, t5⟩
      go_wp2_with fail
      refine ⟨trivial, _, fun _ _ h => h, ?_⟩
      have V5 := V4'.turns t5 (by simp)
      have S5 := S4.turns t5 (by simp)
      have R5 := R4.mv (fun a u hu => t5.old hu)
      have T5 := T4.trans t5
      clear V4' S4 R4 T4 t5 hRish c0 c1 c2 c3 d0 d1 d2 d3
      first
        | (refine flo2_read _ rfl (fun _ => True) trivial (fun _ _ _ _ => trivial) (fun K hK => ?_); go_simp; first | (refine hK _ ?_) | (refine ⟨fun W _ => ?_, hK _ ?_⟩; · (go_simp)) | (refine ⟨fun W => ?_, hK _ ?_⟩; · (go_simp)))
        | (refine flo2_read _ rfl (fun W => W = _) rfl (by simp) (fun K hK => ?_); go_simp; first | (refine hK _ ?_) | (refine ⟨fun W hS => ?_, hK _ ?_⟩; · (subst hS; go_simp)) | (refine ⟨?_, hK _ ?_⟩; · (go_simp)))
      clear hK K
      first
        | (refine flo2_read _ rfl (fun _ => True) trivial (fun _ _ _ _ => trivial) (fun K hK => ?_); go_simp; first | (refine hK _ ?_) | (refine ⟨fun W _ => ?_, hK _ ?_⟩; · (go_simp)) | (refine ⟨fun W => ?_, hK _ ?_⟩; · (go_simp)))
        | (refine flo2_read _ rfl (fun W => W = _) rfl (by simp) (fun K hK => ?_); go_simp; first | (refine hK _ ?_) | (refine ⟨fun W hS => ?_, hK _ ?_⟩; · (subst hS; go_simp)) | (refine ⟨?_, hK _ ?_⟩; · (go_simp)))
      clear hK K
      refine flo2_end ?_
      have d0 : w5.cell? ⟨w3.heap.size, 0, none⟩ = some _ := S5.cell 0
      have d1 : w5.cell? ⟨w3.heap.size, 1, none⟩ = some _ := S5.cell 1
      have d2 : w5.cell? ⟨w3.heap.size, 2, none⟩ = some _ := S5.cell 2
      have d3 : w5.cell? ⟨w3.heap.size, 3, none⟩ = some _ := S5.cell 3
      have c0 : w5.cell? ⟨w.heap.size, 0, none⟩ = some _ := V5.cell 0
      have c1 : w5.cell? ⟨w.heap.size, 1, none⟩ = some _ := V5.cell 1
      have c2 : w5.cell? ⟨w.heap.size, 2, none⟩ = some _ := V5.cell 2
      have c3 : w5.cell? ⟨w.heap.size, 3, none⟩ = some _ := V5.cell 3
      have c5 : w5.cell? ⟨w.heap.size, 5, none⟩ = some _ := V5.cell 5
      have f0 := V5.frozen 0
      have f1 := V5.frozen 1
      have f2 := V5.frozen 2
      have f3 := V5.frozen 3
      have f5 := V5.frozen 5
      have hk1 : IntKind.i64.wrap ((k : Int) + 1) = (k : Int) + 1 := IntWalk.i64_in _ (by have := hKh.out; omega)
      have V6 := ((((V5.set 0 (.int .i64 s.p)).set 1 (.int .i64 s.g)).set 2 (.int .i64 s.h)).set 3 (.int .i64 s.r)).set 5 (.int .i64 ((k : Int) + 1))
      have t6 := (((((Turns.refl [w.heap.size] w5).setCell (p := ⟨w.heap.size, 0, none⟩) (by simp) (.int .i64 s.p)).setCell (p := ⟨w.heap.size, 1, none⟩) (by simp) (.int .i64 s.g)).setCell (p := ⟨w.heap.size, 2, none⟩) (by simp) (.int .i64 s.h)).setCell (p := ⟨w.heap.size, 3, none⟩) (by simp) (.int .i64 s.r)).setCell (p := ⟨w.heap.size, 5, none⟩) (by simp) (.int .i64 ((k : Int) + 1))
      have T6 := T5.then t6 (by simp)
      have R6 := RdS.turns R5 t6 (fun q hq => by simpa using hap q hq)
      go_wp2_with fail
      go_roundw
      case rel => exact ⟨k + 1, by omega, by rw [show 32 * (k + 1) = K + 32 by have := hKh.out; omega]; go_num, by rw [hnxh.out]; exact V6, T6, R6⟩
      case measure => have := hKh.out; simp [intOf]; omega
    · obtain rfl : k = L.length := by omega
      rw [List.take_length] at V2
      rw [hK]
      have hb32 : ¬ (K + 32 ≤ file.length) := by have := hnh.out; have := hlh.out; omega
      have hKl2 : K ≤ file.length := by have := hnh.out; have := hlh.out; omega
      have g1 : decide ((K : Int) + 32 ≤ (file.length : Int)) = false := by simp; omega
      have c5 : wr.cell? ⟨w.heap.size, 5, none⟩ = some _ := V2.cell 5
      have wK : IntKind.i64.wrap ((L.length : Int) * 32) = (K : Int) := by rw [IntWalk.i64_in _ (by omega)]; omega
      have hs1 := hs1h.out
      have hs2 := hs2h.out
      rw [hK] at hs1 hs2
      have hDr := IsDisk.turns hD.out T2 (by simp)
      have hws2 := T2.size
      clear hgh hs1h hs2h hbyh hnh hb32
      by_cases hfull : K = file.length
      · obtain rfl := hs1 hfull
        have g2 : decide ((K : Int) < (file.length : Int)) = false := by simp; omega
        have g3 : ¬ (K < file.length) := by omega
        clear hs2 hs1
        have hKh : Hid _ := hK
        have hfh : Hid _ := hfull
        clear hK hfull
        go_wp2_with fail
        go_ret2
        exact (by rw [hKh.out, hfh.out, List.take_length]; exact ⟨w.heap.size, fv, rfl, V2, Nat.le_refl _, hDr, T2.mono (by simp), Moved.refl _ _ _⟩)
      · obtain rfl := hs2 (by omega)
        have g2 : decide ((K : Int) < (file.length : Int)) = true := by simp; omega
        have R3 := RdS.take R2 (k := K) (by rw [bys_len]; omega)
        rw [bys_take] at R3
        have hlk : (file.take K).length = K := by rw [List.length_take]; omega
        have hRp := replace_ok wr b fv _ file (file.take K) safe room hDr R3 (by omega) (decide_eq_false (by omega))
        rw [hlk] at hRp
        have hRph : Hid _ := hRp
        have hKc : (K : Int) ≤ (c : Int) := by omega
        have hKh : Hid _ := hK
        have hbne : w.heap.size ∉ foot b fv := fun h0 => by have := IsDisk.lt hD.out _ h0; omega
        clear hRp hK hs1
        go_wp2_with fail
        go_at_call 27
        refine Calls.mono (hRph.out) ?_
        rintro e w3 ⟨rfl, fv3, hd3, t3, m3⟩
        have V3 := V2.turns t3 hbne
        have T3 := (T2.mono (G := foot b fv) (by simp)).trans t3
        go_wp2_with fail
        go_ret2
        exact (by rw [hKh.out]; exact ⟨w.heap.size, fv3, rfl, V3, Nat.le_refl _, hd3, T3, fun q hq => by rcases m3 q hq with h0 | h0; exact .inl h0; exact .inr (by omega)⟩)
end Go.Proofs.Ytknmjmhiejmjdaa.Vf
