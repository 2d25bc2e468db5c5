/- QueueTurn: the law's walk. -/
import Derived.Test.YtoojemdehmabhaaZd
import Derived.Test.YtoojemdehmabhaaZc
set_option linter.unusedVariables false
set_option linter.unusedSimpArgs false
set_option maxRecDepth 100000
namespace Go.Proofs.Ytoojemdehmabhaa.Ze
open Go.RowKit Go.MapKept Go.Shelf Hm Hs Hf Hg Hx Hy Hv Sm Qa Qb Qc Qd Qe Qf Qg Qh Qi Qj Qk Qm Qn Qo Qp Qq Qr Qs Qt Qv Qw Qx Qy Qz Za Zd
theorem firstV_none {l : List It} {key : Int} {x : It} (h : firstV l key = (x, false)) : ofQ l key = [] := by
  unfold firstV at h
  split at h
  · assumption
  · simp at h
theorem firstV_some {l : List It} {key : Int} {x : It} (h : firstV l key = (x, true)) : ∃ r, ofQ l key = x :: r := by
  unfold firstV at h
  split at h
  · simp at h
  · rename_i y r e
    simp only [Prod.mk.injEq, and_true] at h
    exact ⟨r, by rw [e, h]⟩
theorem filter_at {l : List It} {p : It → Bool} {i : Nat} {x : It} (hx : l[i]? = some x) (hp : p x = true) : (l.filter p)[((l.take i).filter p).length]? = some x := by
  have e : l = l.take i ++ x :: l.drop (i + 1) := by
    conv => lhs; rw [← List.take_append_drop i l]
    rw [Qa.drop_cons hx]
  conv => lhs; arg 1; rw [e]
  rw [List.filter_append, List.getElem?_append_right (Nat.le_refl _), Nat.sub_self, List.filter_cons, if_pos hp]
  rfl
theorem filter_next {l : List It} {p : It → Bool} {i : Nat} {x : It} (hx : l[i]? = some x) : ((l.take (i + 1)).filter p).length = ((l.take i).filter p).length + if p x then 1 else 0 := by
  rw [Qb.take_next hx, List.filter_append, List.length_append]
  by_cases h : p x <;> simp [h]
set_option maxHeartbeats 8000000 in
theorem turn_is (w : World) (room : Int) (A : Option Addr) (c : Nat) (acts : List Qy.Act) (key : Int) (hr : 0 ≤ room ∧ room ≤ 255) (hl : FlatRow w A 6 (acts.map Qy.Act.cells)) :
    Calls Try.prog 3 #[.int .u8 room, .slice A acts.length c, .int .i64 key] w fun e w' => e = .returned (.bool true) ∧ Turns [] w w' := by
  obtain ⟨X, hX⟩ : ∃ X : Ending → World → Prop, X = fun e w' => e = .returned (.bool true) ∧ Turns [] w w' := ⟨_, rfl⟩
  rw [← hX]
  have hXh : Hid (∀ w', Turns [] w w' → X (.returned (.bool true)) w') := Lib.hid (fun w' h => by rw [hX]; exact ⟨rfl, h⟩)
  clear hX
  have hlh := Lib.hid hl
  clear hl
  by_cases hlong : (acts.length : Int) > 80
  · have g1 := decide_eq_true hlong
    clear hlong
    go_enter Try.func3, Try.ntmps3
    go_wp2_with fail
    go_at_call 9
    refine Calls.mono (alive_any _) ?_
    rintro e w1 ⟨rfl, t1⟩
    have hX := hXh.out _ t1
    go_wp2_with fail
    exact hX
  · have g1 : decide ((acts.length : Int) > 80) = false := decide_eq_false hlong
    have hl80 : acts.length ≤ 80 := by omega
    clear hlong
    obtain ⟨rm, hrm⟩ : ∃ rm, room.tmod 17 = rm := ⟨_, rfl⟩
    have hrb : 0 ≤ rm ∧ rm ≤ 16 := by rw [← hrm, Int.tmod_eq_emod_of_nonneg hr.1]; omega
    have hrw : IntKind.i64.wrap rm = rm := IntWalk.i64_in _ (by omega)
    have N1 := Lib.hid (Qe.new_is w rm hrb)
    clear hr
    go_enter Try.func3, Try.ntmps3
    go_wp2_with fail
    go_at_call 10
    refine Calls.mono (N1.out) ?_
    rintro e w1 ⟨b, rfl, H⟩
    replace H := ((H.alloc #[.int .i64 rm, .slice none 0 0] 31).nilSlice 84 5).keep [2, 3, 1, 0]
    have hH2 := Lib.hid H
    clear H N1
    go_wp2_with fail
    generalize w1.alloc (.cells #[.int .i64 rm, .slice none 0 0] 31) = w3 at *
    generalize w1.heap.size = d at *
    clear hrm hrw
    go_loopw [10] (fun v10 wr => ∃ (k : Nat) (l : List It) (iv lv : Value), k ≤ acts.length ∧ v10 = .int .i64 k ∧ Cls l ∧ Own l ∧ (l.length : Int) ≤ rm ∧ Sep [] w (both b d rm iv lv l) wr) (fun v10 _ => acts.length - (RowKit.intOf v10).toNat)
    case atStart => exact ⟨0, [], _, _, by omega, rfl, by intro x hx; simp at hx, by unfold Own; simp, by simpa using hrb.1, hH2.out⟩
    case round =>
      obtain ⟨k, l0, iv, lv, hk, rfl, hc0, ho0, hn0, H1⟩ := hrel
      clear hH2
      by_cases hlt : k < acts.length
      · have g2 : decide ((k : Int) < (acts.length : Int)) = true := by simp; omega
        obtain ⟨a, hx⟩ : ∃ a, acts[k]? = some a := ⟨_, List.getElem?_eq_getElem hlt⟩
        obtain ⟨ad, rfl, _, hcc⟩ := hlh.out.at_ (j := k) (c := Qy.Act.cells a) (by rw [List.getElem?_map, hx]; rfl)
        obtain ⟨i0, i1, i2, i3, i4, i5⟩ := (acells_of hcc).turns H1.t
        have P1 := Lib.hid (step_is wr b d rm iv lv l0 a (H1.got [0, 1, 2, 3]) (by omega))
        have hc := Lib.hid (step_cls (room := rm) (a := a) hc0)
        have hn := Lib.hid (step_len (a := a) hn0)
        have ho := Lib.hid (step_own (room := rm) (a := a) ho0)
        generalize stepQ rm l0 a = l at *
        unfold Qy.Act.v at P1
        have hH1 := Lib.hid H1
        clear hx hcc hc0 hn0 ho0 H1
        go_wp2_with fail
        go_at_call 11
        refine Calls.mono (P1.out) ?_
        rintro e w4 ⟨rfl, iv2, lv2, h4⟩
        have hH2 := Lib.hid (hH1.out.call [0, 1, 2, 3] h4)
        clear hH1 h4 P1
        go_wp2_with fail
        go_roundw
        case rel => exact ⟨k + 1, l, iv2, lv2, by omega, by go_num, hc.out, ho.out, hn.out, hH2.out⟩
        case measure => simp [RowKit.intOf]; omega
      · obtain rfl : k = acts.length := by omega
        have g2 : decide ((acts.length : Int) < (acts.length : Int)) = false := by simp
        have hl16 : l0.length ≤ 16 := by omega
        have A1 := Lib.hid (Qe.all_is wr b rm iv l0 (H1.got [0, 1]) (by omega))
        obtain ⟨x0, ok0, hf0⟩ : ∃ x ok, firstV l0 key = (x, ok) := ⟨_, _, rfl⟩
        have F1 := Lib.hid (fun w h => first_any w b rm iv l0 key h (by omega) hc0 x0 ok0 hf0)
        have hf0h := Lib.hid hf0
        have hTk := Lib.hid (Tk.start ho0 hc0 key)
        have hown := Lib.hid ho0
        unfold It.v at F1
        have hH1 := Lib.hid (H1.keep [0, 1])
        clear hc0 hn0 ho0 H1 hf0
        go_wp2_with fail
        go_at_call 12
        refine Calls.mono (A1.out) ?_
        rintro e w4 ⟨v11, rfl, o11, t4, m11⟩
        have H := hH1.out.newSlice t4 o11 m11
        have F2 := Lib.hid (F1.out _ (H.got [1, 2]))
        obtain ⟨A11, c11, rfl, _⟩ := formM o11
        have hH2 := Lib.hid H
        clear H hH1 A1 F1 t4 o11 m11
        go_wp2_with fail
        go_at_call 13
        refine Calls.mono (F2.out) ?_
        rintro e w5 ⟨rfl, t5⟩
        have H := ((hH2.out.turns t5).alloc #[.int .i64 x0.id, .int .i64 x0.key, .int .i64 x0.cost, .int .i64 x0.cls, .int .i64 x0.until_] 34).nilSlice 34 5
        replace H := H.keep [1, 0, 3, 4, 2]
        have hH1 := Lib.hid H
        clear H hH2 F2 t5
        go_wp2_with fail
        generalize w5.alloc (.cells #[.int .i64 x0.id, .int .i64 x0.key, .int .i64 x0.cost, .int .i64 x0.cls, .int .i64 x0.until_] 34) = w6 at *
        generalize w5.heap.size = xb at *
        go_loopw [12, 14, 15] (fun v12 v14 v15 wr => ∃ (got l : List It) (x : It) (ok : Bool) (iv : Value), Tk l0 key got l ∧ firstV l key = (x, ok) ∧ v15 = .int .i64 got.length ∧ v14 = .bool ok ∧ Sep [] w [tBlk xb #[.int .i64 x.id, .int .i64 x.key, .int .i64 x.cost, .int .i64 x.cls, .int .i64 x.until_] 34, tIt v12 got, tBlk b #[.int .i64 rm, iv] 107, tIt iv l, tIt (.slice A11 l0.length c11) l0] wr) (fun _ _ v15 _ => 20 - (RowKit.intOf v15).toNat)
        case atStart => exact ⟨[], l0, x0, ok0, iv, hTk.out, hf0h.out, rfl, rfl, hH1.out⟩
        case round =>
          obtain ⟨got, l, x, ok, iv3, hT, hf, rfl, rfl, H⟩ := hrel
          clear hH1 hf0h hTk
          have hgl := hT.le
          have hnum := hT.num
          cases ok with
          | true =>
            obtain ⟨r, ho⟩ := firstV_some hf
            have hg20 : got.length < 20 := by omega
            have g3 : decide ((got.length : Int) < 20) = true := decide_eq_true (by omega)
            have g3b : decide (got.length < 20) = true := decide_eq_true hg20
            obtain ⟨q1, q2, hT2⟩ := hT.step ho
            have gk : (x.key != key) = false := by simp [q2]
            have K1 := Lib.hid (take_any wr b rm iv3 l x.id (H.got [2, 3]) (by omega) _ _ _ q1)
            have hl2 : (l.filter (fun y => y.id != x.id)).length ≤ 16 := Nat.le_trans (List.length_filter_le _ _) (by omega)
            obtain ⟨x2, ok2, hf2⟩ : ∃ x2 ok2, firstV (l.filter (fun y => y.id != x.id)) key = (x2, ok2) := ⟨_, _, rfl⟩
            have hcl2 := hT2.cls
            generalize l.filter (fun y => y.id != x.id) = l2 at *
            have F3 := Lib.hid (fun w iv h => first_any w b rm iv l2 key h (by omega) hcl2 x2 ok2 hf2)
            have hf2h := Lib.hid hf2
            have hT2h := Lib.hid hT2
            unfold It.v at K1 F3
            have x0 : World.cell? (wr) ⟨xb, 0, none⟩ = some _ := (H.blk 0 rfl).cell 0
            obtain ⟨A12, c12, rfl, _⟩ := formM (H.own 1 rfl)
            have hH2 := Lib.hid H
            clear H hT hf ho q1 q2 hT2 hf2 hcl2
            go_wp2_with fail
            go_at_call 14
            refine Calls.mono (K1.out) ?_
            rintro e w7 ⟨rfl, iv4, h7⟩
            have H := (hH2.out.call [2, 3] h7).keep [2, 3, 0, 1, 4]
            clear x0 hH2 K1 h7
            have x0 : World.cell? (w7) ⟨xb, 0, none⟩ = some _ := (H.blk 0 rfl).cell 0
            have x1 : World.cell? (w7) ⟨xb, 1, none⟩ = some _ := (H.blk 0 rfl).cell 1
            have x2 : World.cell? (w7) ⟨xb, 2, none⟩ = some _ := (H.blk 0 rfl).cell 2
            have x3 : World.cell? (w7) ⟨xb, 3, none⟩ = some _ := (H.blk 0 rfl).cell 3
            have x4 : World.cell? (w7) ⟨xb, 4, none⟩ = some _ := (H.blk 0 rfl).cell 4
            have T8 := (Turns.refl [] w7).alloc (.cells #[.int .i64 x.id, .int .i64 x.key, .int .i64 x.cost, .int .i64 x.cls, .int .i64 x.until_] 34)
            have y0 := T8.old x0
            have y1 := T8.old x1
            have y2 := T8.old x2
            have y3 := T8.old x3
            have y4 := T8.old x4
            replace H := H.turns T8
            replace H := H.alloc #[.int .i64 x.id, .int .i64 x.key, .int .i64 x.cost, .int .i64 x.cls, .int .i64 x.until_] 34
            rw [World.size_alloc] at H
            have hs2h := Lib.hid (oneIt (H.blk 0 rfl))
            have hH2 := Lib.hid H
            clear H T8
            go_wp2_with (at_builtin; refine stop_ ?_)
            refine Mk_.mk ?_
            refine hH2.out.append 2 rfl hs2h.out (got.length + 1) (by simp) ((got ++ [x]).map It.cells) (by rw [List.map_append]) rfl _ _ _ rfl (.agg #[.int .i64 0, .int .i64 0, .int .i64 0, .int .i64 0, .int .i64 0]) 40 Try.underlying37 infoQ rfl (by decide) rfl rfl (icells_one _) (by omega) (by omega) ?_
            clear hH2 hs2h x0 x1 x2 x3 x4 y0 y1 y2 y3 y4
            intro N c3 wn H tn _
            clear tn
            have F4 := Lib.hid (F3.out _ _ (H.got [3, 4]))
            have hH2 := Lib.hid (H.keep [1, 2, 3, 4, 5])
            clear H F3
            go_wp2_with fail
            go_at_call 13
            refine Calls.mono (F4.out) ?_
            rintro e w8 ⟨rfl, t8⟩
            have H := hH2.out.turns t8
            clear F4 t8 hH2
            have z0 : World.cell? (w8) ⟨xb, 0, none⟩ = some _ := (H.blk 0 rfl).cell 0
            have zf0 : World.frozen? (w8) ⟨xb, 0, none⟩ = false := (H.blk 0 rfl).frozen 0
            have z1 : World.cell? (w8) ⟨xb, 1, none⟩ = some _ := (H.blk 0 rfl).cell 1
            have zf1 : World.frozen? (w8) ⟨xb, 1, none⟩ = false := (H.blk 0 rfl).frozen 1
            have z2 : World.cell? (w8) ⟨xb, 2, none⟩ = some _ := (H.blk 0 rfl).cell 2
            have zf2 : World.frozen? (w8) ⟨xb, 2, none⟩ = false := (H.blk 0 rfl).frozen 2
            have z3 : World.cell? (w8) ⟨xb, 3, none⟩ = some _ := (H.blk 0 rfl).cell 3
            have zf3 : World.frozen? (w8) ⟨xb, 3, none⟩ = false := (H.blk 0 rfl).frozen 3
            have z4 : World.cell? (w8) ⟨xb, 4, none⟩ = some _ := (H.blk 0 rfl).cell 4
            have zf4 : World.frozen? (w8) ⟨xb, 4, none⟩ = false := (H.blk 0 rfl).frozen 4
            have H7 := ((((H.set 0 rfl 0 (.int .i64 x2.id)).set 0 rfl 1 (.int .i64 x2.key)).set 0 rfl 2 (.int .i64 x2.cost)).set 0 rfl 3 (.int .i64 x2.cls)).set 0 rfl 4 (.int .i64 x2.until_)
            have hH7 := Lib.hid H7
            clear H H7
            go_wp2_with fail
            go_roundw
            case rel => exact ⟨got ++ [x], l2, x2, ok2, iv4, hT2h.out, hf2h.out, by rw [List.length_append, List.length_singleton]; go_num, rfl, hH7.out⟩
            case measure => simp [RowKit.intOf]; omega
          | false =>
            have ho := firstV_none hf
            obtain ⟨d1, d2⟩ := hT.done ho
            by_cases hg20 : got.length < 20
            · have g3 : decide ((got.length : Int) < 20) = true := decide_eq_true (by omega)
              have g3b : decide (got.length < 20) = true := decide_eq_true hg20
              have A2 := Lib.hid (Qe.all_is wr b rm iv3 l (H.got [2, 3]) (by omega))
              have hw : IntKind.i64.wrap ((got.length : Int) + (l.length : Int)) = (l0.length : Int) := by rw [IntWalk.i64_in _ (by omega)]; omega
              have hlle : l.length ≤ 16 := by omega
              have d1h := Lib.hid d1
              have d2h := Lib.hid d2
              obtain ⟨A12, c12, rfl, _⟩ := formM (H.own 1 rfl)
              have hH2 := Lib.hid H
              clear H hT hf ho d1 d2 hg20
              go_wp2_with fail
              go_at_call 12
              refine Calls.mono (A2.out) ?_
              rintro e w7 ⟨v18, rfl, o18, t7, _⟩
              have H := hH2.out.turns t7
              have Rg := Lib.hid (H.own 1 rfl).reads
              have Rw := Lib.hid (H.own 4 rfl).reads
              have Rr := Lib.hid o18.reads
              have T7 := H.t
              obtain ⟨A18, c18, rfl, _⟩ := formM o18
              clear H A2 hH2 t7 o18
              go_wp2_with fail
              go_loopw [19, 20] (fun v19 v20 wr => ∃ (i : Nat), i ≤ l0.length ∧ v20 = .int .i64 i ∧ v19 = .int .i64 ((l0.take i).filter (fun y => y.key != key)).length ∧ Turns [] w7 wr) (fun _ v20 _ => l0.length - (RowKit.intOf v20).toNat)
              case atStart => exact ⟨0, by omega, rfl, rfl, Turns.refl _ _⟩
              case round =>
                obtain ⟨i, hi, rfl, rfl, T⟩ := hrel
                have hfl := List.length_filter_le (fun y => y.key != key) (l0.take i)
                rw [List.length_take] at hfl
                by_cases hlt2 : i < l0.length
                · have g4 : decide ((i : Int) < (l0.length : Int)) = true := decide_eq_true (by omega)
                  have g4b : decide (i < l0.length) = true := decide_eq_true hlt2
                  obtain ⟨y, hy⟩ : ∃ y, l0[i]? = some y := ⟨_, List.getElem?_eq_getElem hlt2⟩
                  obtain ⟨ad, c', hv, LX⟩ := icells_at Rw.out hy
                  injection hv with e1 e2 e3
                  subst e1 e3
                  have LX2 := LX.turns T
                  obtain ⟨y0, y1, y2, y3, y4⟩ := LX2
                  have hnx := filter_next (p := fun y => y.key != key) hy
                  clear LX e2
                  by_cases hk : y.key = key
                  · have g5 : (y.key == key) = true := by simpa using hk
                    have hnx2 : ((l0.take (i + 1)).filter (fun y => y.key != key)).length = ((l0.take i).filter (fun y => y.key != key)).length := by rw [hnx]; simp [hk]
                    have hnxh := Lib.hid hnx2
                    clear hnx hnx2 hk hy
                    go_wp2_with fail
                    go_roundw
                    case rel => exact ⟨i + 1, by omega, by go_num, by rw [hnxh.out], T⟩
                    case measure => simp [RowKit.intOf]; omega
                  · have g5 : (y.key == key) = false := by simpa using hk
                    have hnx2 : ((l0.take (i + 1)).filter (fun y => y.key != key)).length = ((l0.take i).filter (fun y => y.key != key)).length + 1 := by rw [hnx]; simp [hk]
                    have hat := filter_at (p := fun y => y.key != key) hy (by simpa using hk)
                    rw [← d2h.out] at hat
                    have hatl := (List.getElem?_eq_some_iff.1 hat).1
                    obtain ⟨ad2, c2', hv2, LZ⟩ := icells_at Rr.out hat
                    injection hv2 with e4 e5 e6
                    subst e4 e6
                    obtain ⟨z0, z1, z2, z3, z4⟩ := LZ.turns T
                    have hnxh := Lib.hid hnx2
                    generalize ((l0.take i).filter (fun y => y.key != key)).length = at_ at *
                    have g6 : decide ((at_ : Int) ≥ (l.length : Int)) = false := decide_eq_false (by omega)
                    have g6b : decide (l.length ≤ at_) = false := decide_eq_false (by omega)
                    clear hnx hnx2 hk hy hat LZ e5 hfl
                    go_wp2_with fail
                    go_quiet (fail)
                    have T2 := T.drewN nq
                    generalize wr.drewN nq = wq at *
                    go_wp2_with fail
                    go_roundw
                    case rel => exact ⟨i + 1, by omega, by go_num, by rw [hnxh.out]; go_num, T2⟩
                    case measure => simp [RowKit.intOf]; omega
                · obtain rfl : i = l0.length := by omega
                  have g4 : decide ((l0.length : Int) < (l0.length : Int)) = false := by simp
                  clear hfl Rr
                  rw [List.take_length]
                  go_wp2_with fail
                  have T8 := T7.trans T
                  have Rg2 := Lib.hid (Rg.out.mv (fun a u => T.old))
                  have Rw2 := Lib.hid (Rw.out.mv (fun a u => T.old))
                  clear Rg Rw T7
                  go_loopw [21] (fun v21 wq => ∃ (k : Nat), 1 ≤ k ∧ (k ≤ got.length ∨ k = 1) ∧ v21 = .int .i64 k ∧ Turns [] wr wq) (fun v21 _ => got.length - (RowKit.intOf v21).toNat)
                  case atStart => exact ⟨1, by omega, by omega, rfl, Turns.refl _ _⟩
                  case round =>
                    obtain ⟨k, hk1, hk2, rfl, T⟩ := hrel
                    by_cases hlt3 : k < got.length
                    · have g7 : decide ((k : Int) < (got.length : Int)) = true := decide_eq_true (by omega)
                      have g7b : decide (k < got.length) = true := decide_eq_true hlt3
                      obtain ⟨j, hj⟩ : ∃ j, k = j + 1 := ⟨k - 1, by omega⟩
                      have hjl : j < got.length := by omega
                      obtain ⟨a, ha⟩ : ∃ a, got[j]? = some a := ⟨_, List.getElem?_eq_getElem hjl⟩
                      obtain ⟨b2, hb2⟩ : ∃ b2, got[k]? = some b2 := ⟨_, List.getElem?_eq_getElem hlt3⟩
                      obtain ⟨n1, n2⟩ := ord_next (key := key) hown.out j (a := a) (b := b2) (by rw [← d1h.out]; exact ha) (by rw [← d1h.out, ← hj]; exact hb2)
                      obtain ⟨ad, c', hv, LX⟩ := icells_at Rg2.out ha
                      injection hv with e1 e2 e3
                      subst e1 e3
                      obtain ⟨ad2, c2', hv2, LY⟩ := icells_at Rg2.out hb2
                      injection hv2 with e4 e5 e6
                      injection e4 with e4
                      subst e4 e6
                      have LXh := Lib.hid LX
                      have LYh := Lib.hid LY
                      have w1 : IntKind.i64.wrap ((k : Int) - 1) = (j : Int) := by rw [IntWalk.i64_in _ (by omega)]; omega
                      have w2 : (k : Int) - 1 = (j : Int) := by omega
                      have w3 : IntKind.i64.wrap (j : Int) = (j : Int) := IntWalk.i64_in _ (by omega)
                      have P1 := Lib.hid (fun w v id h => lplace_is w v l0 id h (by omega))
                      have hkj := Lib.hid hj
                      clear ha hb2 LX LY e2 e5 hj
                      obtain ⟨x0, x1, x2, x3, x4⟩ := LXh.out.turns T
                      have P1c := Lib.hid (P1.out _ _ a.id (Rw2.out.mv (fun a u => T.old)))
                      clear x1 x2 x3 x4
                      go_wp2_with fail
                      go_at_call 15
                      refine Calls.mono (P1c.out) ?_
                      rintro e w8 ⟨rfl, t8⟩
                      have Ta := T.trans t8
                      have P2c := Lib.hid (P1.out _ _ b2.id (Rw2.out.mv (fun a u => Ta.old)))
                      obtain ⟨y0, y1, y2, y3, y4⟩ := LYh.out.turns Ta
                      clear x0 y1 y2 y3 y4 P1c
                      go_wp2_with fail
                      go_at_call 15
                      refine Calls.mono (P2c.out) ?_
                      rintro e w9 ⟨rfl, t9⟩
                      have Tb := Ta.trans t9
                      obtain ⟨x0, x1, x2, x3, x4⟩ := LXh.out.turns Tb
                      obtain ⟨z0, z1, z2, z3, z4⟩ := LYh.out.turns Tb
                      have g8 : decide (a.cls > b2.cls) = false := decide_eq_false (by omega)
                      clear x0 x1 x2 x4 y0 z0 z1 z2 z4 P2c P1
                      by_cases hcl : a.cls = b2.cls
                      · have g9 : (a.cls == b2.cls) = true := by simpa using hcl
                        have g10 : decide (posQ l0 a.id ≥ posQ l0 b2.id) = false := decide_eq_false (by have := n2 hcl; omega)
                        clear hcl n1 n2
                        go_wp2_with fail
                        go_quiet (fail)
                        have Tc := Tb.drewN nq
                        generalize w9.drewN nq = wq2 at *
                        go_wp2_with fail
                        go_roundw
                        case rel => exact ⟨k + 1, by omega, by omega, by go_num, Tc⟩
                        case measure => simp [RowKit.intOf]; omega
                      · have g9 : (a.cls == b2.cls) = false := by simpa using hcl
                        clear hcl n1 n2
                        go_wp2_with fail
                        go_quiet (fail)
                        have Tc := Tb.drewN nq
                        generalize w9.drewN nq = wq2 at *
                        go_wp2_with fail
                        go_roundw
                        case rel => exact ⟨k + 1, by omega, by omega, by go_num, Tc⟩
                        case measure => simp [RowKit.intOf]; omega
                    · have g7 : decide ((k : Int) < (got.length : Int)) = false := decide_eq_false (by omega)
                      have g7b : decide (k < got.length) = false := decide_eq_false hlt3
                      have T9 := T8.trans T
                      clear Rg2 Rw2 T T8 hk2
                      go_wp2_with fail
                      go_at_call 9
                      refine Calls.mono (alive_any _) ?_
                      rintro e wf ⟨rfl, tf⟩
                      have hX := hXh.out _ (T9.trans tf)
                      go_wp2_with fail
                      exact hX
            · exact absurd (show got.length < 20 by omega) hg20
open Go.ChangeShapes Go.WideShapes Ho Hn Ha in
theorem turn_opened {H : Type} (enc : TypeId × Value → H) (W : World) {base : Nat} {v0 v1 v2 : Value} {d0 d1 d2 : DataW H} {p0 p1 p2 : List MemPlace} (h0 : DataW.Trod enc Try.prog W 0 (fun _ => true) true 5 v0 d0 p0)
    (h1 : DataW.Trod enc Try.prog W 0 (fun _ => true) true 22 v1 d1 p1) (h2 : DataW.Trod enc Try.prog W 0 (fun _ => true) true 3 v2 d2 p2)
    (o0 : Value.okWide Try.prog W .any base 5 v0) (o1 : Value.okWide Try.prog W .any base 22 v1) (o2 : Value.okWide Try.prog W .any base 3 v2) :
    Calls Try.prog 3 #[v0, v1, v2] W fun e w' => e = .returned (.bool true) ∧ Below W.heap.size W w' := by
  obtain ⟨room, rfl, hw⟩ := arg_int Try.underlying5 (by kernel_rfl) h0 o0
  obtain ⟨A, c, acts, rfl, hf⟩ := Zc.acts_of (arg_slice Try.underlying22 Zc.nestAct (by kernel_rfl) h1 o1)
  obtain ⟨key, rfl, _⟩ := arg_int Try.underlying3 (by kernel_rfl) h2 o2
  exact (turn_is W room A c acts key (u8_bd hw) hf).mono fun e w' ⟨he, t⟩ => ⟨he, t.isBelow⟩
end Go.Proofs.Ytoojemdehmabhaa.Ze
