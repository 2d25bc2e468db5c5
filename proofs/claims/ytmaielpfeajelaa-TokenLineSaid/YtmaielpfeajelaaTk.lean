/- Tokens with any table: FitsToken, frame.Clone. -/
import Derived.Test.YtmaielpfeajelaaTe
import Derived.Test.YtmaielpfeajelaaHa
set_option linter.unusedVariables false
set_option linter.unusedSimpArgs false
set_option maxRecDepth 100000
namespace Go.Proofs.Ytmaielpfeajelaa.Tk
open Go.RowKit Go.MapKept Go.ChangeShapes Go.WideShapes Go.Shelf Hm Hs Hf Hg Ho Hn Ha Hv Hx Hy Sm Sat Ya Ta Tb Tc Td Te Rg Ss Re Rf
structure Rw where
  key : Int
  avail : Int
  mark : Int
  out : Value
def Rw.cells (x : Rw) : List Value := [.int .i64 x.key, .int .i64 x.avail, .int .i64 x.mark, x.out]
def lss (l : List (Int × Int)) : List (List Value) := l.map fun p => [.int .i64 p.1, .int .i64 p.2]
theorem lss_len (l : List (Int × Int)) : (lss l).length = l.length := by unfold lss; simp
theorem lss_one (l : List (Int × Int)) : ∀ r ∈ lss l, ∀ u ∈ r, u.oneCell' = true := by
  intro r hr u hu
  obtain ⟨x, _, rfl⟩ := List.mem_map.1 hr
  simp at hu
  rcases hu with rfl | rfl <;> rfl
def outOk (W : World) (x : Rw) : Prop := ∃ ls : List (Int × Int), RdS 2 W x.out (lss ls)
theorem outOk.form {W : World} {x : Rw} (h : outOk W x) : ∃ (ls : List (Int × Int)) (A : Option Addr) (c : Nat), x.out = .slice A ls.length c ∧ RdS 2 W x.out (lss ls) := by
  obtain ⟨ls, h⟩ := h
  obtain ⟨A, c, hv, _⟩ := h.form
  rw [lss_len] at hv
  exact ⟨ls, A, c, hv, h⟩
def fitsP (l : List Int) (R : List Rw) : Prop := l.length ≤ 100 ∧ R.length ≤ 100 ∧ ∀ x ∈ R, ∀ A n c, x.out = .slice A n c → n ≤ 100
theorem rcell {w : World} {v : Value} {R : List Rw} {j : Nat} {x : Rw} (h : RdS 4 w v (R.map Rw.cells)) (hj : R[j]? = some x) : ∃ ad c, v = .slice (some ad) R.length c ∧ w.cell? ⟨(ad.add (j * 4)).block, (ad.add (j * 4)).off + 3, none⟩ = some x.out := by
  obtain ⟨ad, c, hv, _, hc⟩ := h.at_ (j := j) (r := Rw.cells x) (by rw [List.getElem?_map, hj]; rfl)
  rw [List.length_map] at hv
  have h3 := hc 3 _ rfl
  rw [add_field _ _ _ (by omega)] at h3
  exact ⟨ad, c, hv, h3⟩
set_option maxHeartbeats 2000000 in
theorem fits_is (g s m : Int) (sv rv : Value) (l : List Int) (R : List Rw) (w : World) (h : RdS 1 w sv (ins l)) (hr : RdS 4 w rv (R.map Rw.cells)) (hR : ∀ x ∈ R, outOk w x) :
    Calls Try.prog 17 #[tk g s sv m rv] w fun e w' => (e = .returned (.bool true) ∧ fitsP l R ∧ Turns [] w w') ∨ (e = .returned (.bool false) ∧ Turns [] w w') := by
  have T0 := (Turns.refl [] w).alloc (.cells #[.int .i64 g, .int .i64 s, sv, .int .i64 m, rv] 38)
  have b0 := Blk.new w #[.int .i64 g, .int .i64 s, sv, .int .i64 m, rv] 38
  obtain ⟨X, hX⟩ : ∃ X : Ending → World → Prop, X = fun e w' => (e = .returned (.bool true) ∧ fitsP l R ∧ Turns [] w w') ∨ (e = .returned (.bool false) ∧ Turns [] w w') := ⟨_, rfl⟩
  rw [← hX]
  have hXt : Hid (fitsP l R → ∀ w', Turns [] w w' → X (.returned (.bool true)) w') := Lib.hid (fun h w' t => by rw [hX]; exact .inl ⟨rfl, h, t⟩)
  have hXf : Hid (∀ w', Turns [] w w' → X (.returned (.bool false)) w') := Lib.hid (fun w' t => by rw [hX]; exact .inr ⟨rfl, t⟩)
  have hrh := Lib.hid hr
  have hRh := Lib.hid hR
  obtain ⟨A, c, rfl, _⟩ := h.form
  obtain ⟨B, d, rfl, _⟩ := hr.form
  rw [ins_len] at *
  rw [List.length_map] at *
  have c2 : World.cell? (w.alloc (.cells #[.int .i64 g, .int .i64 s, .slice A l.length c, .int .i64 m, .slice B R.length d] 38)) ⟨w.heap.size, 2, none⟩ = some _ := (b0).cell 2
  have c4 : World.cell? (w.alloc (.cells #[.int .i64 g, .int .i64 s, .slice A l.length c, .int .i64 m, .slice B R.length d] 38)) ⟨w.heap.size, 4, none⟩ = some _ := (b0).cell 4
  clear hX h hr hR b0
  by_cases h1 : (l.length : Int) > 100
  · have g1 := decide_eq_true h1
    have hX := hXf.out _ T0
    clear h1
    go_enter Try.func17, Try.ntmps17
    go_wp2_with fail
    exact hX
  · have g1 : decide ((l.length : Int) > 100) = false := decide_eq_false h1
    by_cases h2 : (R.length : Int) > 100
    · have g2 := decide_eq_true h2
      have hX := hXf.out _ T0
      clear h1 h2
      go_enter Try.func17, Try.ntmps17
      go_wp2_with fail
      exact hX
    · have g2 : decide ((R.length : Int) > 100) = false := decide_eq_false h2
      have hR100 : R.length ≤ 100 := by omega
      have hl100 : l.length ≤ 100 := by omega
      clear h1 h2
      generalize hw0 : w.alloc (.cells #[.int .i64 g, .int .i64 s, .slice A l.length c, .int .i64 m, .slice B R.length d] 38) = w0 at *
      go_enter Try.func17, Try.ntmps17
      go_wp2_with fail
      try rw [hw0]
      clear hw0
      go_loopw [3] (fun v3 wr => ∃ (k : Nat), k ≤ R.length ∧ v3 = .int .i64 k ∧ wr = w0 ∧ ∀ x ∈ R.take k, ∀ A n c, x.out = .slice A n c → n ≤ 100) (fun v3 _ => R.length - (RowKit.intOf v3).toNat)
      case atStart => exact ⟨0, by omega, rfl, rfl, by simp⟩
      case round =>
        obtain ⟨k, hk, rfl, rfl, hin⟩ := hrel
        by_cases hlt : k < R.length
        · have g7 : decide ((k : Int) < (R.length : Int)) = true := decide_eq_true (by omega)
          have g7b : decide (k < R.length) = true := decide_eq_true hlt
          obtain ⟨x, hx⟩ : ∃ x, R[k]? = some x := ⟨_, List.getElem?_eq_getElem hlt⟩
          obtain ⟨ad, c', hv, Lc⟩ := rcell hrh.out hx
          injection hv with e1 e2 e3
          subst e1 e3
          have i0 := T0.old Lc
          obtain ⟨ls, A4, c4, hout, _⟩ := (hRh.out x (List.mem_of_getElem? hx)).form
          rw [hout] at i0
          clear e2 Lc
          by_cases h3 : (ls.length : Int) > 100
          · have g3 := decide_eq_true h3
            have hX := hXf.out _ T0
            clear h3 hin hx hout
            go_wp2_with fail
            exact hX
          · have g3 : decide ((ls.length : Int) > 100) = false := decide_eq_false h3
            have hin1 : ∀ z ∈ R.take (k + 1), ∀ A n c, z.out = .slice A n c → n ≤ 100 := fun z hz A n c ho => by
              rw [List.take_add_one, hx] at hz
              rcases List.mem_append.1 hz with h | h
              · exact hin z h A n c ho
              · simp at h
                subst h
                rw [hout] at ho
                injection ho with e1 e2 e3
                omega
            have hinh := Lib.hid hin1
            clear h3 hin hin1 hx hout
            go_wp2_with fail
            go_roundw
            case rel => exact ⟨k + 1, by omega, by go_num, by first | rfl | trivial, hinh.out⟩
            case measure => simp [RowKit.intOf]; omega
        · obtain rfl : k = R.length := by omega
          have g7 : decide ((R.length : Int) < (R.length : Int)) = false := by simp
          rw [List.take_length] at hin
          have hX := hXt.out ⟨hl100, hR100, hin⟩ _ T0
          clear hin
          go_wp2_with fail
          exact hX
theorem infoRow : (Try.prog.info? 75).map (fun i => (i.zero, i.size, i.bytes)) = some (some (.agg #[.int .i64 0, .int .i64 0, .int .i64 0, .slice none 0 0]), 4, 48) := by kernel_rfl
theorem infoLs : (Try.prog.info? 100).map (fun i => (i.zero, i.size, i.bytes)) = some (some (.agg #[.int .i64 0, .int .i64 0]), 2, 16) := by kernel_rfl
set_option maxHeartbeats 1000000 in
theorem cloneLs_is (w : World) (v : Value) (l : List (Int × Int)) (h : RdS 2 w v (lss l)) (hn : l.length ≤ 100000) : Calls Try.prog 61 #[v] w fun e w' => ∃ A n c, e = .returned (.slice A n c) ∧ Turns [] w w' := by
  obtain ⟨A, c, rfl, hc, hcm⟩ := h.form
  rw [lss_len] at hc ⊢
  have hh := Lib.hid h
  have q37 : ∀ (w : World) (a : Option Addr) (n c n' c' : Nat), (binOp .eql 73 (.slice a n c) (.slice none n' c')).run Try.prog w = .ok (.bool a.isNone) w := fun w a n c n' c' => Lib.run_eql_slice_nil w _ _ a n c n' c' Try.underlying73
  clear h
  cases A with
  | none =>
    clear hh
    go_enter Try.func61, Try.ntmps61
    go_wp2_with fail
    go_ret
    exact ⟨_, _, _, rfl, Turns.refl _ _⟩
  | some ad =>
    have H := (Sep.start w).newSlice ((Turns.refl [] w).alloc (.cells #[] 100)) (own_nil_lit w 100 2) (by simp [Value.ownBlock])
    have hs0 := hh.out.mv (w' := w.alloc (.cells #[] 100)) (fun a u => ((Turns.refl [] w).alloc (.cells #[] 100)).old)
    rw [lss_len] at hs0
    have hs1 := Lib.hid hs0
    clear hs0
    go_enter Try.func61, Try.ntmps61
    go_wp2_with (at_builtin; refine stop_ ?_)
    refine Mk_.mk ?_
    refine H.append 0 rfl hs1.out l.length (by simp [lss_len]) (lss l) (by simp) rfl _ _ _ rfl (.agg #[.int .i64 0, .int .i64 0]) 16 Try.underlying73 infoLs rfl (by decide) rfl rfl (lss_one _) (by omega) (by omega) ?_
    clear H hs1
    intro A1 c1 w3 H t3 _
    have T := H.t
    clear H t3
    go_wp2_with fail
    go_ret
    exact ⟨_, _, _, rfl, T⟩
theorem rows_one {R : List Rw} {w : World} (h : ∀ x ∈ R, outOk w x) : ∀ r ∈ R.map Rw.cells, ∀ u ∈ r, u.oneCell' = true := by
  intro r hr u hu
  obtain ⟨x, hx, rfl⟩ := List.mem_map.1 hr
  obtain ⟨ls, A, c, ho, _⟩ := (h x hx).form
  unfold Rw.cells at hu
  rw [ho] at hu
  simp at hu
  rcases hu with rfl | rfl | rfl | rfl <;> rfl
set_option maxHeartbeats 1000000 in
theorem cloneRow_is (w : World) (v : Value) (R : List Rw) (h : RdS 4 w v (R.map Rw.cells)) (hn : R.length ≤ 100000) (ho : ∀ r ∈ R.map Rw.cells, ∀ u ∈ r, u.oneCell' = true) : Calls Try.prog 60 #[v] w fun e w' => ∃ u, e = .returned u ∧ OwnS 75 4 w' u (R.map Rw.cells) ∧ Turns [] w w' ∧ (∀ k, u.ownBlock = some k → w.heap.size ≤ k) := by
  obtain ⟨A, c, rfl, hc, hcm⟩ := h.form
  rw [List.length_map] at hc ⊢
  have hh := Lib.hid h
  have hoh := Lib.hid ho
  have q37 : ∀ (w : World) (a : Option Addr) (n c n' c' : Nat), (binOp .eql 34 (.slice a n c) (.slice none n' c')).run Try.prog w = .ok (.bool a.isNone) w := fun w a n c n' c' => Lib.run_eql_slice_nil w _ _ a n c n' c' Try.underlying34
  clear h ho
  cases A with
  | none =>
    obtain ⟨A2, c2, hv2, _, _, hnil, _⟩ := hh.out
    injection hv2 with e1 e2 e3
    subst e1
    have hc0 : c = 0 := by rw [e3]; exact hnil rfl
    subst hc0
    obtain rfl : R = [] := List.eq_nil_of_length_eq_zero (by omega)
    clear hh hnil e2 e3 hoh
    go_enter Try.func60, Try.ntmps60
    go_wp2_with fail
    go_ret
    exact ⟨_, rfl, OwnS.nil _ _ _, Turns.refl _ _, by simp [Value.ownBlock]⟩
  | some ad =>
    have H := (Sep.start w).newSlice ((Turns.refl [] w).alloc (.cells #[] 75)) (own_nil_lit w 75 4) (by simp [Value.ownBlock])
    have hs0 := hh.out.mv (w' := w.alloc (.cells #[] 75)) (fun a u => ((Turns.refl [] w).alloc (.cells #[] 75)).old)
    rw [List.length_map] at hs0
    have hs1 := Lib.hid hs0
    clear hs0
    go_enter Try.func60, Try.ntmps60
    go_wp2_with (at_builtin; refine stop_ ?_)
    refine Mk_.mk ?_
    refine H.append 0 rfl hs1.out R.length (by simp) (R.map Rw.cells) (by simp) rfl _ _ _ rfl (.agg #[.int .i64 0, .int .i64 0, .int .i64 0, .slice none 0 0]) 48 Try.underlying34 infoRow rfl (by decide) rfl rfl hoh.out (by omega) (by omega) ?_
    clear H hs1
    intro A1 c1 w3 H t3 _
    have O := H.own 0 rfl
    have T := H.t
    have Mi := mine_own H 0 rfl
    clear H t3
    go_wp2_with fail
    go_ret
    exact ⟨_, rfl, O, T, fun q hq => by simpa using Mi q hq⟩
set_option maxHeartbeats 4000000 in
theorem clone_is (g s m : Int) (sv rv : Value) (l : List Int) (R : List Rw) (w : World) (h : RdS 1 w sv (ins l)) (hr : RdS 4 w rv (R.map Rw.cells)) (hR : ∀ x ∈ R, outOk w x) (hf : fitsP l R) :
    Calls Try.prog 38 #[tk g s sv m rv] w fun e w' => ∃ A' n' c' B' k' d', e = .returned (tk g s (.slice A' n' c') m (.slice B' k' d')) ∧ Turns [] w w' := by
  have H := ((Sep.start w).alloc #[.int .i64 g, .int .i64 s, sv, .int .i64 m, rv] 38).alloc #[.int .i64 0, .int .i64 0, .slice none 0 0, .int .i64 0, .slice none 0 0] 38
  have hrd := h.mv (fun a u => H.t.old)
  rw [World.size_alloc] at H
  have C1 := Lib.hid (cloneI_is _ sv l hrd (by have := hf.1; omega))
  have C2 := Lib.hid (fun W (t : Turns [] w W) => cloneRow_is W rv R (hr.mv (fun a u => t.old)) (by have := hf.2.1; omega) (rows_one hR))
  have hRh := Lib.hid hR
  have hfh := Lib.hid hf
  have hrl := hf.2.1
  obtain ⟨A, c, rfl, _⟩ := h.form
  obtain ⟨B, d, rfl, _⟩ := hr.form
  rw [ins_len] at *
  rw [List.length_map] at *
  have c2 : World.cell? ((w.alloc (.cells #[.int .i64 g, .int .i64 s, .slice A l.length c, .int .i64 m, .slice B R.length d] 38)).alloc (.cells #[.int .i64 0, .int .i64 0, .slice none 0 0, .int .i64 0, .slice none 0 0] 38)) ⟨w.heap.size, 2, none⟩ = some _ := (H.blk 1 rfl).cell 2
  have hHh := Lib.hid H
  clear h hrd H hr hR hf
  go_enter Try.func38, Try.ntmps38
  go_wp2_with fail
  go_at_call 57
  refine Calls.mono (C1.out) ?_
  rintro e w1 ⟨u, rfl, o, t1, hbu⟩
  have H := hHh.out.newSlice t1 o hbu
  obtain ⟨A2, c', rfl, _⟩ := formI o
  have hB := H.blk 2 rfl
  have d2 : World.cell? (w1) ⟨w.heap.size, 2, none⟩ = some _ := (hB).cell 2
  have df2 : World.frozen? (w1) ⟨w.heap.size, 2, none⟩ = false := (hB).frozen 2
  have d4 : World.cell? (w1) ⟨w.heap.size, 4, none⟩ = some _ := (hB).cell 4
  have H2 := Lib.hid (H.set 2 rfl 2 (.slice A2 l.length c'))
  clear hHh H o t1 hbu c2 hB C1
  go_wp2_with fail
  go_at_call 60
  refine Calls.mono (C2.out _ H2.out.t) ?_
  rintro e w2 ⟨u, rfl, o, t2, hb2⟩
  have H := H2.out.newSlice t2 o hb2
  obtain ⟨B2, d', rfl, _⟩ := formM o
  have Hh := Lib.hid H
  clear d2 df2 d4 H2 t2 o hb2 H C2
  go_wp2_with fail
  go_loopw [15] (fun v15 wr => ∃ (k : Nat) (C : List (List Value)), k ≤ R.length ∧ v15 = .int .i64 k ∧ C.length = R.length ∧ (∀ j, k ≤ j → C[j]? = (R.map Rw.cells)[j]?) ∧ Sep [] w [tOwn 75 4 (.slice B2 R.length d') C, tOwn 3 1 (.slice A2 l.length c') (ins l), tBlk (w.heap.size + 1) #[.int .i64 0, .int .i64 0, .slice none 0 0, .int .i64 0, .slice none 0 0] 38, tBlk w.heap.size #[.int .i64 g, .int .i64 s, .slice A2 l.length c', .int .i64 m, .slice B R.length d] 38] wr) (fun v15 _ => R.length - (RowKit.intOf v15).toNat)
  case atStart => exact ⟨0, R.map Rw.cells, by omega, rfl, by simp, fun _ _ => rfl, Hh.out⟩
  case round =>
    clear Hh
    obtain ⟨k, C, hk, rfl, hCl, hCj, H⟩ := hrel
    by_cases hlt : k < R.length
    · have g7 : decide ((k : Int) < (R.length : Int)) = true := decide_eq_true (by omega)
      have g7b : decide (k < R.length) = true := decide_eq_true hlt
      obtain ⟨x, hx⟩ : ∃ x, R[k]? = some x := ⟨_, List.getElem?_eq_getElem hlt⟩
      have hCx : C[k]? = some (Rw.cells x) := by rw [hCj k (Nat.le_refl _), List.getElem?_map, hx]; rfl
      obtain ⟨ls, A4, c4, hout, hrd⟩ := (hRh.out x (List.mem_of_getElem? hx)).form
      have hls : ls.length ≤ 100 := hfh.out.2.2 x (List.mem_of_getElem? hx) _ _ _ hout
      have L1 := cloneLs_is wr x.out ls (hrd.mv (fun a u => H.t.old)) (by omega)
      rw [hout] at L1
      have L1h := Lib.hid L1
      obtain ⟨ad, c3, hv2, hcl, _⟩ := Hy.Sep.setAt H 0 rfl hCx
      injection hv2 with e4 e5 e6
      subst e4 e6
      have i3 := hcl 3 _ rfl
      rw [add_field _ _ _ (by omega), hout] at i3
      have hHh := Lib.hid H
      have hCxh := Lib.hid hCx
      have hCjh := Lib.hid hCj
      have hClh := Lib.hid hCl
      clear hx hCx hout hrd L1 hcl e5 H hCj hCl
      go_wp2_with fail
      go_at_call 61
      refine Calls.mono (L1h.out) ?_
      rintro e w4 ⟨A5, n5, c5, rfl, t4⟩
      have H4 := hHh.out.turns t4
      clear i3
      obtain ⟨ad2, c6, hv3, hcl, hst⟩ := Hy.Sep.setAt H4 0 rfl hCxh.out
      injection hv3 with e7 e8 e9
      injection e7 with e7
      subst e7
      have z0 := hcl 3 _ rfl
      rw [add_field _ _ _ (by omega)] at z0
      obtain ⟨f0, hs2⟩ := hst 3 (by omega) ⟨(ad.add (k * 4)).block, (ad.add (k * 4)).off + 3, none⟩ (add_field _ _ _ (by omega)).symm
      have H5 := Lib.hid (hs2 (.slice A5 n5 c5))
      have hC2 : Hid ((C.set k ((Rw.cells x).set 3 (.slice A5 n5 c5))).length = R.length) := Lib.hid (by rw [List.length_set]; exact hClh.out)
      have hC3 : Hid (∀ j, k + 1 ≤ j → (C.set k ((Rw.cells x).set 3 (.slice A5 n5 c5)))[j]? = (R.map Rw.cells)[j]?) := Lib.hid (fun j hj => by rw [List.getElem?_set_ne (by omega)]; exact hCjh.out j (by omega))
      clear H4 hcl hst hs2 e8 e9 t4 hHh L1h
      go_wp2_with fail
      go_roundw
      case rel => exact ⟨k + 1, _, by omega, by go_num, hC2.out, hC3.out, H5.out⟩
      case measure => simp [RowKit.intOf]; omega
    · obtain rfl : k = R.length := by omega
      have g7 : decide ((R.length : Int) < (R.length : Int)) = false := by simp
      have hB := H.blk 3 rfl
      have hZ := H.blk 2 rfl
      have d0 : World.cell? (wr) ⟨w.heap.size, 0, none⟩ = some _ := (hB).cell 0
      have d1 : World.cell? (wr) ⟨w.heap.size, 1, none⟩ = some _ := (hB).cell 1
      have d2 : World.cell? (wr) ⟨w.heap.size, 2, none⟩ = some _ := (hB).cell 2
      have d3 : World.cell? (wr) ⟨w.heap.size, 3, none⟩ = some _ := (hB).cell 3
      have d4 : World.cell? (wr) ⟨w.heap.size, 4, none⟩ = some _ := (hB).cell 4
      have df4 : World.frozen? (wr) ⟨w.heap.size, 4, none⟩ = false := (hB).frozen 4
      have z0 : World.cell? (wr) ⟨w.heap.size + 1, 0, none⟩ = some _ := (hZ).cell 0
      have zf0 : World.frozen? (wr) ⟨w.heap.size + 1, 0, none⟩ = false := (hZ).frozen 0
      have z1 : World.cell? (wr) ⟨w.heap.size + 1, 1, none⟩ = some _ := (hZ).cell 1
      have zf1 : World.frozen? (wr) ⟨w.heap.size + 1, 1, none⟩ = false := (hZ).frozen 1
      have z2 : World.cell? (wr) ⟨w.heap.size + 1, 2, none⟩ = some _ := (hZ).cell 2
      have zf2 : World.frozen? (wr) ⟨w.heap.size + 1, 2, none⟩ = false := (hZ).frozen 2
      have z3 : World.cell? (wr) ⟨w.heap.size + 1, 3, none⟩ = some _ := (hZ).cell 3
      have zf3 : World.frozen? (wr) ⟨w.heap.size + 1, 3, none⟩ = false := (hZ).frozen 3
      have z4 : World.cell? (wr) ⟨w.heap.size + 1, 4, none⟩ = some _ := (hZ).cell 4
      have zf4 : World.frozen? (wr) ⟨w.heap.size + 1, 4, none⟩ = false := (hZ).frozen 4
      have H5 := ((((((H.set 3 rfl 4 (.slice B2 R.length d')).set 2 rfl 0 (.int .i64 g)).set 2 rfl 1 (.int .i64 s)).set 2 rfl 2 (.slice A2 l.length c')).set 2 rfl 3 (.int .i64 m)).set 2 rfl 4 (.slice B2 R.length d'))
      have hR5 := H5.blk 2 rfl
      have T := H5.t
      clear H5 H hB hZ hCj hCl
      go_wp2_with fail
      refine bodyPost_ret (res_one rfl (.cell (w.heap.size + 1) _ _ _ rfl hR5 Try.underlying38 rfl (by kernel_rfl) .nil)) rfl ?_
      exact ⟨_, _, _, _, _, _, rfl, T⟩
end Go.Proofs.Ytmaielpfeajelaa.Tk
