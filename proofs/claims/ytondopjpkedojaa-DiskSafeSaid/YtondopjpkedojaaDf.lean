/- The law DiskSafe. -/
import Derived.Test.YtondopjpkedojaaDp
set_option linter.unusedVariables false
set_option linter.unusedSimpArgs false
set_option maxRecDepth 100000
namespace Go.Proofs.Ytondopjpkedojaa.Df
open Go.RowKit Go.MapKept Hm Hs Hr Hb Hf Dk Dr D6 Hn Ho Ha Dp Go.ChangeShapes Go.WideShapes
set_option maxHeartbeats 2000000 in
theorem safe_law (w : World) (keep : Int) (A : Option Addr) (c : Nat) (acts : List Ac) (hl : FlatRow w A 3 (acts.map Ac.cells)) (hb : ∀ a ∈ acts, RdS 1 w a.v (bys a.bs)) (hk : ∀ a ∈ acts, 0 ≤ a.kind ∧ a.kind ≤ 255) :
    Calls Try.prog 9 #[.slice A acts.length c, .int .i64 keep] w fun e w' => e = .returned (.bool true) ∧ Turns [] w w' := by
  go_enter Try.func9, Try.ntmps9
  go_wp2_with fail
  go_at_call 44
  refine (fits_is w A c acts hl hb).mono ?_
  rintro e w1 ⟨hf, t1⟩
  rcases hf with rfl | ⟨rfl, h60, h3000⟩
  · go_wp2_with fail
    go_at_call 45
    refine (alive_any _).mono ?_
    rintro e w2 ⟨rfl, t2⟩
    go_wp2_with fail
    go_ret
    exact ⟨rfl, t1.trans t2⟩
  · go_wp2_with fail
    go_at_call 46
    refine (new_ok 2500 _ (by decide)).mono ?_
    rintro e w2 ⟨b, rfl, h2, hb2, t2⟩
    have T := t1.trans t2
    have hs1 := t1.size
    have hs2 := T.size
    clear t1 t2
    have hR : IsR (w2.alloc (.cells #[.int .i64 2500, .slice none 0 0, .slice none 0 0] 67)) w2.heap.size (.slice none 0 0) (.slice none 0 0) [] [] 2500 := ⟨Blk.new _ _ _, OwnS.nil _ _ _, OwnS.nil _ _ _⟩
    have TA := (Turns.refl [] w2).alloc (.cells #[.int .i64 2500, .slice none 0 0, .slice none 0 0] 67)
    have hblt := h2.blk.lt
    have hP : Pair w.heap.size (w2.alloc (.cells #[.int .i64 2500, .slice none 0 0, .slice none 0 0] 67)) b w2.heap.size 2500 :=
      ⟨_, _, _, [], [], h2.turns TA (by simp), hR, ⟨fun k hk => by simp [foot, rfoot, Value.ownBlock] at hk ⊢; omega, fun k hk => by simp [rfoot, Value.ownBlock] at hk ⊢; omega⟩, by simp, by simp; omega⟩
    have T10 := T.trans TA
    go_wp2_with fail
    generalize w2.heap.size = b' at *
    generalize w2.alloc (.cells #[.int .i64 2500, .slice none 0 0, .slice none 0 0] 67) = w10 at *
    clear hR TA T h2
    go_loopw [9] (fun v9 wr => ∃ (k : Nat), k ≤ acts.length ∧ v9 = .int .i64 k ∧ Pair w.heap.size wr b b' 2500 ∧ Turns [] w wr) (fun v9 _ => acts.length - (intOf v9).toNat)
    case atStart => exact ⟨0, Nat.zero_le _, rfl, hP, T10⟩
    case round =>
      obtain ⟨k, hk1, rfl, hPr, Tr⟩ := hrel
      clear hP T10
      by_cases hlt : k < acts.length
      · have g1 : decide ((k : Int) < (acts.length : Int)) = true := by simp; omega
        obtain ⟨a, ha⟩ : ∃ a, acts[k]? = some a := ⟨_, List.getElem?_eq_getElem hlt⟩
        have hm := List.mem_of_getElem? ha
        obtain ⟨ad, rfl, _, hc⟩ := hl.at_ (j := k) (c := a.cells) (by rw [List.getElem?_map, ha]; rfl)
        have i0 := Tr.old (hc 0 _ rfl)
        have i1 := Tr.old (hc 1 _ rfl)
        have i2 := Tr.old (hc 2 _ rfl)
        rw [Nat.add_zero] at i0
        rw [add_field _ _ _ (by omega)] at i1 i2
        go_wp2_with fail
        go_at_call 54
        refine (step_is w.heap.size _ b b' 2500 a hPr (by decide) (fun w' F T hF => (hb a hm).mv (fun p u hu => (up Tr T hF).old hu)) (h3000 a hm) (hk a hm)).mono ?_
        rintro e w11 ⟨rfl, hP11, F, T11, hF⟩
        have T12 := up Tr T11 hF
        go_wp2_with fail
        go_roundw
        case rel => exact ⟨k + 1, by omega, by go_num, hP11, T12⟩
        case measure => simp [intOf]; omega
      · obtain rfl : k = acts.length := by omega
        have g1 : decide ((acts.length : Int) < (acts.length : Int)) = false := by simp
        obtain ⟨fv, sv, lv, safe, loose, HD, HR, HP, HL, HN⟩ := hPr
        have hge := fun k hk => (HP.a k hk).1
        clear HR HP hb hk hl hs1 hs2 hblt
        obtain ⟨file, hfile⟩ : ∃ file, file = safe ++ loose := ⟨_, rfl⟩
        have hfl : file.length = safe.length + loose.length := by rw [hfile, List.length_append]
        rw [← hfile] at HD HL
        have hl6 : file.length ≤ 16777216 := by omega
        obtain ⟨m, hm⟩ : ∃ m : Nat, (safe.length : Int) + min (max keep 0) ((file.length : Int) - safe.length) = m := ⟨((safe.length : Int) + min (max keep 0) ((file.length : Int) - safe.length)).toNat, by omega⟩
        have hml : m ≤ file.length := by omega
        have hms : safe.length ≤ m := by omega
        have hsl : safe.length ≤ file.length := by omega
        have hlt := HD.lt
        clear hfile hfl
        generalize hsn : safe.length = sn at *
        clear hsn
        go_wp2_with fail
        go_at_call 53
        refine (file_is _ b _ _ _ _ HD hl6).mono ?_
        rintro e w3 ⟨v3, rfl, o3, t3, n3⟩
        have h3 := HD.turns t3 (by simp)
        go_wp2_with fail
        go_at_call 52
        refine (safe_is _ b _ _ _ _ h3).mono ?_
        rintro e w4 ⟨rfl, t4⟩
        have h4 := h3.turns t4 (by simp)
        have o4 := o3.turns t4 (by simp)
        go_wp2_with fail
        go_at_call 51
        refine (crash_is _ b _ file sn 2500 keep m h4 hl6 hsl hm).mono ?_
        rintro e w5 ⟨rfl, fv5, h5, t5, m5⟩
        have o5 := o4.turns t5 (fun k hk hk2 => by have h6 := n3 k hk; have h7 := hlt k hk2; omega)
        have hl7 : (file.take m).length ≤ 16777216 := by rw [List.length_take]; omega
        go_wp2_with fail
        go_at_call 53
        refine (file_is _ b _ _ _ _ h5 hl7).mono ?_
        rintro e w6 ⟨v6, rfl, o6, t6, n6⟩
        have h6 := h5.turns t6 (by simp)
        have o7 := o5.turns t6 (by simp)
        have T6 := (up (((Tr.trans t3).trans t4)) t5 hge).trans t6
        clear o3 o4 o5 h3 h4 h5 t3 t4 t5 t6 n3 n6 m5 HD HN hge hlt Tr
        obtain ⟨A3, c3, hv3, hc3, hc3m, _⟩ := o7.form
        obtain ⟨A6, c6, hv6, _⟩ := o6.form
        simp only [bys_len] at hc3
        have htl : (file.take m).length = m := by rw [List.length_take]; omega
        simp only [bys_len, htl] at hv3 hv6
        subst hv3 hv6
        have q1 : decide ((sn : Int) > (file.length : Int)) = false := by simp; omega
        have q2 : decide ((m : Int) < (sn : Int)) = false := by simp; omega
        have q3 : ((file.length : Int) != (file.length : Int)) = false := by simp
        have hsum : IntKind.i64.wrap ((m : Int) + ((file.length : Int) - (m : Int))) = (file.length : Int) := by rw [IntWalk.i64_in _ (by omega)]; omega
        have hsum2 : (m : Int) + ((file.length : Int) - (m : Int)) = (file.length : Int) := by omega
        have hsum3 : IntKind.i64.wrap (file.length : Int) = (file.length : Int) := IntWalk.i64_in _ (by omega)
        have q6 : (m ≤ c3) = True := eq_true (by omega)
        have q4 : decide ((m : Int) ≤ (c3 : Int)) = true := by simp; omega
        have hW := fun (W : World) (v : Value) (l : List Int) (h : RdS 1 W v (bys l)) => RdS.str (P := Try.prog) (dst := 9) h Try.underlying63 Try.underlying5 Try.underlying9
        have cR : ∀ W, OwnS 5 1 W (.slice A3 file.length c3) (bys file) → RdS 1 W (.slice A3 m c3) (bys (file.take m)) := fun W h => by
          have := RdS.take h.reads (k := m) (by rw [bys_len]; exact hml)
          rw [bys_take] at this; exact this
        go_wp2_with fail
        refine wp_region_flo [(0, true), (1, true), (2, true), (3, true), (4, true), (5, true), (6, true), (7, true), (8, true), (9, true), (10, true), (11, true), (12, true), (13, true), (14, true), (15, true), (16, true), (17, true), (18, true), (19, true), (20, true), (21, true), (22, true), (23, true), (24, true), (25, true), (26, true), (27, true), (28, true), (29, true), (30, true), (32, true), (33, true), (31, false), (34, true), (35, true)] (fun W => OwnS 5 1 W (.slice A3 file.length c3) (bys file) ∧ OwnS 5 1 W (.slice A6 m c6) (bys (file.take m))) (by kernel_rfl) rfl (by kernel_rfl) (by intro c d v a w h; cases d <;> first | (simpa [Exit.then, Exit.inBlock, Act.put] using h) | exact h) (⟨o7, o6⟩) ?_
        have td : Turns [] w6 w6.drew := (Turns.refl _ _).drew
        have h7 := h6.turns td (by simp)
        have T7 := T6.trans td
        have o8 := o7.turns td (by simp)
        have o9 := o6.turns td (by simp)
        clear o6 o7 h6 T6 td
        generalize w6.drew = w7 at *
        have cw1 := hW _ _ _ o9.reads
        have cw2 := hW _ _ _ (cR _ o8)
        refine flo_read _ rfl (fun K hK => ?_)
        go_simp
        first | (refine hK _ ?_) | (refine ⟨fun W hS => ?_, hK _ ?_⟩; · (intro hS2; have cvW := hW _ _ _ hS2.reads; have cvX := hW _ _ _ (cR _ hS); (first | (rw [cvW]; rfl) | (rw [cvX]; rfl) | skip); try go_simp))
        clear hK K
        refine flo_read _ rfl (fun K hK => ?_)
        go_simp
        first | (refine hK _ ?_) | (refine ⟨fun W hS => ?_, hK _ ?_⟩; · (intro hS2; have cvW := hW _ _ _ hS2.reads; have cvX := hW _ _ _ (cR _ hS); (first | (rw [cvW]; rfl) | (rw [cvX]; rfl) | skip); try go_simp))
        clear hK K
        refine flo_read _ rfl (fun K hK => ?_)
        go_simp
        first | (refine hK _ ?_) | (refine ⟨fun W hS => ?_, hK _ ?_⟩; · (intro hS2; have cvW := hW _ _ _ hS2.reads; have cvX := hW _ _ _ (cR _ hS); (first | (rw [cvW]; rfl) | (rw [cvX]; rfl) | skip); try go_simp))
        clear hK K
        refine flo_read _ rfl (fun K hK => ?_)
        go_simp
        first | (refine hK _ ?_) | (refine ⟨fun W hS => ?_, hK _ ?_⟩; · (intro hS2; have cvW := hW _ _ _ hS2.reads; have cvX := hW _ _ _ (cR _ hS); (first | (rw [cvW]; rfl) | (rw [cvX]; rfl) | skip); try go_simp))
        clear hK K
        refine flo_read _ rfl (fun K hK => ?_)
        go_simp
        first | (refine hK _ ?_) | (refine ⟨fun W hS => ?_, hK _ ?_⟩; · (intro hS2; have cvW := hW _ _ _ hS2.reads; have cvX := hW _ _ _ (cR _ hS); (first | (rw [cvW]; rfl) | (rw [cvX]; rfl) | skip); try go_simp))
        clear hK K
        refine flo_read _ rfl (fun K hK => ?_)
        go_simp
        first | (refine hK _ ?_) | (refine ⟨fun W hS => ?_, hK _ ?_⟩; · (intro hS2; have cvW := hW _ _ _ hS2.reads; have cvX := hW _ _ _ (cR _ hS); (first | (rw [cvW]; rfl) | (rw [cvX]; rfl) | skip); try go_simp))
        clear hK K
        refine flo_read _ rfl (fun K hK => ?_)
        go_simp
        first | (refine hK _ ?_) | (refine ⟨fun W hS => ?_, hK _ ?_⟩; · (intro hS2; have cvW := hW _ _ _ hS2.reads; have cvX := hW _ _ _ (cR _ hS); (first | (rw [cvW]; rfl) | (rw [cvX]; rfl) | skip); try go_simp))
        clear hK K
        refine flo_read _ rfl (fun K hK => ?_)
        go_simp
        first | (refine hK _ ?_) | (refine ⟨fun W hS => ?_, hK _ ?_⟩; · (intro hS2; have cvW := hW _ _ _ hS2.reads; have cvX := hW _ _ _ (cR _ hS); (first | (rw [cvW]; rfl) | (rw [cvX]; rfl) | skip); try go_simp))
        clear hK K
        refine flo_read _ rfl (fun K hK => ?_)
        go_simp
        first | (refine hK _ ?_) | (refine ⟨fun W hS => ?_, hK _ ?_⟩; · (intro hS2; have cvW := hW _ _ _ hS2.reads; have cvX := hW _ _ _ (cR _ hS); (first | (rw [cvW]; rfl) | (rw [cvX]; rfl) | skip); try go_simp))
        clear hK K
        refine flo_read _ rfl (fun K hK => ?_)
        go_simp
        first | (refine hK _ ?_) | (refine ⟨fun W hS => ?_, hK _ ?_⟩; · (intro hS2; have cvW := hW _ _ _ hS2.reads; have cvX := hW _ _ _ (cR _ hS); (first | (rw [cvW]; rfl) | (rw [cvX]; rfl) | skip); try go_simp))
        clear hK K
        refine flo_read _ rfl (fun K hK => ?_)
        go_simp
        first | (refine hK _ ?_) | (refine ⟨fun W hS => ?_, hK _ ?_⟩; · (intro hS2; have cvW := hW _ _ _ hS2.reads; have cvX := hW _ _ _ (cR _ hS); (first | (rw [cvW]; rfl) | (rw [cvX]; rfl) | skip); try go_simp))
        clear hK K
        refine flo_read _ rfl (fun K hK => ?_)
        go_simp
        first | (refine hK _ ?_) | (refine ⟨fun W hS => ?_, hK _ ?_⟩; · (intro hS2; have cvW := hW _ _ _ hS2.reads; have cvX := hW _ _ _ (cR _ hS); (first | (rw [cvW]; rfl) | (rw [cvX]; rfl) | skip); try go_simp))
        clear hK K
        refine flo_read _ rfl (fun K hK => ?_)
        go_simp
        first | (refine hK _ ?_) | (refine ⟨fun W hS => ?_, hK _ ?_⟩; · (intro hS2; have cvW := hW _ _ _ hS2.reads; have cvX := hW _ _ _ (cR _ hS); (first | (rw [cvW]; rfl) | (rw [cvX]; rfl) | skip); try go_simp))
        clear hK K
        refine flo_read _ rfl (fun K hK => ?_)
        go_simp
        first | (refine hK _ ?_) | (refine ⟨fun W hS => ?_, hK _ ?_⟩; · (intro hS2; have cvW := hW _ _ _ hS2.reads; have cvX := hW _ _ _ (cR _ hS); (first | (rw [cvW]; rfl) | (rw [cvX]; rfl) | skip); try go_simp))
        clear hK K
        refine flo_read _ rfl (fun K hK => ?_)
        go_simp
        first | (refine hK _ ?_) | (refine ⟨fun W hS => ?_, hK _ ?_⟩; · (intro hS2; have cvW := hW _ _ _ hS2.reads; have cvX := hW _ _ _ (cR _ hS); (first | (rw [cvW]; rfl) | (rw [cvX]; rfl) | skip); try go_simp))
        clear hK K
        refine flo_read _ rfl (fun K hK => ?_)
        go_simp
        first | (refine hK _ ?_) | (refine ⟨fun W hS => ?_, hK _ ?_⟩; · (intro hS2; have cvW := hW _ _ _ hS2.reads; have cvX := hW _ _ _ (cR _ hS); (first | (rw [cvW]; rfl) | (rw [cvX]; rfl) | skip); try go_simp))
        clear hK K
        refine flo_read _ rfl (fun K hK => ?_)
        go_simp
        first | (refine hK _ ?_) | (refine ⟨fun W hS => ?_, hK _ ?_⟩; · (intro hS2; have cvW := hW _ _ _ hS2.reads; have cvX := hW _ _ _ (cR _ hS); (first | (rw [cvW]; rfl) | (rw [cvX]; rfl) | skip); try go_simp))
        clear hK K
        refine flo_read _ rfl (fun K hK => ?_)
        go_simp
        first | (refine hK _ ?_) | (refine ⟨fun W hS => ?_, hK _ ?_⟩; · (intro hS2; have cvW := hW _ _ _ hS2.reads; have cvX := hW _ _ _ (cR _ hS); (first | (rw [cvW]; rfl) | (rw [cvX]; rfl) | skip); try go_simp))
        clear hK K
        refine flo_read _ rfl (fun K hK => ?_)
        go_simp
        first | (refine hK _ ?_) | (refine ⟨fun W hS => ?_, hK _ ?_⟩; · (intro hS2; have cvW := hW _ _ _ hS2.reads; have cvX := hW _ _ _ (cR _ hS); (first | (rw [cvW]; rfl) | (rw [cvX]; rfl) | skip); try go_simp))
        clear hK K
        refine flo_read _ rfl (fun K hK => ?_)
        go_simp
        first | (refine hK _ ?_) | (refine ⟨fun W hS => ?_, hK _ ?_⟩; · (intro hS2; have cvW := hW _ _ _ hS2.reads; have cvX := hW _ _ _ (cR _ hS); (first | (rw [cvW]; rfl) | (rw [cvX]; rfl) | skip); try go_simp))
        clear hK K
        refine flo_read _ rfl (fun K hK => ?_)
        go_simp
        first | (refine hK _ ?_) | (refine ⟨fun W hS => ?_, hK _ ?_⟩; · (intro hS2; have cvW := hW _ _ _ hS2.reads; have cvX := hW _ _ _ (cR _ hS); (first | (rw [cvW]; rfl) | (rw [cvX]; rfl) | skip); try go_simp))
        clear hK K
        refine flo_read _ rfl (fun K hK => ?_)
        go_simp
        first | (refine hK _ ?_) | (refine ⟨fun W hS => ?_, hK _ ?_⟩; · (intro hS2; have cvW := hW _ _ _ hS2.reads; have cvX := hW _ _ _ (cR _ hS); (first | (rw [cvW]; rfl) | (rw [cvX]; rfl) | skip); try go_simp))
        clear hK K
        refine flo_read _ rfl (fun K hK => ?_)
        go_simp
        first | (refine hK _ ?_) | (refine ⟨fun W hS => ?_, hK _ ?_⟩; · (intro hS2; have cvW := hW _ _ _ hS2.reads; have cvX := hW _ _ _ (cR _ hS); (first | (rw [cvW]; rfl) | (rw [cvX]; rfl) | skip); try go_simp))
        clear hK K
        refine flo_read _ rfl (fun K hK => ?_)
        go_simp
        first | (refine hK _ ?_) | (refine ⟨fun W hS => ?_, hK _ ?_⟩; · (intro hS2; have cvW := hW _ _ _ hS2.reads; have cvX := hW _ _ _ (cR _ hS); (first | (rw [cvW]; rfl) | (rw [cvX]; rfl) | skip); try go_simp))
        clear hK K
        refine flo_read _ rfl (fun K hK => ?_)
        go_simp
        first | (refine hK _ ?_) | (refine ⟨fun W hS => ?_, hK _ ?_⟩; · (intro hS2; have cvW := hW _ _ _ hS2.reads; have cvX := hW _ _ _ (cR _ hS); (first | (rw [cvW]; rfl) | (rw [cvX]; rfl) | skip); try go_simp))
        clear hK K
        refine flo_read _ rfl (fun K hK => ?_)
        go_simp
        first | (refine hK _ ?_) | (refine ⟨fun W hS => ?_, hK _ ?_⟩; · (intro hS2; have cvW := hW _ _ _ hS2.reads; have cvX := hW _ _ _ (cR _ hS); (first | (rw [cvW]; rfl) | (rw [cvX]; rfl) | skip); try go_simp))
        clear hK K
        refine flo_read _ rfl (fun K hK => ?_)
        go_simp
        first | (refine hK _ ?_) | (refine ⟨fun W hS => ?_, hK _ ?_⟩; · (intro hS2; have cvW := hW _ _ _ hS2.reads; have cvX := hW _ _ _ (cR _ hS); (first | (rw [cvW]; rfl) | (rw [cvX]; rfl) | skip); try go_simp))
        clear hK K
        refine flo_read _ rfl (fun K hK => ?_)
        go_simp
        first | (refine hK _ ?_) | (refine ⟨fun W hS => ?_, hK _ ?_⟩; · (intro hS2; have cvW := hW _ _ _ hS2.reads; have cvX := hW _ _ _ (cR _ hS); (first | (rw [cvW]; rfl) | (rw [cvX]; rfl) | skip); try go_simp))
        clear hK K
        refine flo_read _ rfl (fun K hK => ?_)
        go_simp
        first | (refine hK _ ?_) | (refine ⟨fun W hS => ?_, hK _ ?_⟩; · (intro hS2; have cvW := hW _ _ _ hS2.reads; have cvX := hW _ _ _ (cR _ hS); (first | (rw [cvW]; rfl) | (rw [cvX]; rfl) | skip); try go_simp))
        clear hK K
        refine flo_read _ rfl (fun K hK => ?_)
        go_simp
        first | (refine hK _ ?_) | (refine ⟨fun W hS => ?_, hK _ ?_⟩; · (intro hS2; have cvW := hW _ _ _ hS2.reads; have cvX := hW _ _ _ (cR _ hS); (first | (rw [cvW]; rfl) | (rw [cvX]; rfl) | skip); try go_simp))
        clear hK K
        refine flo_read _ rfl (fun K hK => ?_)
        go_simp
        first | (refine hK _ ?_) | (refine ⟨fun W hS => ?_, hK _ ?_⟩; · (intro hS2; have cvW := hW _ _ _ hS2.reads; have cvX := hW _ _ _ (cR _ hS); (first | (rw [cvW]; rfl) | (rw [cvX]; rfl) | skip); try go_simp))
        clear hK K
        refine flo_read _ rfl (fun K hK => ?_)
        go_simp
        first | (refine hK _ ?_) | (refine ⟨fun W hS => ?_, hK _ ?_⟩; · (intro hS2; have cvW := hW _ _ _ hS2.reads; have cvX := hW _ _ _ (cR _ hS); (first | (rw [cvW]; rfl) | (rw [cvX]; rfl) | skip); try go_simp))
        clear hK K
        refine flo_read _ rfl (fun K hK => ?_)
        go_simp
        first | (refine hK _ ?_) | (refine ⟨fun W hS => ?_, hK _ ?_⟩; · (intro hS2; have cvW := hW _ _ _ hS2.reads; have cvX := hW _ _ _ (cR _ hS); (first | (rw [cvW]; rfl) | (rw [cvX]; rfl) | skip); try go_simp))
        clear hK K
        clear cw1 cw2
        refine flo_alone _ rfl ?_
        go_wp2_with fail
        go_at_call 52
        refine (safe_is _ b _ _ _ _ h7).mono ?_
        rintro e w8 ⟨rfl, t8⟩
        go_wp2_with fail
        refine ⟨fun W => OwnS 5 1 W (.slice A3 file.length c3) (bys file) ∧ OwnS 5 1 W (.slice A6 m c6) (bys (file.take m)), fun W h => h, ⟨o8.turns t8 (by simp), o9.turns t8 (by simp)⟩, ?_⟩
        refine flo_read _ rfl (fun K hK => ?_)
        go_simp
        first | (refine hK _ ?_) | (refine ⟨fun W hS => ?_, hK _ ?_⟩; · (intro hS2; try go_simp))
        clear hK K
        refine flo_read _ rfl (fun K hK => ?_)
        go_simp
        first | (refine hK _ ?_) | (refine ⟨fun W hS => ?_, hK _ ?_⟩; · (intro hS2; try go_simp))
        clear hK K
        refine flo_end ?_
        have T8 := T7.trans t8
        by_cases hk0 : keep ≤ 0
        · have e1 : m = sn := by omega
          have g3 := decide_eq_true hk0
          have g5 : decide (keep > 0) = false := by simp; omega
          have g4 : ((m : Int) == (sn : Int)) = true := by simp; omega
          clear hk0 e1 hm
          go_wp2_with fail
          go_at_call 45
          refine (alive_any _).mono ?_
          rintro e w9 ⟨rfl, t9⟩
          go_wp2_with fail
          go_ret
          exact ⟨rfl, T8.trans t9⟩
        · have g3 := decide_eq_false hk0
          have g5 : decide (keep > 0) = true := by simp; omega
          by_cases hkl : (file.length : Int) - m = 0
          · have g6 : ((file.length : Int) - (m : Int) == 0) = true := by simp; omega
            clear hk0 hkl hm
            go_wp2_with fail
            go_at_call 45
            refine (alive_any _).mono ?_
            rintro e w9 ⟨rfl, t9⟩
            go_wp2_with fail
            go_ret
            exact ⟨rfl, T8.trans t9⟩
          · have g6 : ((file.length : Int) - (m : Int) == 0) = false := by simp; omega
            have g7 : ((m : Int) - (sn : Int) == keep) = true := by simp; omega
            clear hk0 hkl hm
            go_wp2_with fail
            go_at_call 45
            refine (alive_any _).mono ?_
            rintro e w9 ⟨rfl, t9⟩
            go_wp2_with fail
            go_ret
            exact ⟨rfl, T8.trans t9⟩
theorem opened {H : Type} (enc : TypeId × Value → H) (W : World) {base : Nat} {v0 v1 : Value} {d0 d1 : DataW H} {p0 p1 : List MemPlace} (h0 : DataW.Trod enc Try.prog W 0 (fun _ => true) true 55 v0 d0 p0)
    (h1 : DataW.Trod enc Try.prog W 0 (fun _ => true) true 3 v1 d1 p1) (o0 : Value.okWide Try.prog W .any base 55 v0) (o1 : Value.okWide Try.prog W .any base 3 v1) :
    Calls Try.prog 9 #[v0, v1] W fun e w' => e = .returned (.bool true) ∧ Below W.heap.size W w' := by
  obtain ⟨A, c, acts, rfl, hf, hb, hk⟩ := acts_of (arg_slice Try.underlying55 nestAct (by kernel_rfl) h0 o0)
  obtain ⟨room, rfl, _⟩ := arg_int Try.underlying3 (by kernel_rfl) h1 o1
  exact (safe_law W room A c acts hf hb hk).mono fun e w' ⟨he, t⟩ => ⟨he, t.isBelow⟩
end Go.Proofs.Ytondopjpkedojaa.Df
