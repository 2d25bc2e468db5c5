/- Acts upon a relay: as data; annonalaw15's Fits; the relay's calls, whatever is held. -/
import Derived.Test.YtohokckpheljbaaGj
set_option linter.unusedVariables false
set_option linter.unusedSimpArgs false
set_option maxRecDepth 100000
namespace Go.Proofs.Ytohokckpheljbaa.Gk
open Go.RowKit Go.MapKept Go.Shelf Hm Hs Hf Hx Hy Hv Fa Fb Ff Fg Fi Fj Fq Fr_ Ga Gb Gc Gd Ge Gf Gg Gh Gi Gj
structure Act where
  kind : Int
  f : Fr
  sv : Value
  rv : Value
  g : Int
  h : Int
def Act.cells (a : Act) : List Value := [.int .u8 a.kind, .int .i64 a.f.kind, .int .i64 a.f.frm, .int .i64 a.f.to, .int .i64 a.f.gen, .int .i64 a.f.hop, .int .u64 a.f.bits, .int .i64 a.f.tok.gen, .int .i64 a.f.tok.hop, a.sv, .int .i64 a.f.tok.start, a.rv, .int .i64 a.g, .int .i64 a.h]
def Act.v (a : Act) : Value := .agg #[.int .u8 a.kind, .int .i64 a.f.kind, .int .i64 a.f.frm, .int .i64 a.f.to, .int .i64 a.f.gen, .int .i64 a.f.hop, .int .u64 a.f.bits, .int .i64 a.f.tok.gen, .int .i64 a.f.tok.hop, a.sv, .int .i64 a.f.tok.start, a.rv, .int .i64 a.g, .int .i64 a.h]
/-- each act's frame is as it is told -/
def Acts (w : World) (l : List Act) : Prop := ∀ a ∈ l, TokR w a.f.tok a.sv a.rv
structure ACells (w : World) (ad : Addr) (m : Nat) (a : Act) : Prop where
  c0 : w.cell? (ad.add m) = some (.int .u8 a.kind)
  c1 : w.cell? ⟨(ad.add m).block, (ad.add m).off + 1, none⟩ = some (.int .i64 a.f.kind)
  c2 : w.cell? ⟨(ad.add m).block, (ad.add m).off + 2, none⟩ = some (.int .i64 a.f.frm)
  c3 : w.cell? ⟨(ad.add m).block, (ad.add m).off + 3, none⟩ = some (.int .i64 a.f.to)
  c4 : w.cell? ⟨(ad.add m).block, (ad.add m).off + 4, none⟩ = some (.int .i64 a.f.gen)
  c5 : w.cell? ⟨(ad.add m).block, (ad.add m).off + 5, none⟩ = some (.int .i64 a.f.hop)
  c6 : w.cell? ⟨(ad.add m).block, (ad.add m).off + 6, none⟩ = some (.int .u64 a.f.bits)
  c7 : w.cell? ⟨(ad.add m).block, (ad.add m).off + 7, none⟩ = some (.int .i64 a.f.tok.gen)
  c8 : w.cell? ⟨(ad.add m).block, (ad.add m).off + 8, none⟩ = some (.int .i64 a.f.tok.hop)
  c9 : w.cell? ⟨(ad.add m).block, (ad.add m).off + 9, none⟩ = some a.sv
  c10 : w.cell? ⟨(ad.add m).block, (ad.add m).off + 10, none⟩ = some (.int .i64 a.f.tok.start)
  c11 : w.cell? ⟨(ad.add m).block, (ad.add m).off + 11, none⟩ = some a.rv
  c12 : w.cell? ⟨(ad.add m).block, (ad.add m).off + 12, none⟩ = some (.int .i64 a.g)
  c13 : w.cell? ⟨(ad.add m).block, (ad.add m).off + 13, none⟩ = some (.int .i64 a.h)
theorem ACells.turns {w w' : World} {ad : Addr} {m : Nat} {a : Act} (h : ACells w ad m a) (t : Turns [] w w') : ACells w' ad m a :=
  ⟨t.old h.c0, t.old h.c1, t.old h.c2, t.old h.c3, t.old h.c4, t.old h.c5, t.old h.c6, t.old h.c7, t.old h.c8, t.old h.c9, t.old h.c10, t.old h.c11, t.old h.c12, t.old h.c13⟩
theorem acells_at {w : World} {v : Value} {l : List Act} {j : Nat} {a : Act} (h : RdS 14 w v (l.map Act.cells)) (hj : l[j]? = some a) : ∃ ad c, v = .slice (some ad) l.length c ∧ ACells w ad (j * 14) a := by
  obtain ⟨ad, c, hv, _, hc⟩ := h.at_ (j := j) (r := Act.cells a) (by rw [List.getElem?_map, hj]; rfl)
  rw [List.length_map] at hv
  have c0 := hc 0 _ rfl
  have c1 := hc 1 _ rfl
  have c2 := hc 2 _ rfl
  have c3 := hc 3 _ rfl
  have c4 := hc 4 _ rfl
  have c5 := hc 5 _ rfl
  have c6 := hc 6 _ rfl
  have c7 := hc 7 _ rfl
  have c8 := hc 8 _ rfl
  have c9 := hc 9 _ rfl
  have c10 := hc 10 _ rfl
  have c11 := hc 11 _ rfl
  have c12 := hc 12 _ rfl
  have c13 := hc 13 _ rfl
  rw [Nat.add_zero] at c0
  rw [add_field _ _ _ (by omega)] at c1 c2 c3 c4 c5 c6 c7 c8 c9 c10 c11 c12 c13
  exact ⟨ad, c, hv, ⟨c0, c1, c2, c3, c4, c5, c6, c7, c8, c9, c10, c11, c12, c13⟩⟩
def fitsA (a : Act) : Bool := fitsB a.f.tok
def fitsL (l : List Act) : Bool := (l.take 61).all fitsA && decide (l.length ≤ 60)
theorem fitsL_eq {l : List Act} (h : fitsL l = true) : l.length ≤ 60 ∧ ∀ a ∈ l, fitsT a.f.tok := by
  unfold fitsL at h
  rw [Bool.and_eq_true] at h
  obtain ⟨h1, h2⟩ := h
  have h2 := of_decide_eq_true h2
  rw [List.take_of_length_le (by omega)] at h1
  exact ⟨h2, fun a ha => (fitsB_eq _).1 (List.all_eq_true.1 h1 a ha)⟩
set_option maxHeartbeats 4000000 in
theorem fitsL_is (w : World) (v : Value) (l : List Act) (h : RdS 14 w v (l.map Act.cells)) (hA : Acts w l) : Calls Try.prog 7 #[v] w fun e w' => e = .returned (.bool (fitsL l)) ∧ Turns [] w w' := by
  obtain ⟨A, c, rfl, hlc, hcm⟩ := h.form
  rw [List.length_map] at hlc ⊢
  obtain ⟨X, hX⟩ : ∃ X : Ending → World → Prop, X = fun e w' => e = .returned (.bool (fitsL l)) ∧ Turns [] w w' := ⟨_, rfl⟩
  rw [← hX]
  have hXh : Hid (∀ b w', fitsL l = b → Turns [] w w' → X (.returned (.bool b)) w') := Lib.hid (fun b w' h t => by rw [hX]; exact ⟨by rw [h], t⟩)
  have hh := Lib.hid h
  have hAh := Lib.hid hA
  clear h hX hA
  go_enter Try.func7, Try.ntmps7
  go_wp2_with fail
  go_loopw [3] (fun v3 wr => ∃ (k : Nat), k ≤ l.length ∧ k ≤ 61 ∧ v3 = .int .i64 k ∧ (l.take k).all fitsA = true ∧ Turns [] w wr) (fun v3 _ => l.length - (RowKit.intOf v3).toNat)
  case atStart => exact ⟨0, by omega, by omega, rfl, rfl, Turns.refl _ _⟩
  case round =>
    obtain ⟨k, hk, hk61, rfl, hin, T⟩ := hrel
    have hinh := Lib.hid hin
    clear hin
    by_cases hlt : k < l.length
    · have g1 : decide ((k : Int) < (l.length : Int)) = true := decide_eq_true (by omega)
      have g1b : decide (k < l.length) = true := decide_eq_true hlt
      by_cases h61 : k ≤ 60
      · have g2 : decide ((k : Int) ≤ 60) = true := decide_eq_true (by omega)
        have g2b : decide (k ≤ 60) = true := decide_eq_true h61
        obtain ⟨x, hx⟩ : ∃ x, l[k]? = some x := ⟨_, List.getElem?_eq_getElem hlt⟩
        obtain ⟨ad, c', hv, LX⟩ := acells_at hh.out hx
        injection hv with e1 e2 e3
        subst e1 e3
        have ht := (hAh.out x (List.mem_of_getElem? hx)).turns T
        have I1 := Lib.hid (fits_is wr x.f x.sv x.rv ht)
        obtain ⟨A1, c1, A3, c3, hsv, hrv⟩ := frc_form ht
        obtain ⟨x0, x1, x2, x3, x4, x5, x6, x7, x8, x9, x10, x11, x12, x13⟩ := LX.turns T
        rw [hsv] at x9
        rw [hrv] at x11
        rw [hsv, hrv] at I1
        unfold frv at I1
        have htk : Hid ((l.take (k + 1)).all fitsA = fitsA x) := Lib.hid (by rw [take_next hx, List.all_append, hinh.out]; simp)
        have hfx : Hid (fitsA x = fitsB x.f.tok) := Lib.hid rfl
        have hxh := Lib.hid hx
        generalize fitsB x.f.tok = q at *
        clear hx LX ht e2 hsv hrv x0 x12 x13
        go_wp2_with fail
        go_at_call 16
        refine Calls.mono (I1.out) ?_
        rintro e w2 ⟨rfl, t2⟩
        have T2 := T.trans t2
        clear x1 x2 x3 x4 x5 x6 x7 x8 x9 x10 x11
        cases q with
        | false =>
          have hX := hXh.out false _ (by
            unfold fitsL
            rw [Bool.and_eq_false_iff]
            left
            rw [List.all_eq_false]
            refine ⟨x, ?_, by rw [hfx.out]; simp⟩
            exact List.mem_of_getElem? (i := k) (by rw [List.getElem?_take_of_lt (by omega)]; exact hxh.out)) T2
          clear hlt h61
          go_wp2_with fail
          exact hX
        | true =>
          go_wp2_with fail
          go_roundw
          case rel => exact ⟨k + 1, by omega, by omega, by go_num, by rw [htk.out, hfx.out], T2⟩
          case measure => simp [RowKit.intOf]; omega
      · obtain rfl : k = 61 := by omega
        have hX := hXh.out false _ (by unfold fitsL; rw [decide_eq_false (by omega : ¬ l.length ≤ 60), Bool.and_false]) T
        have g4 : decide ((l.length : Int) ≤ 60) = false := decide_eq_false (by omega)
        have g4b : decide (l.length ≤ 60) = false := decide_eq_false (by omega)
        have g5 : decide ((61 : Int) < (l.length : Int)) = true := decide_eq_true (by omega)
        clear hlt h61 hk hk61
        go_wp2_with fail
        all_goals exact hX
    · obtain rfl : k = l.length := by omega
      have g1 : decide ((l.length : Int) < (l.length : Int)) = false := by simp
      obtain ⟨q, hq⟩ : ∃ q, decide ((l.length : Int) ≤ 60) = q := ⟨_, rfl⟩
      have hq2 : decide (l.length ≤ 60) = q := by
        rw [← hq, Bool.eq_iff_iff]
        simp only [decide_eq_true_eq]
        omega
      have hX := hXh.out q _ (by unfold fitsL; rw [hq2]; rw [List.take_length] at hinh; rw [List.take_of_length_le (by omega), hinh.out, Bool.true_and]) T
      clear hlt hk hk61
      go_wp2_with fail
      exact hX
/-- what Held tells -/
def heldF (o : Option Fr) : Fr := o.getD Fr.zero
def heldN (o : Option Fr) (n : Int) : Int := match o with | none => n | some _ => n + 1
theorem tokR_zero (w : World) : TokR w Tok.zero (.slice none 0 0) (.slice none 0 0) := ⟨RdS.nil 1 w, RT.nil w⟩
theorem tokFrom_zero (n : Nat) (w : World) : TokFrom n w Tok.zero (.slice none 0 0) (.slice none 0 0) := ⟨fun k hk => by simp [Value.ownBlock] at hk, RdS.nil 1 w, ⟨fun k hk => by simp [Value.ownBlock] at hk, [], RdS.nil 4 w, RowsIs.nil w, by simp⟩⟩
theorem held_u (m : Nat) (w : World) (b : Nat) (n : Int) (o : Option Fr) (h : IsRelay m w b n o) (hn : 0 ≤ n ∧ n ≤ 1000000) : Calls Try.prog 12 #[.pointer (some ⟨b, 0, none⟩)] w
    fun e w' => ∃ sv rv, e = .returned (.tuple #[frv (heldF o) sv rv, .bool o.isSome]) ∧ TokFrom w.heap.size w' (heldF o).tok sv rv ∧ IsRelay m w' b (heldN o n) o ∧ Turns [b] w w' := by
  cases o with
  | none => exact (held_none m w b n h).mono fun e w' ⟨he, t⟩ => ⟨_, _, he, tokFrom_zero _ _, h.turns t, t.mono (by simp)⟩
  | some f => exact (held_some m w b n (n + 1) f h (IntWalk.i64_in _ (by omega)))
theorem dheld_u (m : Nat) (w0 w : World) (b : Nat) (n : Int) (o : Option Fr) (h : IsDoc m w0 w b n o) (hT : Turns [] w0 w) (hb0 : w0.heap.size ≤ b) (hn : 0 ≤ n ∧ n ≤ 1000000) : Calls Try.prog 35 #[.pointer (some ⟨b, 0, none⟩)] w
    fun e w' => ∃ sv rv, e = .returned (.tuple #[frv (heldF o) sv rv, .bool o.isSome]) ∧ TokR w' (heldF o).tok sv rv ∧ IsDoc m w0 w' b (heldN o n) o ∧ Turns [b] w w' := by
  cases o with
  | none => exact (dheld_none m w0 w b n h).mono fun e w' ⟨he, t⟩ => ⟨_, _, he, tokR_zero _, h.turns t, t.mono (by simp)⟩
  | some f => exact (dheld_some m w0 w b n (n + 1) f h hT hb0 (IntWalk.i64_in _ (by omega)))
theorem ack_u (m : Nat) (w : World) (b : Nat) (n : Int) (o : Option Fr) (f : Fr) (sv rv : Value) (hr : IsRelay m w b n o) (h : TokR w f.tok sv rv) (hn : f.tok.st.length ≤ 100000) : Calls Try.prog 14 #[.pointer (some ⟨b, 0, none⟩), frv f sv rv] w fun e w' => e = .returned (.bool (ackO o f)) ∧ IsRelay m w' b n (relO o (ackO o f)) ∧ Turns [b] w w' := by
  cases o with
  | none => exact (ack_none m w b n f sv rv hr h).mono fun e w' ⟨he, t⟩ => ⟨he, hr.turns t, t.mono (by simp)⟩
  | some g => exact ack_some m w b n g f sv rv hr h hn
theorem drop_u (m : Nat) (w : World) (b : Nat) (n : Int) (o : Option Fr) (g h : Int) (hr : IsRelay m w b n o) : Calls Try.prog 15 #[.pointer (some ⟨b, 0, none⟩), .agg #[.int .i64 g, .int .i64 h]] w fun e w' => e = .returned (.bool (dropO o g h)) ∧ IsRelay m w' b n (relO o (dropO o g h)) ∧ Turns [b] w w' := by
  cases o with
  | none => exact (drop_none m w b n g h hr).mono fun e w' ⟨he, t⟩ => ⟨he, hr.turns t, t.mono (by simp)⟩
  | some f => exact drop_some m w b n g h f hr
end Go.Proofs.Ytohokckpheljbaa.Gk
