/- frame.token: a token's numbers are written. -/
import Derived.Test.YtohokckpheljbaaNa
import Derived.Test.YtohokckpheljbaaFr
set_option linter.unusedVariables false
set_option linter.unusedSimpArgs false
set_option maxRecDepth 100000
namespace Go.Proofs.Ytohokckpheljbaa.Nb
open Go.RowKit Go.MapKept Hm Hs Hr Hb Hf Hg Hv Hx Fa Ff Fg Kw Na
def rowN (r : Row) : List Int := [r.key, r.avail, r.mark, (r.out.length : Int)] ++ r.out.flatMap fun p => [p.1, p.2]
/-- a token's numbers -/
def tokN (t : Tok) : List Int := [t.gen, t.hop, (t.st.length : Int)] ++ (t.st.map (· + 1) ++ ([t.start, (t.rows.length : Int)] ++ t.rows.flatMap rowN))
theorem putR_append (l m : List Int) : putR (l ++ m) = putR l ++ putR m := by unfold putR; rw [List.map_append, List.flatten_append]
theorem u64_id {l : List Int} (h : l.all okNum = true) : l.map u64 = l := by
  rw [List.all_eq_true] at h
  conv => rhs; rw [← List.map_id l]
  refine List.map_congr_left (fun x hx => ?_)
  have := h x hx
  unfold okNum at this
  have := of_decide_eq_true this
  unfold u64
  simp only [id]
  omega
/-- numbers that may be are written -/
theorem num_ok (w : World) (b : Nat) (bv : Value) (bytes : List Int) (h : Got (wtr b bv bytes false) w) (v : Value) (l : List Int) (hv : RdS 1 w v (ins l)) (hvn : ∀ k, v.ownBlock = some k → k ∉ fps (wtr b bv bytes false)) (hl : bytes.length + 8 * l.length ≤ 100000) (ho : l.all okNum = true) :
    Calls Try.prog 54 #[.pointer (some ⟨b, 0, none⟩), v] w fun e w' => e = .returned (.pointer (some ⟨b, 0, none⟩)) ∧ ∃ bv', Sep (fps (wtr b bv bytes false)) w (wtr b bv' (bytes ++ putR l) false) w' := by
  refine (Na.num_is w b bv bytes false h v l hv hvn hl (fun x hx => ?_)).mono ?_
  · have := List.all_eq_true.1 ho x hx
    unfold okNum at this
    have := of_decide_eq_true this
    omega
  · rintro e w' ⟨he, bv', H⟩
    rw [u64_id ho, ho] at H
    exact ⟨he, bv', H⟩
theorem lit_rd (w : World) (xs : List Int) (cs : Array Value) (hx : cs.toList = xs.map (Value.int .i64)) (n : Nat) (hn : n = xs.length) (hl : n ≤ 1000) : RdS 1 (w.alloc (.cells cs 3)) (.slice (some ⟨w.heap.size, 0, none⟩) n n) (ins xs) := by
  subst hn
  have := RdS.of_cells (rows := ins xs) (sz := 1) (Blk.new w cs 3) (by rw [hx, ins_flat]) (by intro r hr; unfold ins at hr; obtain ⟨x, _, rfl⟩ := List.mem_map.1 hr; rfl) xs.length (by simp) (by omega)
  simpa using this
theorem lit_no {F : List Nat} {w0 w : World} {l : List Th} (H : Sep F w0 l w) (n : Nat) : ∀ k, (Value.slice (some ⟨w.heap.size, 0, none⟩) n n).ownBlock = some k → k ∉ fps l := by
  intro k hk hm
  have := H.lt hm
  simp [Value.ownBlock] at hk
  omega
/-- a literal slice, a call of Num -/
theorem lit_num (W : World) (F : List Nat) (w0 : World) (l : List Th) (b : Nat) (bv : Value) (bytes : List Int) (H : Sep F w0 (wtr b bv bytes false ++ l) W) (xs : List Int) (cs : Array Value) (hx : cs.toList = xs.map (Value.int .i64)) (n : Nat) (hn : n = xs.length) (hn2 : n ≤ 1000)
    (hl : bytes.length + 8 * n ≤ 100000) (ho : xs.all okNum = true) :
    Calls Try.prog 54 #[.pointer (some ⟨b, 0, none⟩), .slice (some ⟨W.heap.size, 0, none⟩) n n] (W.alloc (.cells cs 3)) fun e w' => e = .returned (.pointer (some ⟨b, 0, none⟩)) ∧ ∃ bv', Sep F w0 (wtr b bv' (bytes ++ putR xs) false ++ l) w' := by
  have H2 := H.turns ((Turns.refl [] W).alloc (.cells cs 3))
  have G2 : Got (wtr b bv bytes false) (W.alloc (.cells cs 3)) := H2.got_left
  refine (num_ok _ b bv bytes G2 _ xs (lit_rd W xs cs hx n hn hn2) (fun k hk hm => lit_no H n k hk (by rw [fps_append]; exact List.mem_append_left _ hm)) (by omega) ho).mono ?_
  rintro e w' ⟨he, bv', H'⟩
  exact ⟨he, bv', H2.upon H'⟩
theorem ok_app {l m : List Int} : (l ++ m).all okNum = true ↔ l.all okNum = true ∧ m.all okNum = true := by rw [List.all_append, Bool.and_eq_true]
/-- the next numbers of N are written -/
theorem lit_nx (W : World) (F : List Nat) (w0 : World) (l : List Th) (b : Nat) (bv : Value) (bytes : List Int) (N p q : List Int) (xs : List Int) (hN : p ++ (xs ++ q) = N) (hl : bytes.length + 8 * N.length ≤ 100000) (ho : N.all okNum = true) (H : Sep F w0 (wtr b bv (bytes ++ putR p) false ++ l) W) (cs : Array Value) (hx : cs.toList = xs.map (Value.int .i64)) (n : Nat) (hn : n = xs.length) (hn2 : n ≤ 1000) :
    Calls Try.prog 54 #[.pointer (some ⟨b, 0, none⟩), .slice (some ⟨W.heap.size, 0, none⟩) n n] (W.alloc (.cells cs 3)) fun e w' => e = .returned (.pointer (some ⟨b, 0, none⟩)) ∧ ∃ bv', Sep F w0 (wtr b bv' (bytes ++ putR (p ++ xs)) false ++ l) w' := by
  subst hN
  rw [ok_app, ok_app] at ho
  rw [List.length_append, List.length_append] at hl
  rw [putR_append, ← List.append_assoc]
  exact lit_num W F w0 l b bv (bytes ++ putR p) H xs cs hx n hn hn2 (by rw [List.length_append, putR_len]; omega) ho.2.1
theorem ok_mem {N p q : List Int} {x : Int} (hN : p ++ (x :: q) = N) (ho : N.all okNum = true) : 0 ≤ x ∧ x ≤ 4611686018427387904 := by
  subst hN
  have := List.all_eq_true.1 ho x (by simp)
  unfold okNum at this
  exact of_decide_eq_true this
set_option maxHeartbeats 8000000 in
theorem token_is (W0 w : World) (b : Nat) (bv : Value) (bytes : List Int) (h : Got (wtr b bv bytes false) w) (t : Tok) (sv rv : Value) (ht : TokR W0 t sv rv) (hT : Turns [] W0 w) (hN : ∀ k ∈ fps (wtr b bv bytes false), W0.heap.size ≤ k) (hl : bytes.length + 8 * (tokN t).length ≤ 100000) (ho : (tokN t).all okNum = true) :
    Calls Try.prog 55 #[.pointer (some ⟨b, 0, none⟩), tkv t sv rv] w fun e w' => e = .returned (.tuple #[]) ∧ ∃ bv', Sep (fps (wtr b bv bytes false)) w (wtr b bv' (bytes ++ putR (tokN t)) false) w' := by
  obtain ⟨g, s, st, m, R⟩ := t
  obtain ⟨hst, hR⟩ := ht
  simp only at hst hR
  obtain ⟨A, c, rfl, _⟩ := rform hst
  obtain ⟨B, d, rfl, _⟩ := hR.form
  obtain ⟨F, hF⟩ : ∃ F, fps (wtr b bv bytes false) = F := ⟨_, rfl⟩
  have H0 : Sep F w (wtr b bv bytes false) w := hF ▸ h.sep
  rw [hF] at hN
  rw [hF]
  have hN2 : ∀ (W : World), Turns F w W → Turns [] W0 W := fun W t => hT.then t (fun i hi => .inr (hN i hi))
  have hTh := Lib.hid hN2
  have hsth := Lib.hid hst
  have hRh := Lib.hid hR
  obtain ⟨X, hX⟩ : ∃ X : Ending → World → Prop, X = fun e w' => e = .returned (.tuple #[]) ∧ ∃ bv', Sep F w (wtr b bv' (bytes ++ putR (tokN ⟨g, s, st, m, R⟩)) false) w' := ⟨_, rfl⟩
  rw [← hX]
  have hXh : Hid (∀ w' bv', Sep F w (wtr b bv' (bytes ++ putR (tokN ⟨g, s, st, m, R⟩)) false) w' → X (.returned (.tuple #[])) w') := Lib.hid (fun w' bv' h => by rw [hX]; exact ⟨rfl, bv', h⟩)
  have hNe : [g, s, (st.length : Int)] ++ (st.map (· + 1) ++ ([m, (R.length : Int)] ++ R.flatMap rowN)) = tokN ⟨g, s, st, m, R⟩ := rfl
  generalize tokN ⟨g, s, st, m, R⟩ = N at *
  have hNeh := Lib.hid hNe
  have hlh := Lib.hid hl
  have hoh := Lib.hid ho
  have hlen : Hid (bytes.length ≤ 100000) := Lib.hid (by omega)
  have H1 : Sep F w (wtr b bv (bytes ++ putR []) false ++ [tBlk w.heap.size #[.int .i64 g, .int .i64 s, .slice A st.length c, .int .i64 m, .slice B R.length d] 39]) (w.alloc (.cells #[.int .i64 g, .int .i64 s, .slice A st.length c, .int .i64 m, .slice B R.length d] 39)) := by
    rw [show bytes ++ putR [] = bytes by simp [putR]]
    exact (H0.alloc #[.int .i64 g, .int .i64 s, .slice A st.length c, .int .i64 m, .slice B R.length d] 39).perm (List.perm_append_comm (l₁ := [_]))
  unfold tkv
  simp only
  have N1 := Lib.hid (lit_nx _ F w _ b bv bytes N [] _ [g, s, (st.length : Int)] hNe hl ho H1 #[.int .i64 g, .int .i64 s, .int .i64 st.length] rfl 3 rfl (by omega))
  clear h hst hR hT hN hX ho hl H0 hF hN2 hNe
  generalize hw1 : w.alloc (.cells #[.int .i64 g, .int .i64 s, .slice A st.length c, .int .i64 m, .slice B R.length d] 39) = w1 at *
  obtain ⟨tb, htb⟩ : ∃ tb, w.heap.size = tb := ⟨_, rfl⟩
  rw [htb] at H1
  rw [htb] at N1
  have hB := H1.blk 2 rfl
  have c0 : World.cell? (w1) ⟨tb, 0, none⟩ = some _ := (hB).cell 0
  have c1 : World.cell? (w1) ⟨tb, 1, none⟩ = some _ := (hB).cell 1
  have c2 : World.cell? (w1) ⟨tb, 2, none⟩ = some _ := (hB).cell 2
  clear hB H1
  go_enter Try.func55, Try.ntmps55
  go_upto_region 1 with fail
  try rw [hw1]
  try rw [htb]
  clear hw1 htb
  go_wp2_with fail
  go_at_call 54
  refine Calls.mono (N1.out) ?_
  rintro e w2 ⟨rfl, bv2, H2⟩
  have H2h := Lib.hid H2
  have d2 : World.cell? (w2) ⟨tb, 2, none⟩ = some _ := (H2.blk 2 rfl).cell 2
  clear c0 c1 c2 N1 H2
  go_wp2_with fail
  go_loopw [23] (fun v23 wr => ∃ (k : Nat) (bv' : Value) (p : List Int), k ≤ st.length ∧ v23 = .int .i64 k ∧ p ++ ((st.drop k).map (· + 1) ++ ([m, (R.length : Int)] ++ R.flatMap rowN)) = N ∧ Sep F w (wtr b bv' (bytes ++ putR p) false ++ [tBlk tb #[.int .i64 g, .int .i64 s, .slice A st.length c, .int .i64 m, .slice B R.length d] 39]) wr) (fun v23 _ => st.length - (intOf v23).toNat)
  case atStart => exact ⟨0, bv2, [g, s, (st.length : Int)], by omega, rfl, hNeh.out, H2h.out⟩
  case round =>
    clear H2h d2
    obtain ⟨k, bv3, p, hk, rfl, hp, H⟩ := hrel
    by_cases hlt : k < st.length
    · have g1 : decide ((k : Int) < (st.length : Int)) = true := decide_eq_true (by omega)
      have g1b : decide (k < st.length) = true := decide_eq_true hlt
      obtain ⟨x, hx⟩ : ∃ x, st[k]? = some x := ⟨_, List.getElem?_eq_getElem hlt⟩
      obtain ⟨ad, c', hv, _, hc⟩ := (hsth.out.mv (fun a u => (hTh.out _ H.t).old)).at_ (j := k) (r := [.int .i64 x]) (by unfold ins; rw [List.getElem?_map, hx]; rfl)
      rw [ins_len] at hv
      injection hv with e1 e2 e3
      subst e1 e3
      have i0 := hc 0 _ rfl
      rw [Nat.mul_one, Nat.add_zero] at i0
      rw [drop_cons hx, List.map_cons, List.cons_append] at hp
      have hxb := ok_mem hp hoh.out
      have hw5 : IntKind.i64.wrap (x + 1) = x + 1 := IntWalk.i64_in _ (by omega)
      have N2 := Lib.hid (lit_nx wr F w _ b bv3 bytes N p _ [x + 1] hp hlh.out hoh.out H #[.int .i64 (x + 1)] rfl 1 rfl (by omega))
      have hph : Hid ((p ++ [x + 1]) ++ ((st.drop (k + 1)).map (· + 1) ++ ([m, (R.length : Int)] ++ R.flatMap rowN)) = N) := Lib.hid (by rw [← hp]; simp)
      clear hp H hc e2 hx hxb
      go_wp2_with fail
      go_at_call 54
      refine Calls.mono (N2.out) ?_
      rintro e w4 ⟨rfl, bv4, H4⟩
      have H4h := Lib.hid H4
      clear H4 N2 i0
      go_wp2_with fail
      go_roundw
      case rel => exact ⟨k + 1, bv4, p ++ [x + 1], by omega, by go_num, hph.out, H4h.out⟩
      case measure => simp [RowKit.intOf]; omega
    · obtain rfl : k = st.length := by omega
      have g1 : decide ((st.length : Int) < (st.length : Int)) = false := by simp
      rw [List.drop_length, List.map_nil, List.nil_append] at hp
      have N2 := Lib.hid (lit_nx wr F w _ b bv3 bytes N p _ [m, (R.length : Int)] hp hlh.out hoh.out H #[.int .i64 m, .int .i64 R.length] rfl 2 rfl (by omega))
      have hph : Hid ((p ++ [m, (R.length : Int)]) ++ R.flatMap rowN = N) := Lib.hid (by rw [← hp]; simp)
      have c3 : World.cell? (wr) ⟨tb, 3, none⟩ = some _ := (H.blk 2 rfl).cell 3
      have c4 : World.cell? (wr) ⟨tb, 4, none⟩ = some _ := (H.blk 2 rfl).cell 4
      clear hp H hlt hk
      go_wp2_with fail
      go_at_call 54
      refine Calls.mono (N2.out) ?_
      rintro e w4 ⟨rfl, bv4, H4⟩
      generalize p ++ [m, (R.length : Int)] = p4 at *
      have H4h := Lib.hid H4
      have d4 : World.cell? (w4) ⟨tb, 4, none⟩ = some _ := (H4.blk 2 rfl).cell 4
      clear c3 c4 N2 H4
      go_wp2_with fail
      go_loopw [47] (fun v47 wr => ∃ (k : Nat) (bv' : Value) (p : List Int), k ≤ R.length ∧ v47 = .int .i64 k ∧ p ++ (R.drop k).flatMap rowN = N ∧ Sep F w (wtr b bv' (bytes ++ putR p) false ++ [tBlk tb #[.int .i64 g, .int .i64 s, .slice A st.length c, .int .i64 m, .slice B R.length d] 39]) wr) (fun v47 _ => R.length - (intOf v47).toNat)
      case atStart => exact ⟨0, bv4, p4, by omega, rfl, hph.out, H4h.out⟩
      case round =>
        clear H4h d4 hph p4 bv4
        obtain ⟨k, bv5, p5, hk, rfl, hp, H⟩ := hrel
        by_cases hlt : k < R.length
        · have g1 : decide ((k : Int) < (R.length : Int)) = true := decide_eq_true (by omega)
          have g1b : decide (k < R.length) = true := decide_eq_true hlt
          obtain ⟨r, hr⟩ : ∃ r, R[k]? = some r := ⟨_, List.getElem?_eq_getElem hlt⟩
          obtain ⟨ad, c', x, hv, hxr, RC⟩ := hRh.out.at_ hr
          injection hv with e1 e2 e3
          subst e1 e3
          obtain ⟨i0, i1, i2, i3⟩ := RC.turns (hTh.out _ H.t)
          rw [hxr.key] at i0
          rw [hxr.avail] at i1
          rw [hxr.mark] at i2
          have hout := hxr.out
          obtain ⟨Ao, co, ho3, _⟩ := ls_form hout
          rw [ho3] at i3 hout
          have houth := Lib.hid hout
          rw [drop_cons hr, List.flatMap_cons] at hp
          rw [show rowN r = [r.key, r.avail, r.mark, (r.out.length : Int)] ++ r.out.flatMap (fun p => [p.1, p.2]) from rfl] at hp
          have hwt := Lib.hid H.t
          have H5 : Sep F w (wtr b bv5 (bytes ++ putR p5) false ++ [tBlk wr.heap.size #[.int .i64 r.key, .int .i64 r.avail, .int .i64 r.mark, .slice Ao r.out.length co] 86, tBlk tb #[.int .i64 g, .int .i64 s, .slice A st.length c, .int .i64 m, .slice (some ad) R.length d] 39]) (wr.alloc (.cells #[.int .i64 r.key, .int .i64 r.avail, .int .i64 r.mark, .slice Ao r.out.length co] 86)) :=
            (H.alloc #[.int .i64 r.key, .int .i64 r.avail, .int .i64 r.mark, .slice Ao r.out.length co] 86).keep [1, 2, 0, 3]
          have N3 := Lib.hid (lit_nx _ F w _ b bv5 bytes N p5 ((r.out.flatMap fun p => [p.1, p.2]) ++ (R.drop (k + 1)).flatMap rowN) [r.key, r.avail, r.mark, (r.out.length : Int)] (by rw [← hp]; simp) hlh.out hoh.out H5 #[.int .i64 r.key, .int .i64 r.avail, .int .i64 r.mark, .int .i64 r.out.length] rfl 4 rfl (by omega))
          have hph : Hid ((p5 ++ [r.key, r.avail, r.mark, (r.out.length : Int)]) ++ ((r.out.flatMap fun p => [p.1, p.2]) ++ (R.drop (k + 1)).flatMap rowN) = N) := Lib.hid (by rw [← hp]; simp)
          clear hp H e2 hr hxr ho3 hout RC hwt
          go_upto_region 11 with fail
          generalize wr.alloc (.cells #[.int .i64 r.key, .int .i64 r.avail, .int .i64 r.mark, .slice Ao r.out.length co] 86) = w5 at *
          generalize wr.heap.size = rb at *
          have x0 : World.cell? (w5) ⟨rb, 0, none⟩ = some _ := (H5.blk 2 rfl).cell 0
          have x1 : World.cell? (w5) ⟨rb, 1, none⟩ = some _ := (H5.blk 2 rfl).cell 1
          have x2 : World.cell? (w5) ⟨rb, 2, none⟩ = some _ := (H5.blk 2 rfl).cell 2
          have x3 : World.cell? (w5) ⟨rb, 3, none⟩ = some _ := (H5.blk 2 rfl).cell 3
          clear i0 i1 i2 i3 H5
          go_wp2_with fail
          go_at_call 54
          refine Calls.mono (N3.out) ?_
          rintro e w6 ⟨rfl, bv6, H6⟩
          generalize p5 ++ [r.key, r.avail, r.mark, (r.out.length : Int)] = p6 at *
          have H6h := Lib.hid H6
          clear x0 x1 x2 x3 N3
          have x3 : World.cell? (w6) ⟨rb, 3, none⟩ = some _ := (H6.blk 2 rfl).cell 3
          clear H6
          go_wp2_with fail
          go_loopw [66] (fun v66 wi => ∃ (j : Nat) (bv' : Value) (p : List Int), j ≤ r.out.length ∧ v66 = .int .i64 j ∧ p ++ (((r.out.drop j).flatMap fun p => [p.1, p.2]) ++ (R.drop (k + 1)).flatMap rowN) = N ∧ Sep F w (wtr b bv' (bytes ++ putR p) false ++ [tBlk rb #[.int .i64 r.key, .int .i64 r.avail, .int .i64 r.mark, .slice Ao r.out.length co] 86, tBlk tb #[.int .i64 g, .int .i64 s, .slice A st.length c, .int .i64 m, .slice (some ad) R.length d] 39]) wi) (fun v66 _ => r.out.length - (intOf v66).toNat)
          case atStart => exact ⟨0, bv6, p6, by omega, rfl, hph.out, H6h.out⟩
          case round =>
            clear H6h x3 hph p6 bv6
            obtain ⟨j, bv7, p7, hj, rfl, hp, H⟩ := hrel
            by_cases hjl : j < r.out.length
            · have g2 : decide ((j : Int) < (r.out.length : Int)) = true := decide_eq_true (by omega)
              have g2b : decide (j < r.out.length) = true := decide_eq_true hjl
              obtain ⟨y, hy⟩ : ∃ y, r.out[j]? = some y := ⟨_, List.getElem?_eq_getElem hjl⟩
              obtain ⟨ad2, c2, hv, LC⟩ := ls_at (houth.out.mv (fun a u => (hTh.out _ H.t).old)) hy
              injection hv with e1 e2 e3
              subst e1 e3
              obtain ⟨j0, j1⟩ := LC
              rw [drop_cons hy, List.flatMap_cons, List.append_assoc] at hp
              have H8 : Sep F w (wtr b bv7 (bytes ++ putR p7) false ++ [tBlk wr.heap.size #[.int .i64 y.1, .int .i64 y.2] 83, tBlk rb #[.int .i64 r.key, .int .i64 r.avail, .int .i64 r.mark, .slice (some ad2) r.out.length co] 86, tBlk tb #[.int .i64 g, .int .i64 s, .slice A st.length c, .int .i64 m, .slice (some ad) R.length d] 39]) (wr.alloc (.cells #[.int .i64 y.1, .int .i64 y.2] 83)) :=
                (H.alloc #[.int .i64 y.1, .int .i64 y.2] 83).keep [1, 2, 0, 3, 4]
              have N4 := Lib.hid (lit_nx _ F w _ b bv7 bytes N p7 _ [y.1, y.2] hp hlh.out hoh.out H8 #[.int .i64 y.1, .int .i64 y.2] rfl 2 rfl (by omega))
              have hph : Hid ((p7 ++ [y.1, y.2]) ++ (((r.out.drop (j + 1)).flatMap fun p => [p.1, p.2]) ++ (R.drop (k + 1)).flatMap rowN) = N) := Lib.hid (by rw [← hp]; simp)
              clear hp H e2 hy
              go_upto_region 15 with fail
              generalize wr.alloc (.cells #[.int .i64 y.1, .int .i64 y.2] 83) = w8 at *
              generalize wr.heap.size = lb at *
              have y0 : World.cell? (w8) ⟨lb, 0, none⟩ = some _ := (H8.blk 2 rfl).cell 0
              have y1 : World.cell? (w8) ⟨lb, 1, none⟩ = some _ := (H8.blk 2 rfl).cell 1
              clear j0 j1 H8
              go_wp2_with fail
              go_at_call 54
              refine Calls.mono (N4.out) ?_
              rintro e w9 ⟨rfl, bv9, H9⟩
              have H9h := Lib.hid (H9.keep [0, 1, 3, 4])
              clear H9 N4 y0 y1
              go_wp2_with fail
              go_roundw
              case rel => exact ⟨j + 1, bv9, p7 ++ [y.1, y.2], by omega, by go_num, hph.out, H9h.out⟩
              case measure => simp [RowKit.intOf]; omega
            · obtain rfl : j = r.out.length := by omega
              have g2 : decide ((r.out.length : Int) < (r.out.length : Int)) = false := by simp
              rw [List.drop_length, List.flatMap_nil, List.nil_append] at hp
              have hph := Lib.hid hp
              have H9h := Lib.hid (H.keep [0, 1, 3])
              clear hp H hjl hj
              go_wp2_with fail
              go_roundw
              case rel => exact ⟨k + 1, bv7, p7, by omega, by go_num, hph.out, H9h.out⟩
              case measure => simp [RowKit.intOf]; omega
        · obtain rfl : k = R.length := by omega
          have g1 : decide ((R.length : Int) < (R.length : Int)) = false := by simp
          rw [List.drop_length, List.flatMap_nil, List.append_nil] at hp
          subst hp
          have hX := hXh.out _ _ (H.keep [0, 1])
          clear H hlt hk
          go_wp2_with fail
          refine bodyPost_end (results_none rfl _ _ _) rfl ?_
          exact hX
end Go.Proofs.Ytohokckpheljbaa.Nb
