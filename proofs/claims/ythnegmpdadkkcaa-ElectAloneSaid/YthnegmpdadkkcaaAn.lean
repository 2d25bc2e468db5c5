/- The walk of annonalaw17's hall.move. -/
import Derived.Test.YthnegmpdadkkcaaAm
import Derived.Deep.CutBlock
set_option linter.unusedVariables false
set_option linter.unusedSimpArgs false
set_option maxRecDepth 100000
namespace Go.Proofs.Ythnegmpdadkkcaa.An
open Go.RowKit Go.MapKept Hm Hs Hr Hc Hd Hf Hg Hv Rg Cn El Em En Eo Ep Es Ap Am
theorem Kr_add_block (ad : Addr) (k : Nat) : (ad.add k).block = ad.block := by unfold Addr.add; split <;> rfl
/-- what is read ahead of an append -/
structure Kq (W : World) (h r : Nat) (fv : Value) (s : Bool) (g : Int) (t : Nat) (wn : Bool) : Prop where
  a : W.cell? ⟨h, 2, none⟩ = some fv
  b0 : W.cell? ⟨r, 0, none⟩ = some (.bool s)
  b1 : W.cell? ⟨r, 1, none⟩ = some (.int .i64 g)
  b2 : W.cell? ⟨r, 2, none⟩ = some (.int .u64 t)
  b3 : W.cell? ⟨r, 3, none⟩ = some (.bool wn)
structure Kr2 (W : World) (h r : Nat) (wv : Value) (g : Int) : Prop where
  a : W.cell? ⟨h, 3, none⟩ = some wv
  b : W.cell? ⟨r, 1, none⟩ = some (.int .i64 g)
theorem in11 {j : Nat} {J : List Nat} (hJ : ∀ x ∈ J, x = 11) (hj : j ∈ J) : j = 11 := hJ j hj
/-- what is read ahead of a Take -/
structure Kp (W : World) (h g0 : Nat) (lv : Value) (p : Addr) (b : Nat) (y : Fr) : Prop where
  y1 : W.cell? ⟨h, 1, none⟩ = some lv
  y2 : W.cell? p = some (.pointer (some ⟨b, 0, none⟩))
  y3 : W.cell? ⟨g0, 1, none⟩ = some (.int .i64 y.g)
  y4 : W.cell? ⟨g0, 2, none⟩ = some (.int .u64 y.t)
set_option maxHeartbeats 8000000 in
theorem move_is (n0 : Nat) (w : World) (h n : Nat) (lv fv wv : Value) (bs : List Nat) (es : List El) (fs : List Fr) (ws : List Int) (kind who what : Int) (hH : Hl n0 w h n lv fv wv bs es fs ws) (hI : Hold n es fs ws)
    (hk : 0 ≤ kind ∧ kind ≤ 255) (hwho : 0 ≤ who ∧ who ≤ 255) (hwhat : 0 ≤ what ∧ what ≤ 65535) (hn0 : n0 ≤ w.heap.size) (hfl : fs.length ≤ 200) (hwl : ws.length ≤ 200) :
    Calls Try.prog 48 #[.pointer (some ⟨h, 0, none⟩), .agg #[.int .u8 kind, .int .u8 who, .int .u16 what]] w
    fun x w' => x = .returned (.bool true) ∧ Below n0 w w' ∧ ∃ lv' fv' wv' bs' es' fs' ws', Hl n0 w' h n lv' fv' wv' bs' es' fs' ws' ∧ Hold n es' fs' ws' ∧ fs'.length ≤ fs.length + 1 ∧ ws'.length ≤ ws.length + 1 := by
  have hn1 := hI.n1
  obtain ⟨m, rfl⟩ := Int.eq_ofNat_of_zero_le hwho.1
  obtain ⟨i, hi⟩ : ∃ i, m % n = i := ⟨_, rfl⟩
  have hin : i < n := by rw [← hi]; exact Nat.mod_lt _ (by omega)
  have hm : (m : Int).tmod (n : Int) = (i : Int) := by rw [Int.tmod_eq_emod_of_nonneg hwho.1, ← hi]; simp
  have hwi : IntKind.i64.wrap (m : Int) = m := IntWalk.i64_in _ (by omega)
  have hnz : ((n : Int) == 0) = false := by simp; omega
  have hnz2 : ((n : Int) = 0) = False := eq_false (by omega)
  have hnz3 : (n = 0) = False := eq_false (by omega)
  obtain ⟨e, he⟩ : ∃ e, es[i]? = some e := ⟨_, List.getElem?_eq_getElem (by rw [hI.len]; exact hin)⟩
  obtain ⟨b, hb⟩ : ∃ b, bs[i]? = some b := ⟨_, List.getElem?_eq_getElem (by rw [hH.len, hI.len]; exact hin)⟩
  obtain ⟨Al, cl, hlv, _⟩ := hH.hl.form
  obtain ⟨Af, cf, hfv, _⟩ := hH.hf.form
  obtain ⟨Aw, cw, hwv, _⟩ := hH.hw.form
  rw [ptrs_len] at hlv
  rw [frs_len] at hfv
  rw [ins_len] at hwv
  have hbl : bs.length = n := by rw [hH.len, hI.len]
  rw [hbl] at hlv
  subst hlv hfv hwv
  obtain ⟨ad, c', hvv, _, hcell⟩ := hH.hl.reads.at_ (j := i) (ptrs_at hb)
  rw [ptrs_len, hbl] at hvv
  injection hvv with e1 e2 e3
  subst e1 e3
  clear e2
  have ipW := hcell 0 _ rfl
  rw [Nat.mul_one, Nat.add_zero] at ipW
  have T0 := (Turns.refl [] w).alloc (.cells #[.int .u8 kind, .int .u8 m, .int .u16 what] 91)
  have a0 := Blk.new w #[.int .u8 kind, .int .u8 m, .int .u16 what] 91
  have h0 := hH.turns T0
  have hih : Hid _ := hi
  have heh : Hid _ := he
  have hbh : Hid _ := hb
  have hIh : Hid _ := hI
  have hkh : Hid _ := hk
  have hlh : h < w.heap.size := hH.hb.lt
  have hblh : Hid _ := hbl
  clear hi he hb hI hk hH hcell hbl
  go_enter Try.func48, Try.ntmps48
  have T1 := T0.drew
  have a1 := a0.drew
  have h1 := h0.turns ((Turns.refl [] (w.alloc (.cells #[.int .u8 kind, .int .u8 m, .int .u16 what] 91))).drew)
  have c0 : (w.alloc (.cells #[.int .u8 kind, .int .u8 m, .int .u16 what] 91)).drew.cell? ⟨h, 0, none⟩ = some (.int .i64 n) := h1.hb.cell 0
  clear a0 h0 T0
  go_wp2_with fail
  refine wp_region_flo [(0, true), (1, true), (2, true), (3, true), (4, true), (5, true), (6, true), (7, true), (8, true)] (fun W => W = _) (by kernel_rfl) rfl (by kernel_rfl) (by intro c d v a w h; cases d <;> first | (simpa [Exit.then, Exit.inBlock, Act.put] using h) | exact h) (rfl) ?_
  refine flo_read _ rfl (fun K hK => ?_)
  go_simp
  first | (refine hK _ ?_) | (refine ⟨fun W hS => ?_, hK _ ?_⟩; · (subst hS; try go_simp))
  clear hK K
  refine flo_read _ rfl (fun K hK => ?_)
  go_simp
  first | (refine hK _ ?_) | (refine ⟨fun W hS => ?_, hK _ ?_⟩; · (subst hS; try go_simp))
  clear hK K
  refine flo_read _ rfl (fun K hK => ?_)
  go_simp
  first | (refine hK _ ?_) | (refine ⟨fun W hS => ?_, hK _ ?_⟩; · (subst hS; try go_simp))
  clear hK K
  refine flo_read _ rfl (fun K hK => ?_)
  go_simp
  first | (refine hK _ ?_) | (refine ⟨fun W hS => ?_, hK _ ?_⟩; · (subst hS; try go_simp))
  clear hK K
  refine flo_read _ rfl (fun K hK => ?_)
  go_simp
  first | (refine hK _ ?_) | (refine ⟨fun W hS => ?_, hK _ ?_⟩; · (subst hS; try go_simp))
  clear hK K
  refine flo_read _ rfl (fun K hK => ?_)
  go_simp
  first | (refine hK _ ?_) | (refine ⟨fun W hS => ?_, hK _ ?_⟩; · (subst hS; try go_simp))
  clear hK K
  refine flo_read _ rfl (fun K hK => ?_)
  go_simp
  first | (refine hK _ ?_) | (refine ⟨fun W hS => ?_, hK _ ?_⟩; · (subst hS; try go_simp))
  clear hK K
  refine flo_read _ rfl (fun K hK => ?_)
  go_simp
  first | (refine hK _ ?_) | (refine ⟨fun W hS => ?_, hK _ ?_⟩; · (subst hS; try go_simp))
  clear hK K
  refine flo_read _ rfl (fun K hK => ?_)
  go_simp
  first | (refine hK _ ?_) | (refine ⟨fun W hS => ?_, hK _ ?_⟩; · (subst hS; try go_simp))
  clear hK K
  refine flo_end ?_
  clear c0
  generalize (w.alloc (.cells #[.int .u8 kind, .int .u8 m, .int .u16 what] 91)).drew = w1 at *
  have hlt1 := h1.lts
  have qA := (Turns.refl [] w1).alloc (.cells #[.bool false, .int .i64 0, .int .u64 0, .bool false] 77)
  have r2 := Blk.new w1 #[.bool false, .int .i64 0, .int .u64 0, .bool false] 77
  have a2 := a1.turns qA (by simp)
  have h2 := h1.turns qA
  have T2 := T1.trans qA
  have k0 : (w1.alloc (.cells #[.bool false, .int .i64 0, .int .u64 0, .bool false] 77)).cell? ⟨w.heap.size, 0, none⟩ = some (.int .u8 kind) := a2.cell 0
  go_upto_block 0 with fail
  generalize w1.alloc (.cells #[.bool false, .int .i64 0, .int .u64 0, .bool false] 77) = w2 at *
  have ip := T2.old ipW
  have al := a1.lt
  clear h1 T1 a1 qA k0
  obtain ⟨x, hx⟩ : ∃ x, kind.tmod 8 = x := ⟨_, rfl⟩
  have hxk : 0 ≤ x ∧ x < 8 := by
    have hk := hkh.out
    rw [Int.tmod_eq_emod_of_nonneg hk.1] at hx
    omega
  rw [hx]
  clear hx
  go_cut [57] (fun v57 wc => ∃ (f : Fr) (e' : El), Hl n0 wc h n (.slice (some ad) n cl) (.slice Af fs.length cf) (.slice Aw ws.length cw) bs (es.set i e') fs ws ∧ Outc n es fs ws i f e' ∧ Blk wc w1.heap.size f.cells.toArray 77 ∧ Below n0 w wc)
  case first =>
    rcases (by omega : x = 0 ∨ x = 7 ∨ (x ≠ 0 ∧ x ≠ 7)) with rfl | rfl | ⟨hx0, hx7⟩
    · obtain ⟨f, er, e', hG, hSt⟩ := stand_good hIh.out heh.out
      have d1 : w2.cell? ⟨h, 1, none⟩ = some (.slice (some ad) n cl) := h2.hb.cell 1
      have hE := h2.he i b e hbh.out heh.out
      have hbr := hlt1.b i b hbh.out
      have hlb := h2.lb i b hbh.out
      have hSth : Hid _ := hSt
      have hGh : Hid _ := hG
      clear hSt hG
      go_wp2_with fail
      go_at_call 45
      refine Calls.mono (hSth.out _ b hE) ?_
      rintro e w3 ⟨rfl, hE3, t3⟩
      have h3 := h2.on hbh.out heh.out t3 hE3
      have r3 := r2.turns t3 (by simp; omega)
      have B3 : Below n0 w w3 := (T2.isBelow.mono hn0).trans (low t3 (by simpa using hlb) (Nat.le_trans hn0 T2.size))
      clear h2 hE hE3 t3 hSth d1 r2
      have f0 := r3.frozen 0
      have c0 : w3.cell? ⟨w1.heap.size, 0, none⟩ = some (.bool false) := r3.cell 0
      have f1 := r3.frozen 1
      have c1 : w3.cell? ⟨w1.heap.size, 1, none⟩ = some (.int .i64 0) := r3.cell 1
      have f2 := r3.frozen 2
      have c2 : w3.cell? ⟨w1.heap.size, 2, none⟩ = some (.int .u64 0) := r3.cell 2
      have f3 := r3.frozen 3
      have c3 : w3.cell? ⟨w1.heap.size, 3, none⟩ = some (.bool false) := r3.cell 3
      go_wp2_with fail
      go_meet
      have tt := (((((Turns.refl [w1.heap.size] w3).setCell (p := ⟨w1.heap.size, 0, none⟩) (by simp) (.bool f.s)).setCell (p := ⟨w1.heap.size, 1, none⟩) (by simp) (.int .i64 f.g)).setCell (p := ⟨w1.heap.size, 2, none⟩) (by simp) (.int .u64 f.t)).setCell (p := ⟨w1.heap.size, 3, none⟩) (by simp) (.bool f.won))
      have rr := ((((r3.set 0 (.bool f.s)).set 1 (.int .i64 f.g)).set 2 (.int .u64 f.t)).set 3 (.bool f.won))
      have hn2 : n0 ≤ w1.heap.size := by omega
      exact ⟨f, e', h3.away hlt1 tt, hGh.out, rr, B3.trans (low (n := n0) tt (by simpa using hn2) (Nat.le_trans hn0 B3.size))⟩
    · obtain ⟨g, rfl⟩ := h2.head
      have hok := hIh.out.ok i e heh.out
      have hnew : newOk n i e.P e.R := ⟨by omega, by omega, hok.1.p, hok.1.r⟩
      have hnewh : Hid _ := hnew
      have hd := h2.turns ((Turns.refl [] w2).drew)
      have Td := T2.drew
      have d0 : w2.drew.cell? ⟨h, 0, none⟩ = some (.int .i64 n) := hd.hb.cell 0
      have d1 : w2.drew.cell? ⟨h, 1, none⟩ = some (.slice (some ⟨g, 0, none⟩) n cl) := hd.hb.cell 1
      have d2 : w2.drew.cell? ((⟨g, 0, none⟩ : Addr).add i) = some (.pointer (some ⟨b, 0, none⟩)) := ip
      rw [add_zero_] at d2
      clear hnew h2 ip T2 r2 a2 ipW hok
      go_wp2_with fail
      refine wp_region_flo [(0, true), (1, true), (2, true), (3, true), (4, true), (5, true), (6, true), (7, true), (8, true), (9, true), (10, true), (11, true), (13, true), (14, true), (15, true), (16, true), (17, true), (18, true), (19, true), (12, false), (20, false), (21, false), (22, true), (23, true), (24, true), (25, true), (26, true)] (fun W => Turns [] w2.drew W) (by kernel_rfl) rfl (by kernel_rfl) (by intro c d v a w h; cases d <;> first | (simpa [Exit.then, Exit.inBlock, Act.put] using h) | exact h) (Turns.refl [] _) ?_
      generalize w2.drew = wd at *
      refine flo_read _ rfl (fun K hK => ?_)
      go_simp
      first | (refine hK _ ?_) | (refine ⟨fun W hS => ?_, hK _ ?_⟩; · (have x0 := hS.old d0; have x1 := hS.old d1; have x2 := hS.old d2; try go_simp))
      clear hK K
      refine flo_read _ rfl (fun K hK => ?_)
      go_simp
      first | (refine hK _ ?_) | (refine ⟨fun W hS => ?_, hK _ ?_⟩; · (have x0 := hS.old d0; have x1 := hS.old d1; have x2 := hS.old d2; try go_simp))
      clear hK K
      refine flo_read _ rfl (fun K hK => ?_)
      go_simp
      first | (refine hK _ ?_) | (refine ⟨fun W hS => ?_, hK _ ?_⟩; · (have x0 := hS.old d0; have x1 := hS.old d1; have x2 := hS.old d2; try go_simp))
      clear hK K
      refine flo_read _ rfl (fun K hK => ?_)
      go_simp
      first | (refine hK _ ?_) | (refine ⟨fun W hS => ?_, hK _ ?_⟩; · (have x0 := hS.old d0; have x1 := hS.old d1; have x2 := hS.old d2; try go_simp))
      clear hK K
      refine flo_read _ rfl (fun K hK => ?_)
      go_simp
      first | (refine hK _ ?_) | (refine ⟨fun W hS => ?_, hK _ ?_⟩; · (have x0 := hS.old d0; have x1 := hS.old d1; have x2 := hS.old d2; try go_simp))
      clear hK K
      refine flo_read _ rfl (fun K hK => ?_)
      go_simp
      first | (refine hK _ ?_) | (refine ⟨fun W hS => ?_, hK _ ?_⟩; · (have x0 := hS.old d0; have x1 := hS.old d1; have x2 := hS.old d2; try go_simp))
      clear hK K
      refine flo_read _ rfl (fun K hK => ?_)
      go_simp
      first | (refine hK _ ?_) | (refine ⟨fun W hS => ?_, hK _ ?_⟩; · (have x0 := hS.old d0; have x1 := hS.old d1; have x2 := hS.old d2; try go_simp))
      clear hK K
      refine flo_read _ rfl (fun K hK => ?_)
      go_simp
      first | (refine hK _ ?_) | (refine ⟨fun W hS => ?_, hK _ ?_⟩; · (have x0 := hS.old d0; have x1 := hS.old d1; have x2 := hS.old d2; try go_simp))
      clear hK K
      refine flo_read _ rfl (fun K hK => ?_)
      go_simp
      first | (refine hK _ ?_) | (refine ⟨fun W hS => ?_, hK _ ?_⟩; · (have x0 := hS.old d0; have x1 := hS.old d1; have x2 := hS.old d2; try go_simp))
      clear hK K
      refine flo_read _ rfl (fun K hK => ?_)
      go_simp
      first | (refine hK _ ?_) | (refine ⟨fun W hS => ?_, hK _ ?_⟩; · (have x0 := hS.old d0; have x1 := hS.old d1; have x2 := hS.old d2; try go_simp))
      clear hK K
      refine flo_read _ rfl (fun K hK => ?_)
      go_simp
      first | (refine hK _ ?_) | (refine ⟨fun W hS => ?_, hK _ ?_⟩; · (have x0 := hS.old d0; have x1 := hS.old d1; have x2 := hS.old d2; try go_simp))
      clear hK K
      refine flo_read _ rfl (fun K hK => ?_)
      go_simp
      first | (refine hK _ ?_) | (refine ⟨fun W hS => ?_, hK _ ?_⟩; · (have x0 := hS.old d0; have x1 := hS.old d1; have x2 := hS.old d2; try go_simp))
      clear hK K
      refine flo_read _ rfl (fun K hK => ?_)
      go_simp
      first | (refine hK _ ?_) | (refine ⟨fun W hS => ?_, hK _ ?_⟩; · (have x0 := hS.old d0; have x1 := hS.old d1; have x2 := hS.old d2; try go_simp))
      clear hK K
      refine flo_read _ rfl (fun K hK => ?_)
      go_simp
      first | (refine hK _ ?_) | (refine ⟨fun W hS => ?_, hK _ ?_⟩; · (have x0 := hS.old d0; have x1 := hS.old d1; have x2 := hS.old d2; try go_simp))
      clear hK K
      refine flo_read _ rfl (fun K hK => ?_)
      go_simp
      first | (refine hK _ ?_) | (refine ⟨fun W hS => ?_, hK _ ?_⟩; · (have x0 := hS.old d0; have x1 := hS.old d1; have x2 := hS.old d2; try go_simp))
      clear hK K
      refine flo_read _ rfl (fun K hK => ?_)
      go_simp
      first | (refine hK _ ?_) | (refine ⟨fun W hS => ?_, hK _ ?_⟩; · (have x0 := hS.old d0; have x1 := hS.old d1; have x2 := hS.old d2; try go_simp))
      clear hK K
      refine flo_read _ rfl (fun K hK => ?_)
      go_simp
      first | (refine hK _ ?_) | (refine ⟨fun W hS => ?_, hK _ ?_⟩; · (have x0 := hS.old d0; have x1 := hS.old d1; have x2 := hS.old d2; try go_simp))
      clear hK K
      refine flo_read _ rfl (fun K hK => ?_)
      go_simp
      first | (refine hK _ ?_) | (refine ⟨fun W hS => ?_, hK _ ?_⟩; · (have x0 := hS.old d0; have x1 := hS.old d1; have x2 := hS.old d2; try go_simp))
      clear hK K
      refine flo_read _ rfl (fun K hK => ?_)
      go_simp
      first | (refine hK _ ?_) | (refine ⟨fun W hS => ?_, hK _ ?_⟩; · (have x0 := hS.old d0; have x1 := hS.old d1; have x2 := hS.old d2; try go_simp))
      clear hK K
      have hEd := hd.he i b e hbh.out heh.out
      refine flo_alone _ rfl ?_
      go_wp2_with fail
      go_at_call 41
      refine Calls.mono (promised_is _ b e hEd) ?_
      rintro e w3 ⟨rfl, t3⟩
      go_wp2_with fail
      refine ⟨fun W => Turns [] wd W, fun W h => h, t3, ?_⟩
      have hE3 : IsE 159 w3 b e := Blk.turns hEd t3 (by simp)
      refine flo_alone _ rfl ?_
      go_wp2_with fail
      go_at_call 43
      refine Calls.mono (round_is _ b e hE3) ?_
      rintro e w4 ⟨rfl, t4⟩
      go_wp2_with fail
      refine ⟨fun W => Turns [] wd W, fun W h => h, t3.trans t4, ?_⟩
      have T4 := t3.trans t4
      clear hE3 t3 t4 hEd
      refine flo_alone _ rfl ?_
      go_wp2_with fail
      go_at_call 39
      refine Calls.mono (new_ok n i e.P e.R hnewh.out _) ?_
      rintro e w5 ⟨b', rfl, hE5, hb5, t5⟩
      go_wp2_with fail
      refine ⟨fun W => Turns [] wd W, fun W h => h, T4.trans t5, ?_⟩
      have T5 := T4.trans t5
      have hb6 : wd.heap.size ≤ b' := Nat.le_trans T4.size hb5
      clear T4 t5 hb5 d0 d1 d2
      refine flo_read _ rfl (fun K hK => ?_)
      go_simp
      first | (refine hK _ ?_) | (refine ⟨fun W hS => ?_, hK _ ?_⟩; · (skip; try go_simp))
      clear hK K
      refine flo_read _ rfl (fun K hK => ?_)
      go_simp
      first | (refine hK _ ?_) | (refine ⟨fun W hS => ?_, hK _ ?_⟩; · (skip; try go_simp))
      clear hK K
      refine flo_read _ rfl (fun K hK => ?_)
      go_simp
      first | (refine hK _ ?_) | (refine ⟨fun W hS => ?_, hK _ ?_⟩; · (skip; try go_simp))
      clear hK K
      refine flo_read _ rfl (fun K hK => ?_)
      go_simp
      first | (refine hK _ ?_) | (refine ⟨fun W hS => ?_, hK _ ?_⟩; · (skip; try go_simp))
      clear hK K
      refine flo_read _ rfl (fun K hK => ?_)
      go_simp
      first | (refine hK _ ?_) | (refine ⟨fun W hS => ?_, hK _ ?_⟩; · (skip; try go_simp))
      clear hK K
      refine flo_end ?_
      have h5 := hd.turns T5
      have y1 : w5.cell? ⟨h, 1, none⟩ = some (.slice (some ⟨g, 0, none⟩) n cl) := h5.hb.cell 1
      have y2 : w5.cell? ((⟨g, 0, none⟩ : Addr).add i) = some (.pointer (some ⟨b, 0, none⟩)) := by
        obtain ⟨ad2, c2, hv2, _, hc2⟩ := h5.hl.reads.at_ (j := i) (ptrs_at hbh.out)
        injection hv2 with q1 q2 q3
        injection q1 with q1
        subst q1
        have := hc2 0 _ rfl
        rw [Nat.mul_one, Nat.add_zero] at this
        exact this
      have y2' := y2
      rw [add_zero_] at y2'
      have yo := h5.hl.1
      rw [ptrs_len, hblh.out] at yo
      have yf := yo.frozenAt i
      obtain ⟨hp1, hp2⟩ := hd.put hblh.out T5 hin hE5 hb6
      have hI2 := good_new hIh.out heh.out
      have B5 : Below n0 w w5 := (Td.trans T5).isBelow.mono hn0
      have B6 := B5.trans (low (n := n0) ((Turns.refl [g] w5).setCell (p := ⟨g, i, none⟩) (by simp) (.pointer (some ⟨b', 0, none⟩))) (by simpa using hp2) (Nat.le_trans hn0 B5.size))
      have hp1h : Hid _ := hp1
      have hI2h : Hid _ := hI2
      clear h5 yo hp1 hI2 hd hE5 T5 Td B5 hlt1
      go_wp2_with fail
      go_ret
      exact ⟨rfl, B6, _, _, _, _, _, _, _, hp1h.out, hI2h.out, by omega, by omega⟩
    · have hx0' : (x == 0) = false := by simpa using hx0
      have hx7' : (x == 7) = false := by simpa using hx7
      have d2 : w2.cell? ⟨h, 2, none⟩ = some (.slice Af fs.length cf) := h2.hb.cell 2
      by_cases hfe : fs.length = 0
      · have g1 : ((fs.length : Int) == 0) = true := by simp; exact List.eq_nil_of_length_eq_zero hfe
        have B2 : Below n0 w w2 := T2.isBelow.mono hn0
        have h2h : Hid _ := h2
        clear h2 hfe hlt1 a2 r2 T2 ip ipW
        go_wp2_with fail
        go_ret
        exact ⟨rfl, B2, _, _, _, _, _, _, _, h2h.out, hIh.out, by omega, by omega⟩
      · have g1 : ((fs.length : Int) == 0) = false := by simp; intro h0; exact hfe (by rw [h0]; rfl)
        obtain ⟨q, rfl⟩ := Int.eq_ofNat_of_zero_le hwhat.1
        obtain ⟨j, hj⟩ : ∃ j, q % fs.length = j := ⟨_, rfl⟩
        have hjl : j < fs.length := by rw [← hj]; exact Nat.mod_lt _ (by omega)
        have hqm : (q : Int).tmod (fs.length : Int) = (j : Int) := by rw [Int.tmod_eq_emod_of_nonneg hwhat.1, ← hj]; simp
        have hqw : IntKind.i64.wrap (q : Int) = q := IntWalk.i64_in _ (by omega)
        have hfz2 : ((fs.length : Int) = 0) = False := eq_false (by omega)
        have hfz3 : (fs = []) = False := eq_false (by intro h0; rw [h0] at hjl; simp at hjl)
        obtain ⟨y, hy⟩ : ∃ y, fs[j]? = some y := ⟨_, List.getElem?_eq_getElem hjl⟩
        have hym := List.mem_of_getElem? hy
        obtain ⟨af, c2, hvf, _, hcf⟩ := h2.hf.reads.at_ (j := j) (frs_at hy)
        rw [frs_len] at hvf
        injection hvf with q1 q2 q3
        subst q1 q3
        clear q2
        have z0 := hcf 0 _ rfl
        have z1 := hcf 1 _ rfl
        have z2 := hcf 2 _ rfl
        have z3 := hcf 3 _ rfl
        rw [Nat.add_zero] at z0
        rw [add_field _ _ _ (by omega)] at z1 z2 z3
        obtain ⟨f, e', hG, hTk⟩ := take_good hIh.out heh.out hym
        have hTkh : Hid _ := hTk
        have hGh : Hid _ := hG
        have wa : w2.cell? ⟨w.heap.size, 2, none⟩ = some (.int .u16 q) := a2.cell 2
        have hbr := hlt1.b i b hbh.out
        have hlb := h2.lb i b hbh.out
        have hr2l : w1.heap.size < w2.heap.size := r2.lt
        clear hTk hG hy hcf hj hym hfe
        go_wp2_with fail
        have D2 : Turns [] w2 w2.drew := (Turns.refl [] w2).drew
        go_wp2_with fail
        refine wp_region_flo [(0, true), (1, true), (2, true), (3, true), (4, true), (5, true), (6, true), (7, true), (8, true), (9, true), (10, true), (11, true), (12, true), (13, true), (14, true), (15, false), (16, false)] (fun W => Turns [] w2 W) (by kernel_rfl) rfl (by kernel_rfl) (by intro c d v a w h; cases d <;> first | (simpa [Exit.then, Exit.inBlock, Act.put] using h) | exact h) (D2) ?_
        have d2d := D2.old d2
        have wad := D2.old wa
        have z0d := D2.old z0
        have z1d := D2.old z1
        have z2d := D2.old z2
        have z3d := D2.old z3
        refine flo_read _ rfl (fun K hK => ?_)
        go_simp
        first | (refine hK _ ?_) | (refine ⟨fun W hS => ?_, hK _ ?_⟩; · (have x0 := hS.old d2; have x1 := hS.old wa; have x2 := hS.old z0; have x3 := hS.old z1; have x4 := hS.old z2; have x5 := hS.old z3; try go_simp))
        clear hK K
        refine flo_read _ rfl (fun K hK => ?_)
        go_simp
        first | (refine hK _ ?_) | (refine ⟨fun W hS => ?_, hK _ ?_⟩; · (have x0 := hS.old d2; have x1 := hS.old wa; have x2 := hS.old z0; have x3 := hS.old z1; have x4 := hS.old z2; have x5 := hS.old z3; try go_simp))
        clear hK K
        refine flo_read _ rfl (fun K hK => ?_)
        go_simp
        first | (refine hK _ ?_) | (refine ⟨fun W hS => ?_, hK _ ?_⟩; · (have x0 := hS.old d2; have x1 := hS.old wa; have x2 := hS.old z0; have x3 := hS.old z1; have x4 := hS.old z2; have x5 := hS.old z3; try go_simp))
        clear hK K
        refine flo_read _ rfl (fun K hK => ?_)
        go_simp
        first | (refine hK _ ?_) | (refine ⟨fun W hS => ?_, hK _ ?_⟩; · (have x0 := hS.old d2; have x1 := hS.old wa; have x2 := hS.old z0; have x3 := hS.old z1; have x4 := hS.old z2; have x5 := hS.old z3; try go_simp))
        clear hK K
        refine flo_read _ rfl (fun K hK => ?_)
        go_simp
        first | (refine hK _ ?_) | (refine ⟨fun W hS => ?_, hK _ ?_⟩; · (have x0 := hS.old d2; have x1 := hS.old wa; have x2 := hS.old z0; have x3 := hS.old z1; have x4 := hS.old z2; have x5 := hS.old z3; try go_simp))
        clear hK K
        refine flo_read _ rfl (fun K hK => ?_)
        go_simp
        first | (refine hK _ ?_) | (refine ⟨fun W hS => ?_, hK _ ?_⟩; · (have x0 := hS.old d2; have x1 := hS.old wa; have x2 := hS.old z0; have x3 := hS.old z1; have x4 := hS.old z2; have x5 := hS.old z3; try go_simp))
        clear hK K
        refine flo_read _ rfl (fun K hK => ?_)
        go_simp
        first | (refine hK _ ?_) | (refine ⟨fun W hS => ?_, hK _ ?_⟩; · (have x0 := hS.old d2; have x1 := hS.old wa; have x2 := hS.old z0; have x3 := hS.old z1; have x4 := hS.old z2; have x5 := hS.old z3; try go_simp))
        clear hK K
        refine flo_read _ rfl (fun K hK => ?_)
        go_simp
        first | (refine hK _ ?_) | (refine ⟨fun W hS => ?_, hK _ ?_⟩; · (have x0 := hS.old d2; have x1 := hS.old wa; have x2 := hS.old z0; have x3 := hS.old z1; have x4 := hS.old z2; have x5 := hS.old z3; try go_simp))
        clear hK K
        refine flo_read _ rfl (fun K hK => ?_)
        go_simp
        first | (refine hK _ ?_) | (refine ⟨fun W hS => ?_, hK _ ?_⟩; · (have x0 := hS.old d2; have x1 := hS.old wa; have x2 := hS.old z0; have x3 := hS.old z1; have x4 := hS.old z2; have x5 := hS.old z3; try go_simp))
        clear hK K
        refine flo_read _ rfl (fun K hK => ?_)
        go_simp
        first | (refine hK _ ?_) | (refine ⟨fun W hS => ?_, hK _ ?_⟩; · (have x0 := hS.old d2; have x1 := hS.old wa; have x2 := hS.old z0; have x3 := hS.old z1; have x4 := hS.old z2; have x5 := hS.old z3; try go_simp))
        clear hK K
        refine flo_read _ rfl (fun K hK => ?_)
        go_simp
        first | (refine hK _ ?_) | (refine ⟨fun W hS => ?_, hK _ ?_⟩; · (have x0 := hS.old d2; have x1 := hS.old wa; have x2 := hS.old z0; have x3 := hS.old z1; have x4 := hS.old z2; have x5 := hS.old z3; try go_simp))
        clear hK K
        refine flo_read _ rfl (fun K hK => ?_)
        go_simp
        first | (refine hK _ ?_) | (refine ⟨fun W hS => ?_, hK _ ?_⟩; · (have x0 := hS.old d2; have x1 := hS.old wa; have x2 := hS.old z0; have x3 := hS.old z1; have x4 := hS.old z2; have x5 := hS.old z3; try go_simp))
        clear hK K
        refine flo_read _ rfl (fun K hK => ?_)
        go_simp
        first | (refine hK _ ?_) | (refine ⟨fun W hS => ?_, hK _ ?_⟩; · (have x0 := hS.old d2; have x1 := hS.old wa; have x2 := hS.old z0; have x3 := hS.old z1; have x4 := hS.old z2; have x5 := hS.old z3; try go_simp))
        clear hK K
        refine flo_read _ rfl (fun K hK => ?_)
        go_simp
        first | (refine hK _ ?_) | (refine ⟨fun W hS => ?_, hK _ ?_⟩; · (have x0 := hS.old d2; have x1 := hS.old wa; have x2 := hS.old z0; have x3 := hS.old z1; have x4 := hS.old z2; have x5 := hS.old z3; try go_simp))
        clear hK K
        refine flo_read _ rfl (fun K hK => ?_)
        go_simp
        first | (refine hK _ ?_) | (refine ⟨fun W hS => ?_, hK _ ?_⟩; · (have x0 := hS.old d2; have x1 := hS.old wa; have x2 := hS.old z0; have x3 := hS.old z1; have x4 := hS.old z2; have x5 := hS.old z3; try go_simp))
        clear hK K
        clear d2d wad z0d z1d z2d z3d
        refine flo_alone _ rfl ?_
        go_wp2_with fail
        refine ⟨fun W => Turns [] w2 W, fun W h => h, D2.alloc _, ?_⟩
        refine flo_alone _ rfl ?_
        go_wp2_with fail
        have D3 : Turns [] w2 (w2.alloc (.cells #[.bool y.s, .int .i64 y.g, .int .u64 y.t, .bool y.won] 77)).drew := ((Turns.refl [] w2).alloc _).drew
        have q3 : Blk (w2.alloc (.cells #[.bool y.s, .int .i64 y.g, .int .u64 y.t, .bool y.won] 77)).drew w2.heap.size #[.bool y.s, .int .i64 y.g, .int .u64 y.t, .bool y.won] 77 := Blk.drew (Blk.new w2 _ _)
        refine ⟨fun W => Turns [] w2 W, fun W h => h, D3, ?_⟩
        clear D2 z0 z1 z2 z3 wa d2
        refine flo_end ?_
        generalize (w2.alloc (.cells #[.bool y.s, .int .i64 y.g, .int .u64 y.t, .bool y.won] 77)).drew = w3 at *
        have D4 := D3.drew
        have h4 := h2.turns D4
        have r4 := r2.turns D4 (by simp)
        have q4 := q3.drew
        have T4 := T2.trans D4
        have y1 : w3.drew.cell? ⟨h, 1, none⟩ = some (.slice (some ad) n cl) := h4.hb.cell 1
        have y2 : w3.drew.cell? (ad.add i) = some (.pointer (some ⟨b, 0, none⟩)) := D4.old ip
        have y3 : w3.drew.cell? ⟨w2.heap.size, 1, none⟩ = some (.int .i64 y.g) := q4.cell 1
        have y4 : w3.drew.cell? ⟨w2.heap.size, 2, none⟩ = some (.int .u64 y.t) := q4.cell 2
        have hE4 := h4.he i b e hbh.out heh.out
        have hblne : ad.block ≠ b := h4.hl.ne_blk (k := ad.block) rfl hE4 (by decide)
        clear D3 q3 h2 r2 T2 ip
        go_wp2_with fail
        refine wp_region_flo2 [(0, true, [11]), (1, true, [11]), (2, true, [11]), (3, true, [11]), (4, true, [11]), (5, true, [11]), (6, true, []), (7, true, [11]), (8, true, []), (9, true, [11]), (10, true, []), (11, false, []), (12, false, [])] (fun j W => j = 11 → Kp W h w2.heap.size (.slice (some ad) n cl) (ad.add i) b y) (by kernel_rfl) rfl (by kernel_rfl) (by intro c d v a w h; cases d <;> first | (simpa [Exit.then, Exit.inBlock, Act.put] using h) | exact h) ?_
        refine flo2_read _ rfl (fun W => Kp W h w2.heap.size (.slice (some ad) n cl) (ad.add i) b y) (⟨y1, y2, y3, y4⟩) (fun j hj W k => k (in11 (by decide) hj)) (fun K hK => ?_)
        go_simp
        first | (refine hK _ ?_) | (refine ⟨fun W hS => ?_, hK _ ?_⟩; · (have x1 := hS.y1; have x2 := hS.y2; have x3 := hS.y3; have x4 := hS.y4; try go_simp))
        clear hK K
        refine flo2_read _ rfl (fun W => Kp W h w2.heap.size (.slice (some ad) n cl) (ad.add i) b y) (⟨y1, y2, y3, y4⟩) (fun j hj W k => k (in11 (by decide) hj)) (fun K hK => ?_)
        go_simp
        first | (refine hK _ ?_) | (refine ⟨fun W hS => ?_, hK _ ?_⟩; · (have x1 := hS.y1; have x2 := hS.y2; have x3 := hS.y3; have x4 := hS.y4; try go_simp))
        clear hK K
        refine flo2_read _ rfl (fun W => Kp W h w2.heap.size (.slice (some ad) n cl) (ad.add i) b y) (⟨y1, y2, y3, y4⟩) (fun j hj W k => k (in11 (by decide) hj)) (fun K hK => ?_)
        go_simp
        first | (refine hK _ ?_) | (refine ⟨fun W hS => ?_, hK _ ?_⟩; · (have x1 := hS.y1; have x2 := hS.y2; have x3 := hS.y3; have x4 := hS.y4; try go_simp))
        clear hK K
        refine flo2_read _ rfl (fun W => Kp W h w2.heap.size (.slice (some ad) n cl) (ad.add i) b y) (⟨y1, y2, y3, y4⟩) (fun j hj W k => k (in11 (by decide) hj)) (fun K hK => ?_)
        go_simp
        first | (refine hK _ ?_) | (refine ⟨fun W hS => ?_, hK _ ?_⟩; · (have x1 := hS.y1; have x2 := hS.y2; have x3 := hS.y3; have x4 := hS.y4; try go_simp))
        clear hK K
        refine flo2_read _ rfl (fun W => Kp W h w2.heap.size (.slice (some ad) n cl) (ad.add i) b y) (⟨y1, y2, y3, y4⟩) (fun j hj W k => k (in11 (by decide) hj)) (fun K hK => ?_)
        go_simp
        first | (refine hK _ ?_) | (refine ⟨fun W hS => ?_, hK _ ?_⟩; · (have x1 := hS.y1; have x2 := hS.y2; have x3 := hS.y3; have x4 := hS.y4; try go_simp))
        clear hK K
        refine flo2_read _ rfl (fun W => Kp W h w2.heap.size (.slice (some ad) n cl) (ad.add i) b y) (⟨y1, y2, y3, y4⟩) (fun j hj W k => k (in11 (by decide) hj)) (fun K hK => ?_)
        go_simp
        first | (refine hK _ ?_) | (refine ⟨fun W hS => ?_, hK _ ?_⟩; · (have x1 := hS.y1; have x2 := hS.y2; have x3 := hS.y3; have x4 := hS.y4; try go_simp))
        clear hK K
        refine flo2_read _ rfl (fun W => Kp W h w2.heap.size (.slice (some ad) n cl) (ad.add i) b y) (⟨y1, y2, y3, y4⟩) (fun j hj W k => k (in11 (by decide) hj)) (fun K hK => ?_)
        go_simp
        first | (refine hK _ ?_) | (refine ⟨fun W hS => ?_, hK _ ?_⟩; · (have x1 := hS.y1; have x2 := hS.y2; have x3 := hS.y3; have x4 := hS.y4; try go_simp))
        clear hK K
        refine flo2_read _ rfl (fun W => Kp W h w2.heap.size (.slice (some ad) n cl) (ad.add i) b y) (⟨y1, y2, y3, y4⟩) (fun j hj W k => k (in11 (by decide) hj)) (fun K hK => ?_)
        go_simp
        first | (refine hK _ ?_) | (refine ⟨fun W hS => ?_, hK _ ?_⟩; · (have x1 := hS.y1; have x2 := hS.y2; have x3 := hS.y3; have x4 := hS.y4; try go_simp))
        clear hK K
        refine flo2_read _ rfl (fun W => Kp W h w2.heap.size (.slice (some ad) n cl) (ad.add i) b y) (⟨y1, y2, y3, y4⟩) (fun j hj W k => k (in11 (by decide) hj)) (fun K hK => ?_)
        go_simp
        first | (refine hK _ ?_) | (refine ⟨fun W hS => ?_, hK _ ?_⟩; · (have x1 := hS.y1; have x2 := hS.y2; have x3 := hS.y3; have x4 := hS.y4; try go_simp))
        clear hK K
        refine flo2_read _ rfl (fun W => Kp W h w2.heap.size (.slice (some ad) n cl) (ad.add i) b y) (⟨y1, y2, y3, y4⟩) (fun j hj W k => k (in11 (by decide) hj)) (fun K hK => ?_)
        go_simp
        first | (refine hK _ ?_) | (refine ⟨fun W hS => ?_, hK _ ?_⟩; · (have x1 := hS.y1; have x2 := hS.y2; have x3 := hS.y3; have x4 := hS.y4; try go_simp))
        clear hK K
        refine flo2_read _ rfl (fun W => Kp W h w2.heap.size (.slice (some ad) n cl) (ad.add i) b y) (⟨y1, y2, y3, y4⟩) (fun j hj W k => k (in11 (by decide) hj)) (fun K hK => ?_)
        go_simp
        first | (refine hK _ ?_) | (refine ⟨fun W hS => ?_, hK _ ?_⟩; · (have x1 := hS.y1; have x2 := hS.y2; have x3 := hS.y3; have x4 := hS.y4; try go_simp))
        clear hK K
        have hadl := hlt1.l ad.block rfl
        refine flo2_alone _ rfl ?_
        go_wp2_with fail
        go_at_call 46
        refine Calls.mono (hTkh.out _ b hE4) ?_
        rintro e w5 ⟨rfl, hE5, t5⟩
        go_wp2_with fail
        refine ⟨fun _ => ⟨((h4.on hbh.out heh.out t5 hE5).hb.cell 1), (t5.cell (World.block_lt_of_cell? _ _ y2) (by rw [Kr_add_block]; simpa using hblne)).trans y2, (q4.turns t5 (by simp; omega)).cell 1, (q4.turns t5 (by simp; omega)).cell 2⟩, _, fun _ _ h => h, ?_⟩
        have h5 := h4.on hbh.out heh.out t5 hE5
        have r5 := r4.turns t5 (by simp; omega)
        have B5 : Below n0 w w5 := (T4.isBelow.mono hn0).trans (low t5 (by simpa using hlb) (Nat.le_trans hn0 T4.size))
        clear h4 hE4 hE5 t5 hTkh y1 y2 y3 y4 r4 q4 D4
        have f0 := r5.frozen 0
        have c0 : w5.cell? ⟨w1.heap.size, 0, none⟩ = some (.bool false) := r5.cell 0
        have f1 := r5.frozen 1
        have c1 : w5.cell? ⟨w1.heap.size, 1, none⟩ = some (.int .i64 0) := r5.cell 1
        have f2 := r5.frozen 2
        have c2 : w5.cell? ⟨w1.heap.size, 2, none⟩ = some (.int .u64 0) := r5.cell 2
        have f3 := r5.frozen 3
        have c3 : w5.cell? ⟨w1.heap.size, 3, none⟩ = some (.bool false) := r5.cell 3
        refine flo2_alone _ rfl ?_
        go_wp2_with fail
        refine ⟨by simp, _, fun _ _ h => h, ?_⟩
        refine flo2_end ?_
        go_wp2_with fail
        go_meet
        have tt := (((((Turns.refl [w1.heap.size] w5).setCell (p := ⟨w1.heap.size, 0, none⟩) (by simp) (.bool f.s)).setCell (p := ⟨w1.heap.size, 1, none⟩) (by simp) (.int .i64 f.g)).setCell (p := ⟨w1.heap.size, 2, none⟩) (by simp) (.int .u64 f.t)).setCell (p := ⟨w1.heap.size, 3, none⟩) (by simp) (.bool f.won))
        have rr := ((((r5.set 0 (.bool f.s)).set 1 (.int .i64 f.g)).set 2 (.int .u64 f.t)).set 3 (.bool f.won))
        have hn2 : n0 ≤ w1.heap.size := by omega
        exact ⟨f, e', h5.away hlt1 tt, hGh.out, rr, B5.trans (low (n := n0) tt (by simpa using hn2) (Nat.le_trans hn0 B5.size))⟩
  case rest =>
    obtain ⟨f, e', hH, hG, hr, hB⟩ := hcut
    obtain ⟨s, g, t, wn⟩ := f
    have hrl : w1.heap.size < wc.heap.size := hr.lt
    have hGh : Hid _ := hG
    have hn2 : n0 ≤ w1.heap.size := by omega
    clear h2 r2 a2 T2 ip ipW hG
    have hr' : Blk wc w1.heap.size #[.bool s, .int .i64 g, .int .u64 t, .bool wn] 77 := hr
    clear hr
    have j0 : wc.cell? ⟨w1.heap.size, 0, none⟩ = some (.bool s) := hr'.cell 0
    have j3 : wc.cell? ⟨w1.heap.size, 3, none⟩ = some (.bool wn) := hr'.cell 3
    cases s with
    | true =>
      have d2 : wc.drew.cell? ⟨h, 2, none⟩ = some (.slice Af fs.length cf) := hH.hb.cell 2
      have rd : Blk wc.drew w1.heap.size #[.bool true, .int .i64 g, .int .u64 t, .bool wn] 77 := hr'
      have x0 : wc.drew.cell? ⟨w1.heap.size, 0, none⟩ = some (.bool true) := rd.cell 0
      have x1 : wc.drew.cell? ⟨w1.heap.size, 1, none⟩ = some (.int .i64 g) := rd.cell 1
      have x2 : wc.drew.cell? ⟨w1.heap.size, 2, none⟩ = some (.int .u64 t) := rd.cell 2
      have x3 : wc.drew.cell? ⟨w1.heap.size, 3, none⟩ = some (.bool wn) := rd.cell 3
      have hHd := hH.turns ((Turns.refl [] wc).drew)
      have hBd := hB.drew
      go_wp2_with fail
      refine wp_region_flo2 [(0, true, [6, 7]), (1, true, [6, 7]), (2, true, [6, 7]), (3, true, [6, 7]), (4, true, [6]), (5, true, [7]), (6, false, []), (7, false, []), (8, true, [10]), (9, true, []), (10, false, [])] (fun j W => j < 10 → Kq W h w1.heap.size (.slice Af fs.length cf) true g t wn) (by kernel_rfl) rfl (by kernel_rfl) (by intro c d v a w h; cases d <;> first | (simpa [Exit.then, Exit.inBlock, Act.put] using h) | exact h) ?_
      clear hH hr' hB j0 j3
      generalize wc.drew = w3 at *
      first
        | (refine flo2_read _ rfl (fun _ => True) trivial (fun _ _ _ _ => trivial) (fun K hK => ?_); go_simp; first | (refine hK _ ?_) | (refine ⟨fun W _ => ?_, hK _ ?_⟩; · (go_simp)) | (refine ⟨fun W => ?_, hK _ ?_⟩; · (go_simp)))
        | (refine flo2_read _ rfl (fun W => W = _) rfl (by simp) (fun K hK => ?_); go_simp; first | (refine hK _ ?_) | (refine ⟨fun W hS => ?_, hK _ ?_⟩; · (subst hS; go_simp)) | (refine ⟨?_, hK _ ?_⟩; · (go_simp)))
      clear hK K
      first
        | (refine flo2_read _ rfl (fun _ => True) trivial (fun _ _ _ _ => trivial) (fun K hK => ?_); go_simp; first | (refine hK _ ?_) | (refine ⟨fun W _ => ?_, hK _ ?_⟩; · (go_simp)) | (refine ⟨fun W => ?_, hK _ ?_⟩; · (go_simp)))
        | (refine flo2_read _ rfl (fun W => W = _) rfl (by simp) (fun K hK => ?_); go_simp; first | (refine hK _ ?_) | (refine ⟨fun W hS => ?_, hK _ ?_⟩; · (subst hS; go_simp)) | (refine ⟨?_, hK _ ?_⟩; · (go_simp)))
      clear hK K
      first
        | (refine flo2_read _ rfl (fun _ => True) trivial (fun _ _ _ _ => trivial) (fun K hK => ?_); go_simp; first | (refine hK _ ?_) | (refine ⟨fun W _ => ?_, hK _ ?_⟩; · (go_simp)) | (refine ⟨fun W => ?_, hK _ ?_⟩; · (go_simp)))
        | (refine flo2_read _ rfl (fun W => W = _) rfl (by simp) (fun K hK => ?_); go_simp; first | (refine hK _ ?_) | (refine ⟨fun W hS => ?_, hK _ ?_⟩; · (subst hS; go_simp)) | (refine ⟨?_, hK _ ?_⟩; · (go_simp)))
      clear hK K
      first
        | (refine flo2_read _ rfl (fun _ => True) trivial (fun _ _ _ _ => trivial) (fun K hK => ?_); go_simp; first | (refine hK _ ?_) | (refine ⟨fun W _ => ?_, hK _ ?_⟩; · (go_simp)) | (refine ⟨fun W => ?_, hK _ ?_⟩; · (go_simp)))
        | (refine flo2_read _ rfl (fun W => W = _) rfl (by simp) (fun K hK => ?_); go_simp; first | (refine hK _ ?_) | (refine ⟨fun W hS => ?_, hK _ ?_⟩; · (subst hS; go_simp)) | (refine ⟨?_, hK _ ?_⟩; · (go_simp)))
      clear hK K
      refine flo2_read _ rfl (fun W => Kq W h w1.heap.size (.slice Af fs.length cf) true g t wn) (⟨d2, x0, x1, x2, x3⟩) (fun j hj W k => k (by simp at hj; omega)) (fun K hK => ?_)
      go_simp
      first | (refine hK _ ?_) | (refine ⟨fun W hS => ?_, hK _ ?_⟩; · (have x0 := hS.a; try go_simp))
      clear hK K
      refine flo2_read _ rfl (fun W => Kq W h w1.heap.size (.slice Af fs.length cf) true g t wn) (⟨d2, x0, x1, x2, x3⟩) (fun j hj W k => k (by simp at hj; omega)) (fun K hK => ?_)
      go_simp
      first | (refine hK _ ?_) | (refine ⟨fun W hS => ?_, hK _ ?_⟩; · (have q0 := hS.b0; have q1 := hS.b1; have q2 := hS.b2; have q3 := hS.b3; try go_simp))
      clear hK K
      clear d2 x0 x1 x2 x3
      have A4 := (Turns.refl [] w3).alloc (.cells #[.bool true, .int .i64 g, .int .u64 t, .bool wn] 77)
      have h4 := hHd.turns A4
      have r4 := rd.turns A4 (by simp)
      have R4 : RdS 4 (w3.alloc (.cells #[.bool true, .int .i64 g, .int .u64 t, .bool wn] 77)) (.slice (some ⟨w3.heap.size, 0, none⟩) 1 1) (frs [⟨true, g, t, wn⟩]) := RdS.of_cells (rows := frs [⟨true, g, t, wn⟩]) (heap_alloc w3 (.cells #[.bool true, .int .i64 g, .int .u64 t, .bool wn] 77)).1 rfl (by simp [frs, Fr.cells]) 1 (by simp) (by decide)
      have B4 := hBd.alloc (Nat.le_trans hn0 hBd.size) (.cells #[.bool true, .int .i64 g, .int .u64 t, .bool wn] 77)
      have R4h : Hid _ := R4
      clear hHd rd hBd A4 R4
      refine flo2_alone _ rfl ?_
      go_wp2_with fail
      refine ⟨fun _ => ⟨h4.hb.cell 2, r4.cell 0, r4.cell 1, r4.cell 2, r4.cell 3⟩, _, fun _ _ h => h, ?_⟩
      generalize hw4 : w3.alloc (.cells #[.bool true, .int .i64 g, .int .u64 t, .bool wn] 77) = w4 at *
      clear hw4
      have hfne : ∀ j, (Value.slice Af fs.length cf).ownBlock = some j → j ≠ h := fun j hj => h4.hf.ne_blk hj h4.hb (by decide)
      have hfr : ∀ j, (Value.slice Af fs.length cf).ownBlock = some j → j ≠ w1.heap.size := fun j hj => by have := hlt1.f j hj; omega
      refine flo2_alone _ rfl ?_
      refine wp_append h4.hf R4h.out rfl _ _ _ rfl (.agg #[.bool false, .int .i64 0, .int .u64 0, .bool false]) 32 Try.underlying85 infoR rfl (by decide) rfl rfl (frs_one _) (by simp; omega) (by simp; omega) ?_
      intro v5 w5 ho5 t5 hloc hnil
      have hap : frs fs ++ frs [(⟨true, g, t, wn⟩ : Fr)] = frs (fs ++ [⟨true, g, t, wn⟩]) := by unfold frs; rw [List.map_append]
      rw [hap] at ho5
      obtain ⟨A5, c5, hv5, _⟩ := ho5.form
      rw [frs_len, List.length_append, List.length_singleton] at hv5
      subst hv5
      have hb5 := h4.hb.turns t5 (by simpa using fun hm => hfne h hm rfl)
      have r5 := r4.turns t5 (by simpa using fun hm => hfr _ hm rfl)
      have B5 := B4.trans (low (n := n0) t5 (fun j hj => h4.lf j (by simpa using hj)) (Nat.le_trans hn0 B4.size))
      have hk5 : ∀ (i2 b2 : Nat) (e2 : El), bs[i2]? = some b2 → (es.set i e')[i2]? = some e2 → IsE 159 w5 b2 e2 := fun i2 b2 e2 q1 q2 => by
        have hE := h4.he i2 b2 e2 q1 q2
        exact Blk.turns hE t5 (by simpa using fun hm => (h4.hf.ne_blk hm hE (by decide)) rfl)
      have ol5 : OwnS 65 1 w5 (.slice (some ad) n cl) (ptrs bs) := h4.hl.turns t5 (fun j hj hm => by
        obtain ⟨cc, hcc⟩ := h4.hl.typed hj
        exact h4.hf.ne_blk (k := j) (by simpa using hm) hcc (by decide) rfl)
      have ow5 : OwnS 3 1 w5 (.slice Aw ws.length cw) (ins ws) := h4.hw.turns t5 (fun j hj hm => by
        obtain ⟨cc, hcc⟩ := h4.hw.typed hj
        exact h4.hf.ne_blk (k := j) (by simpa using hm) hcc (by decide) rfl)
      have lf5 : ∀ k, (Value.slice A5 (fs.length + 1) c5).ownBlock = some k → n0 ≤ k := fun k hk => by
        rcases hloc with q | q
        · exact h4.lf k (q ▸ hk)
        · rw [hk] at q; injection q with q; have := Nat.le_trans hn0 B4.size; omega
      go_wp2_with fail
      refine ⟨fun _ => ⟨hb5.cell 2, r5.cell 0, r5.cell 1, r5.cell 2, r5.cell 3⟩, _, fun _ _ h => h, ?_⟩
      first
        | (refine flo2_read _ rfl (fun _ => True) trivial (fun _ _ _ _ => trivial) (fun K hK => ?_); go_simp; first | (refine hK _ ?_) | (refine ⟨fun W _ => ?_, hK _ ?_⟩; · (go_simp)) | (refine ⟨fun W => ?_, hK _ ?_⟩; · (go_simp)))
        | (refine flo2_read _ rfl (fun W => W = _) rfl (by simp) (fun K hK => ?_); go_simp; first | (refine hK _ ?_) | (refine ⟨fun W hS => ?_, hK _ ?_⟩; · (subst hS; go_simp)) | (refine ⟨?_, hK _ ?_⟩; · (go_simp)))
      clear hK K
      first
        | (refine flo2_read _ rfl (fun _ => True) trivial (fun _ _ _ _ => trivial) (fun K hK => ?_); go_simp; first | (refine hK _ ?_) | (refine ⟨fun W _ => ?_, hK _ ?_⟩; · (go_simp)) | (refine ⟨fun W => ?_, hK _ ?_⟩; · (go_simp)))
        | (refine flo2_read _ rfl (fun W => W = _) rfl (by simp) (fun K hK => ?_); go_simp; first | (refine hK _ ?_) | (refine ⟨fun W hS => ?_, hK _ ?_⟩; · (subst hS; go_simp)) | (refine ⟨?_, hK _ ?_⟩; · (go_simp)))
      clear hK K
      have f2 := hb5.frozen 2
      have v2 : w5.cell? ⟨h, 2, none⟩ = some _ := hb5.cell 2
      have hne5 : ∀ j, (Value.slice A5 (fs.length + 1) c5).ownBlock = some j → j ≠ h := fun j hj => ho5.ne_blk hj hb5 (by decide)
      have ts : Turns [h] w5 (w5.setCell ⟨h, 2, none⟩ (.slice A5 (fs.length + 1) c5)) := (Turns.refl [h] w5).setCell (p := ⟨h, 2, none⟩) (by simp) _
      have h6 : Hl n0 (w5.setCell ⟨h, 2, none⟩ (.slice A5 (fs.length + 1) c5)) h n (.slice (some ad) n cl) (.slice A5 (fs.length + 1) c5) (.slice Aw ws.length cw) bs (es.set i e') (fs ++ [⟨true, g, t, wn⟩]) ws :=
        ⟨hb5.set 2 _, ol5.turns ts (fun j hj => by simpa using ol5.ne_blk hj hb5 (by decide)), ho5.turns ts (fun j hj => by simpa using hne5 j hj), ow5.turns ts (fun j hj => by simpa using ow5.ne_blk hj hb5 (by decide)),
          fun i2 b2 e2 q1 q2 => Blk.turns (hk5 i2 b2 e2 q1 q2) ts (by simpa using (Blk.ne hb5 (hk5 i2 b2 e2 q1 q2) (by decide)).symm), h4.len, h4.nd, h4.low, h4.ll, lf5, h4.lw, h4.lb⟩
      have r6 := r5.far (p := ⟨h, 2, none⟩) (by have := Blk.ne hb5 r5 (by decide); exact fun q => this q.symm) (.slice A5 (fs.length + 1) c5)
      have B6 := B5.trans (low (n := n0) ts (by simpa using h4.low) (Nat.le_trans hn0 B5.size))
      refine flo2_alone _ rfl ?_
      go_wp2_with fail
      refine ⟨by simp, _, fun _ _ h => h, ?_⟩
      clear v2 f2 ts hk5 ol5 ow5 lf5 ho5 hb5 r5 B5 t5 hloc hnil hfne hfr h4 r4 B4 R4h hne5 hap
      generalize w5.setCell ⟨h, 2, none⟩ (.slice A5 (fs.length + 1) c5) = w10 at *
      refine flo2_end ?_
      have h5 := h6
      have r5 := r6
      have B5 := B6
      clear h6 r6 B6
      have hI5 : Hold n (es.set i e') (fs ++ [⟨true, g, t, wn⟩]) ws := hGh.out.inv
      have hI6 : wn = true → Hold n (es.set i e') (fs ++ [⟨true, g, t, wn⟩]) (ws ++ [g]) := hGh.out.w4
      have hIh2 : Hid (Hold n (es.set i e') (fs ++ [⟨true, g, t, wn⟩]) ws) := hI5
      have w1h : Hid (wn = true → g ∉ ws) := hGh.out.w1
      have w2h : Hid (wn = true → g % (n : Int) = i) := hGh.out.w2
      have w3h : Hid (wn = true → n / 2 + 1 ≤ cnt g (es.set i e')) := hGh.out.w3
      have w4h : Hid (wn = true → Hold n (es.set i e') (fs ++ [⟨true, g, t, wn⟩]) (ws ++ [g])) := hI6
      clear hI5 hI6 hGh
      have j3 : w10.cell? ⟨w1.heap.size, 3, none⟩ = some (.bool wn) := r5.cell 3
      have j1 : w10.cell? ⟨w1.heap.size, 1, none⟩ = some (.int .i64 g) := r5.cell 1
      have hr5 : w1.heap.size < w10.heap.size := r5.lt
      cases wn with
      | false =>
        have h5h : Hid _ := h5
        clear h5 r5 j1
        go_wp2_with fail
        go_ret
        exact ⟨rfl, B5, _, _, _, _, _, _, _, h5h.out, hIh2.out, by simp, by omega⟩
      | true =>
        have hgn := w1h.out rfl
        have hI7 := w4h.out rfl
        have hg1 : 1 ≤ g := (hI7.wn g (by simp)).1
        have hmod := w2h.out rfl
        have hcnt := w3h.out rfl
        have hgt : g.tmod (n : Int) = (i : Int) := by rw [Int.tmod_eq_emod_of_nonneg (by omega)]; exact hmod
        have hgnh : Hid _ := hgn
        have hI7h : Hid _ := hI7
        have hcnth : Hid _ := hcnt
        have d3 : w10.cell? ⟨h, 3, none⟩ = some (.slice Aw ws.length cw) := h5.hb.cell 3
        clear hgn hI7 hmod hcnt w1h w2h w3h w4h hIh2
        go_wp2_with fail
        go_loopw [10] (fun v10 wr => ∃ (k : Nat), k ≤ ws.length ∧ v10 = .int .i64 k ∧ Turns [] w10 wr) (fun v10 _ => ws.length - (intOf v10).toNat)
        case atStart => exact ⟨0, Nat.zero_le _, rfl, Turns.refl _ _⟩
        case round =>
          obtain ⟨k, hk, rfl, T6⟩ := hrel
          have y3 := T6.old d3
          by_cases hlt : k < ws.length
          · have q1 : decide ((k : Int) < (ws.length : Int)) = true := by simp; omega
            obtain ⟨z, hz⟩ : ∃ z, ws[k]? = some z := ⟨_, List.getElem?_eq_getElem hlt⟩
            have hzg : (z == g) = false := by
              have : z ≠ g := fun h0 => hgnh.out (h0 ▸ List.mem_of_getElem? hz)
              simpa using this
            obtain ⟨az, c2, hvz, _, hcz⟩ := (h5.hw.turns T6 (by simp)).reads.at_ (j := k) (r := [.int .i64 z]) (by unfold ins; rw [List.getElem?_map, hz]; rfl)
            rw [ins_len] at hvz
            injection hvz with p1 p2 p3
            subst p1 p3
            clear p2
            have z0 : wr.drew.cell? _ = _ := hcz 0 _ rfl
            rw [Nat.mul_one, Nat.add_zero] at z0
            have yd3 : wr.drew.cell? ⟨h, 3, none⟩ = some _ := y3
            have jd1 : wr.drew.cell? ⟨w1.heap.size, 1, none⟩ = some (.int .i64 g) := T6.old j1
            have T7 := T6.drew
            clear hz hcz T6
            go_wp2_with fail
            refine wp_region_flo [(0, true), (1, true), (2, true), (3, true), (4, true), (5, true), (6, true), (7, true), (8, true), (9, true)] (fun W => W = _) (by kernel_rfl) rfl (by kernel_rfl) (by intro c d v a w h; cases d <;> first | (simpa [Exit.then, Exit.inBlock, Act.put] using h) | exact h) (rfl) ?_
            refine flo_read _ rfl (fun K hK => ?_)
            go_simp
            first | (refine hK _ ?_) | (refine ⟨fun W hS => ?_, hK _ ?_⟩; · (subst hS; try go_simp))
            clear hK K
            refine flo_read _ rfl (fun K hK => ?_)
            go_simp
            first | (refine hK _ ?_) | (refine ⟨fun W hS => ?_, hK _ ?_⟩; · (subst hS; try go_simp))
            clear hK K
            refine flo_read _ rfl (fun K hK => ?_)
            go_simp
            first | (refine hK _ ?_) | (refine ⟨fun W hS => ?_, hK _ ?_⟩; · (subst hS; try go_simp))
            clear hK K
            refine flo_read _ rfl (fun K hK => ?_)
            go_simp
            first | (refine hK _ ?_) | (refine ⟨fun W hS => ?_, hK _ ?_⟩; · (subst hS; try go_simp))
            clear hK K
            refine flo_read _ rfl (fun K hK => ?_)
            go_simp
            first | (refine hK _ ?_) | (refine ⟨fun W hS => ?_, hK _ ?_⟩; · (subst hS; try go_simp))
            clear hK K
            refine flo_read _ rfl (fun K hK => ?_)
            go_simp
            first | (refine hK _ ?_) | (refine ⟨fun W hS => ?_, hK _ ?_⟩; · (subst hS; try go_simp))
            clear hK K
            refine flo_read _ rfl (fun K hK => ?_)
            go_simp
            first | (refine hK _ ?_) | (refine ⟨fun W hS => ?_, hK _ ?_⟩; · (subst hS; try go_simp))
            clear hK K
            refine flo_read _ rfl (fun K hK => ?_)
            go_simp
            first | (refine hK _ ?_) | (refine ⟨fun W hS => ?_, hK _ ?_⟩; · (subst hS; try go_simp))
            clear hK K
            refine flo_read _ rfl (fun K hK => ?_)
            go_simp
            first | (refine hK _ ?_) | (refine ⟨fun W hS => ?_, hK _ ?_⟩; · (subst hS; try go_simp))
            clear hK K
            refine flo_read _ rfl (fun K hK => ?_)
            go_simp
            first | (refine hK _ ?_) | (refine ⟨fun W hS => ?_, hK _ ?_⟩; · (subst hS; try go_simp))
            clear hK K
            refine flo_end ?_
            go_wp2_with fail
            go_roundw
            case rel => exact ⟨k + 1, by omega, by go_num, T7⟩
            case measure => simp [intOf]; omega
          · obtain rfl : k = ws.length := by omega
            have q1 : decide ((ws.length : Int) < (ws.length : Int)) = false := by simp
            have h6 := (h5.turns T6).turns ((Turns.refl [] wr).drew)
            have r6 := (r5.turns T6 (by simp)).drew
            have B6 : Below n0 w wr.drew := (B5.trans (low (n := n0) T6 (by simp) (Nat.le_trans hn0 B5.size))).drew
            have v3 : wr.drew.cell? ⟨h, 3, none⟩ = some (.slice Aw ws.length cw) := h6.hb.cell 3
            have v1 : wr.drew.cell? ⟨w1.heap.size, 1, none⟩ = some (.int .i64 g) := r6.cell 1
            clear h5 r5 B5 d3 j1 j3 hr5
            go_wp2_with fail
            refine wp_region_flo2 [(0, true, [7, 8]), (1, true, [7, 8]), (2, true, [7, 8]), (3, true, [7, 8]), (4, true, [7]), (5, true, [7, 8]), (6, true, [8]), (7, false, []), (8, false, []), (9, true, [11]), (10, true, []), (11, false, [])] (fun j W => j < 11 → Kr2 W h w1.heap.size (.slice Aw ws.length cw) g) (by kernel_rfl) rfl (by kernel_rfl) (by intro c d v a w h; cases d <;> first | (simpa [Exit.then, Exit.inBlock, Act.put] using h) | exact h) ?_
            clear T6 y3
            generalize wr.drew = w6 at *
            first
              | (refine flo2_read _ rfl (fun _ => True) trivial (fun _ _ _ _ => trivial) (fun K hK => ?_); go_simp; first | (refine hK _ ?_) | (refine ⟨fun W _ => ?_, hK _ ?_⟩; · (go_simp)) | (refine ⟨fun W => ?_, hK _ ?_⟩; · (go_simp)))
              | (refine flo2_read _ rfl (fun W => W = _) rfl (by simp) (fun K hK => ?_); go_simp; first | (refine hK _ ?_) | (refine ⟨fun W hS => ?_, hK _ ?_⟩; · (subst hS; go_simp)) | (refine ⟨?_, hK _ ?_⟩; · (go_simp)))
            clear hK K
            first
              | (refine flo2_read _ rfl (fun _ => True) trivial (fun _ _ _ _ => trivial) (fun K hK => ?_); go_simp; first | (refine hK _ ?_) | (refine ⟨fun W _ => ?_, hK _ ?_⟩; · (go_simp)) | (refine ⟨fun W => ?_, hK _ ?_⟩; · (go_simp)))
              | (refine flo2_read _ rfl (fun W => W = _) rfl (by simp) (fun K hK => ?_); go_simp; first | (refine hK _ ?_) | (refine ⟨fun W hS => ?_, hK _ ?_⟩; · (subst hS; go_simp)) | (refine ⟨?_, hK _ ?_⟩; · (go_simp)))
            clear hK K
            first
              | (refine flo2_read _ rfl (fun _ => True) trivial (fun _ _ _ _ => trivial) (fun K hK => ?_); go_simp; first | (refine hK _ ?_) | (refine ⟨fun W _ => ?_, hK _ ?_⟩; · (go_simp)) | (refine ⟨fun W => ?_, hK _ ?_⟩; · (go_simp)))
              | (refine flo2_read _ rfl (fun W => W = _) rfl (by simp) (fun K hK => ?_); go_simp; first | (refine hK _ ?_) | (refine ⟨fun W hS => ?_, hK _ ?_⟩; · (subst hS; go_simp)) | (refine ⟨?_, hK _ ?_⟩; · (go_simp)))
            clear hK K
            first
              | (refine flo2_read _ rfl (fun _ => True) trivial (fun _ _ _ _ => trivial) (fun K hK => ?_); go_simp; first | (refine hK _ ?_) | (refine ⟨fun W _ => ?_, hK _ ?_⟩; · (go_simp)) | (refine ⟨fun W => ?_, hK _ ?_⟩; · (go_simp)))
              | (refine flo2_read _ rfl (fun W => W = _) rfl (by simp) (fun K hK => ?_); go_simp; first | (refine hK _ ?_) | (refine ⟨fun W hS => ?_, hK _ ?_⟩; · (subst hS; go_simp)) | (refine ⟨?_, hK _ ?_⟩; · (go_simp)))
            clear hK K
            refine flo2_read _ rfl (fun W => Kr2 W h w1.heap.size (.slice Aw ws.length cw) g) (⟨v3, v1⟩) (fun j hj W k => k (by simp at hj; omega)) (fun K hK => ?_)
            go_simp
            first | (refine hK _ ?_) | (refine ⟨fun W hS => ?_, hK _ ?_⟩; · (have x0 := hS.a; try go_simp))
            clear hK K
            first
              | (refine flo2_read _ rfl (fun _ => True) trivial (fun _ _ _ _ => trivial) (fun K hK => ?_); go_simp; first | (refine hK _ ?_) | (refine ⟨fun W _ => ?_, hK _ ?_⟩; · (go_simp)) | (refine ⟨fun W => ?_, hK _ ?_⟩; · (go_simp)))
              | (refine flo2_read _ rfl (fun W => W = _) rfl (by simp) (fun K hK => ?_); go_simp; first | (refine hK _ ?_) | (refine ⟨fun W hS => ?_, hK _ ?_⟩; · (subst hS; go_simp)) | (refine ⟨?_, hK _ ?_⟩; · (go_simp)))
            clear hK K
            refine flo2_read _ rfl (fun W => Kr2 W h w1.heap.size (.slice Aw ws.length cw) g) (⟨v3, v1⟩) (fun j hj W k => k (by simp at hj; omega)) (fun K hK => ?_)
            go_simp
            first | (refine hK _ ?_) | (refine ⟨fun W hS => ?_, hK _ ?_⟩; · (have x0 := hS.b; try go_simp))
            clear hK K
            clear v3 v1
            have A7 := (Turns.refl [] w6).alloc (.cells #[.int .i64 g] 3)
            have h7 := h6.turns A7
            have r7 := r6.turns A7 (by simp)
            have R7 : RdS 1 (w6.alloc (.cells #[.int .i64 g] 3)) (.slice (some ⟨w6.heap.size, 0, none⟩) 1 1) (ins [g]) := RdS.of_cells (rows := ins [g]) (heap_alloc w6 (.cells #[.int .i64 g] 3)).1 rfl (by simp [ins]) 1 (by simp [ins]) (by decide)
            have B7 := B6.alloc (Nat.le_trans hn0 B6.size) (.cells #[.int .i64 g] 3)
            have R7h : Hid _ := R7
            clear h6 r6 A7 B6 R7
            refine flo2_alone _ rfl ?_
            go_wp2_with fail
            refine ⟨fun _ => ⟨h7.hb.cell 3, r7.cell 1⟩, _, fun _ _ h => h, ?_⟩
            generalize hw7 : w6.alloc (.cells #[.int .i64 g] 3) = w7 at *
            clear hw7
            have hlt7 := h7.lts
            have hwne : ∀ j, (Value.slice Aw ws.length cw).ownBlock = some j → j ≠ h := fun j hj => h7.hw.ne_blk hj h7.hb (by decide)
            have hwne2 : ∀ j, (Value.slice Aw ws.length cw).ownBlock = some j → j ≠ w1.heap.size := fun j hj => h7.hw.ne_blk hj r7 (by decide)
            refine flo2_alone _ rfl ?_
            refine wp_append h7.hw R7h.out rfl _ _ _ rfl (.int .i64 0) 8 Try.underlying22 infoI rfl (by decide) rfl rfl (ins_one _) (by simp; omega) (by simp; omega) ?_
            intro v8 w8 ho8 t8 hloc hnil
            obtain ⟨A8, c8, hv8, _⟩ := ho8.form
            rw [← ins_append] at ho8 hv8
            rw [ins_len, List.length_append, List.length_singleton] at hv8
            subst hv8
            have hb8 := h7.hb.turns t8 (by simpa using fun hm => hwne h hm rfl)
            have r8 := r7.turns t8 (by simpa using fun hm => hwne2 _ hm rfl)
            have B8 := B7.trans (low (n := n0) t8 (fun j hj => h7.lw j (by simpa using hj)) (Nat.le_trans hn0 B7.size))
            have hk8 : ∀ (bs2 : List Nat) (i2 b2 : Nat) (e2 : El), bs[i2]? = some b2 → (es.set i e')[i2]? = some e2 → IsE 159 w8 b2 e2 := fun _ i2 b2 e2 q1 q2 => by
              have hE := h7.he i2 b2 e2 q1 q2
              exact Blk.turns hE t8 (by simpa using fun hm => (h7.hw.ne_blk hm hE (by decide)) rfl)
            have ol8 : OwnS 65 1 w8 (.slice (some ad) n cl) (ptrs bs) := h7.hl.turns t8 (fun j hj hm => by
              obtain ⟨cc, hcc⟩ := h7.hl.typed hj
              exact h7.hw.ne_blk (k := j) (by simpa using hm) hcc (by decide) rfl)
            have of8 : OwnS 77 4 w8 (.slice A5 (fs.length + 1) c5) (frs (fs ++ [⟨true, g, t, true⟩])) := h7.hf.turns t8 (fun j hj hm => by
              obtain ⟨cc, hcc⟩ := h7.hf.typed hj
              exact h7.hw.ne_blk (k := j) (by simpa using hm) hcc (by decide) rfl)
            have lw8 : ∀ k, (Value.slice A8 (ws.length + 1) c8).ownBlock = some k → n0 ≤ k := fun k hk => by
              rcases hloc with q | q
              · exact h7.lw k (q ▸ hk)
              · rw [hk] at q; injection q with q; have := Nat.le_trans hn0 B7.size; omega
            go_wp2_with fail
            refine ⟨fun _ => ⟨hb8.cell 3, r8.cell 1⟩, _, fun _ _ h => h, ?_⟩
            first
              | (refine flo2_read _ rfl (fun _ => True) trivial (fun _ _ _ _ => trivial) (fun K hK => ?_); go_simp; first | (refine hK _ ?_) | (refine ⟨fun W _ => ?_, hK _ ?_⟩; · (go_simp)) | (refine ⟨fun W => ?_, hK _ ?_⟩; · (go_simp)))
              | (refine flo2_read _ rfl (fun W => W = _) rfl (by simp) (fun K hK => ?_); go_simp; first | (refine hK _ ?_) | (refine ⟨fun W hS => ?_, hK _ ?_⟩; · (subst hS; go_simp)) | (refine ⟨?_, hK _ ?_⟩; · (go_simp)))
            clear hK K
            first
              | (refine flo2_read _ rfl (fun _ => True) trivial (fun _ _ _ _ => trivial) (fun K hK => ?_); go_simp; first | (refine hK _ ?_) | (refine ⟨fun W _ => ?_, hK _ ?_⟩; · (go_simp)) | (refine ⟨fun W => ?_, hK _ ?_⟩; · (go_simp)))
              | (refine flo2_read _ rfl (fun W => W = _) rfl (by simp) (fun K hK => ?_); go_simp; first | (refine hK _ ?_) | (refine ⟨fun W hS => ?_, hK _ ?_⟩; · (subst hS; go_simp)) | (refine ⟨?_, hK _ ?_⟩; · (go_simp)))
            clear hK K
            have f3 := hb8.frozen 3
            have v3 : w8.cell? ⟨h, 3, none⟩ = some _ := hb8.cell 3
            have hne8 : ∀ j, (Value.slice A8 (ws.length + 1) c8).ownBlock = some j → j ≠ h := fun j hj => ho8.ne_blk hj hb8 (by decide)
            have ts : Turns [h] w8 (w8.setCell ⟨h, 3, none⟩ (.slice A8 (ws.length + 1) c8)) := (Turns.refl [h] w8).setCell (p := ⟨h, 3, none⟩) (by simp) _
            have h9 : Hl n0 (w8.setCell ⟨h, 3, none⟩ (.slice A8 (ws.length + 1) c8)) h n (.slice (some ad) n cl) (.slice A5 (fs.length + 1) c5) (.slice A8 (ws.length + 1) c8) bs (es.set i e') (fs ++ [⟨true, g, t, true⟩]) (ws ++ [g]) :=
              ⟨hb8.set 3 _, ol8.turns ts (fun j hj => by simpa using ol8.ne_blk hj hb8 (by decide)), of8.turns ts (fun j hj => by simpa using of8.ne_blk hj hb8 (by decide)), ho8.turns ts (fun j hj => by simpa using hne8 j hj),
                fun i2 b2 e2 q1 q2 => Blk.turns (hk8 bs i2 b2 e2 q1 q2) ts (by simpa using (Blk.ne hb8 (hk8 bs i2 b2 e2 q1 q2) (by decide)).symm), h7.len, h7.nd, h7.low, h7.ll, h7.lf, lw8, h7.lb⟩
            have r9 := r8.far (p := ⟨h, 3, none⟩) (by have := hlt7.h; have := Blk.ne hb8 r8 (by decide); exact fun q => this q.symm) (.slice A8 (ws.length + 1) c8)
            have B9 := B8.trans (low (n := n0) ts (by simpa using h7.low) (Nat.le_trans hn0 B8.size))
            refine flo2_alone _ rfl ?_
            go_wp2_with fail
            refine ⟨by simp, _, fun _ _ h => h, ?_⟩
            clear v3 f3 ts hk8 ol8 of8 lw8 ho8 hb8 r8 B8 t8 hloc hnil hwne hwne2 hlt7 h7 r7 B7 R7h hne8
            generalize w8.setCell ⟨h, 3, none⟩ (.slice A8 (ws.length + 1) c8) = w9 at *
            refine flo2_end ?_
            have n9 : w9.cell? ⟨h, 0, none⟩ = some (.int .i64 n) := h9.hb.cell 0
            have l9 : w9.cell? ⟨h, 1, none⟩ = some (.slice (some ad) n cl) := h9.hb.cell 1
            have g9 : w9.cell? ⟨w1.heap.size, 1, none⟩ = some (.int .i64 g) := r9.cell 1
            have hlen9 : (es.set i e').length = n := by rw [← h9.len, hblh.out]
            go_wp2_with fail
            go_loopw [11, 12] (fun v11 v12 wr => ∃ (k : Nat), k ≤ n ∧ v12 = .int .i64 k ∧ v11 = .int .i64 (cnt g ((es.set i e').take k)) ∧ cnt g ((es.set i e').take k) ≤ k ∧ Turns [] w9 wr) (fun _ v12 _ => n - (intOf v12).toNat)
            case atStart => exact ⟨0, Nat.zero_le _, rfl, rfl, by simp [cnt], Turns.refl _ _⟩
            case round =>
              obtain ⟨k, hk, rfl, rfl, hck, Tk⟩ := hrel
              have n10 := Tk.old n9
              by_cases hlt : k < n
              · have q2 : decide ((k : Int) < (n : Int)) = true := by simp; omega
                obtain ⟨ek, hek⟩ : ∃ ek, (es.set i e')[k]? = some ek := ⟨_, List.getElem?_eq_getElem (by rw [hlen9]; exact hlt)⟩
                obtain ⟨bk, hbk⟩ : ∃ bk, bs[k]? = some bk := ⟨_, List.getElem?_eq_getElem (by rw [hblh.out]; exact hlt)⟩
                have hsn := take_cnt (g := g) hek
                have hk9 := h9.turns Tk
                have hEk := hk9.he k bk ek hbk hek
                obtain ⟨ak, c2, hvk, _, hck2⟩ := hk9.hl.reads.at_ (j := k) (ptrs_at hbk)
                injection hvk with p1 p2 p3
                injection p1 with p1
                subst p1
                clear p2 p3
                have pk : wr.drew.cell? _ = _ := hck2 0 _ rfl
                rw [Nat.mul_one, Nat.add_zero] at pk
                have l10 : wr.drew.cell? ⟨h, 1, none⟩ = some _ := Tk.old l9
                have g10 : wr.drew.cell? ⟨w1.heap.size, 1, none⟩ = some (.int .i64 g) := Tk.old g9
                have Tk2 := Tk.drew
                have hEk2 : IsE 159 wr.drew bk ek := hEk
                have hEkh : Hid _ := hEk2
                clear hk9 hEk hck2 hbk hek Tk hEk2
                obtain ⟨cc, hcc⟩ : ∃ cc, cnt g ((es.set i e').take k) = cc := ⟨_, rfl⟩
                rw [hcc] at hsn hck ⊢
                clear hcc
                by_cases hge : g ≤ ek.P
                · have q3 : decide (ek.P ≥ g) = true := decide_eq_true hge
                  rw [if_pos hge] at hsn
                  have hsnh : Hid _ := hsn
                  clear hge hsn
                  go_wp2_with fail
                  refine wp_region_flo [(0, true), (1, true), (2, true), (3, true), (4, true), (5, true), (6, true), (8, true), (9, true), (7, false), (10, true)] (fun W => Turns [] wr.drew W) (by kernel_rfl) rfl (by kernel_rfl) (by intro c d v a w h; cases d <;> first | (simpa [Exit.then, Exit.inBlock, Act.put] using h) | exact h) (Turns.refl [] _) ?_
                  generalize wr.drew = wk at *
                  refine flo_read _ rfl (fun K hK => ?_)
                  go_simp
                  first | (refine hK _ ?_) | (refine ⟨fun W hS => ?_, hK _ ?_⟩; · (have x0 := hS.old l10; have x1 := hS.old pk; have x2 := hS.old g10; try go_simp))
                  clear hK K
                  refine flo_read _ rfl (fun K hK => ?_)
                  go_simp
                  first | (refine hK _ ?_) | (refine ⟨fun W hS => ?_, hK _ ?_⟩; · (have x0 := hS.old l10; have x1 := hS.old pk; have x2 := hS.old g10; try go_simp))
                  clear hK K
                  refine flo_read _ rfl (fun K hK => ?_)
                  go_simp
                  first | (refine hK _ ?_) | (refine ⟨fun W hS => ?_, hK _ ?_⟩; · (have x0 := hS.old l10; have x1 := hS.old pk; have x2 := hS.old g10; try go_simp))
                  clear hK K
                  refine flo_read _ rfl (fun K hK => ?_)
                  go_simp
                  first | (refine hK _ ?_) | (refine ⟨fun W hS => ?_, hK _ ?_⟩; · (have x0 := hS.old l10; have x1 := hS.old pk; have x2 := hS.old g10; try go_simp))
                  clear hK K
                  refine flo_read _ rfl (fun K hK => ?_)
                  go_simp
                  first | (refine hK _ ?_) | (refine ⟨fun W hS => ?_, hK _ ?_⟩; · (have x0 := hS.old l10; have x1 := hS.old pk; have x2 := hS.old g10; try go_simp))
                  clear hK K
                  refine flo_read _ rfl (fun K hK => ?_)
                  go_simp
                  first | (refine hK _ ?_) | (refine ⟨fun W hS => ?_, hK _ ?_⟩; · (have x0 := hS.old l10; have x1 := hS.old pk; have x2 := hS.old g10; try go_simp))
                  clear hK K
                  refine flo_read _ rfl (fun K hK => ?_)
                  go_simp
                  first | (refine hK _ ?_) | (refine ⟨fun W hS => ?_, hK _ ?_⟩; · (have x0 := hS.old l10; have x1 := hS.old pk; have x2 := hS.old g10; try go_simp))
                  clear hK K
                  refine flo_read _ rfl (fun K hK => ?_)
                  go_simp
                  first | (refine hK _ ?_) | (refine ⟨fun W hS => ?_, hK _ ?_⟩; · (have x0 := hS.old l10; have x1 := hS.old pk; have x2 := hS.old g10; try go_simp))
                  clear hK K
                  refine flo_read _ rfl (fun K hK => ?_)
                  go_simp
                  first | (refine hK _ ?_) | (refine ⟨fun W hS => ?_, hK _ ?_⟩; · (have x0 := hS.old l10; have x1 := hS.old pk; have x2 := hS.old g10; try go_simp))
                  clear hK K
                  refine flo_alone _ rfl ?_
                  go_wp2_with fail
                  go_at_call 41
                  refine Calls.mono (promised_is _ bk ek hEkh.out) ?_
                  rintro e wl ⟨rfl, tl⟩
                  go_wp2_with fail
                  refine ⟨fun W => Turns [] wk W, fun W h => h, tl, ?_⟩
                  refine flo_read _ rfl (fun K hK => ?_)
                  go_simp
                  first | (refine hK _ ?_) | (refine ⟨fun W hS => ?_, hK _ ?_⟩; · (skip; try go_simp))
                  clear hK K
                  refine flo_end ?_
                  go_wp2_with fail
                  go_roundw
                  case rel => exact ⟨k + 1, by omega, by go_num, by rw [hsnh.out]; go_num, by rw [hsnh.out]; omega, Tk2.trans tl⟩
                  case measure => simp [intOf]; omega
                · have q3 : decide (ek.P ≥ g) = false := decide_eq_false hge
                  rw [if_neg hge] at hsn
                  have hsnh : Hid _ := hsn
                  clear hge hsn
                  go_wp2_with fail
                  refine wp_region_flo [(0, true), (1, true), (2, true), (3, true), (4, true), (5, true), (6, true), (8, true), (9, true), (7, false), (10, true)] (fun W => Turns [] wr.drew W) (by kernel_rfl) rfl (by kernel_rfl) (by intro c d v a w h; cases d <;> first | (simpa [Exit.then, Exit.inBlock, Act.put] using h) | exact h) (Turns.refl [] _) ?_
                  generalize wr.drew = wk at *
                  refine flo_read _ rfl (fun K hK => ?_)
                  go_simp
                  first | (refine hK _ ?_) | (refine ⟨fun W hS => ?_, hK _ ?_⟩; · (have x0 := hS.old l10; have x1 := hS.old pk; have x2 := hS.old g10; try go_simp))
                  clear hK K
                  refine flo_read _ rfl (fun K hK => ?_)
                  go_simp
                  first | (refine hK _ ?_) | (refine ⟨fun W hS => ?_, hK _ ?_⟩; · (have x0 := hS.old l10; have x1 := hS.old pk; have x2 := hS.old g10; try go_simp))
                  clear hK K
                  refine flo_read _ rfl (fun K hK => ?_)
                  go_simp
                  first | (refine hK _ ?_) | (refine ⟨fun W hS => ?_, hK _ ?_⟩; · (have x0 := hS.old l10; have x1 := hS.old pk; have x2 := hS.old g10; try go_simp))
                  clear hK K
                  refine flo_read _ rfl (fun K hK => ?_)
                  go_simp
                  first | (refine hK _ ?_) | (refine ⟨fun W hS => ?_, hK _ ?_⟩; · (have x0 := hS.old l10; have x1 := hS.old pk; have x2 := hS.old g10; try go_simp))
                  clear hK K
                  refine flo_read _ rfl (fun K hK => ?_)
                  go_simp
                  first | (refine hK _ ?_) | (refine ⟨fun W hS => ?_, hK _ ?_⟩; · (have x0 := hS.old l10; have x1 := hS.old pk; have x2 := hS.old g10; try go_simp))
                  clear hK K
                  refine flo_read _ rfl (fun K hK => ?_)
                  go_simp
                  first | (refine hK _ ?_) | (refine ⟨fun W hS => ?_, hK _ ?_⟩; · (have x0 := hS.old l10; have x1 := hS.old pk; have x2 := hS.old g10; try go_simp))
                  clear hK K
                  refine flo_read _ rfl (fun K hK => ?_)
                  go_simp
                  first | (refine hK _ ?_) | (refine ⟨fun W hS => ?_, hK _ ?_⟩; · (have x0 := hS.old l10; have x1 := hS.old pk; have x2 := hS.old g10; try go_simp))
                  clear hK K
                  refine flo_read _ rfl (fun K hK => ?_)
                  go_simp
                  first | (refine hK _ ?_) | (refine ⟨fun W hS => ?_, hK _ ?_⟩; · (have x0 := hS.old l10; have x1 := hS.old pk; have x2 := hS.old g10; try go_simp))
                  clear hK K
                  refine flo_read _ rfl (fun K hK => ?_)
                  go_simp
                  first | (refine hK _ ?_) | (refine ⟨fun W hS => ?_, hK _ ?_⟩; · (have x0 := hS.old l10; have x1 := hS.old pk; have x2 := hS.old g10; try go_simp))
                  clear hK K
                  refine flo_alone _ rfl ?_
                  go_wp2_with fail
                  go_at_call 41
                  refine Calls.mono (promised_is _ bk ek hEkh.out) ?_
                  rintro e wl ⟨rfl, tl⟩
                  go_wp2_with fail
                  refine ⟨fun W => Turns [] wk W, fun W h => h, tl, ?_⟩
                  refine flo_read _ rfl (fun K hK => ?_)
                  go_simp
                  first | (refine hK _ ?_) | (refine ⟨fun W hS => ?_, hK _ ?_⟩; · (skip; try go_simp))
                  clear hK K
                  refine flo_end ?_
                  go_wp2_with fail
                  go_roundw
                  case rel => exact ⟨k + 1, by omega, by go_num, by rw [hsnh.out, Nat.add_zero], by rw [hsnh.out]; omega, Tk2.trans tl⟩
                  case measure => simp [intOf]; omega
              · obtain rfl : k = n := by omega
                have q2 : decide ((k : Int) < (k : Int)) = false := by simp
                rw [List.take_of_length_le (by rw [hlen9]; exact Nat.le_refl _)] at hck ⊢
                have hcn := hcnth.out
                obtain ⟨cc, hcc⟩ : ∃ cc, cnt g (es.set i e') = cc := ⟨_, rfl⟩
                obtain ⟨M, hM⟩ : ∃ M, k / 2 + 1 = M := ⟨_, rfl⟩
                rw [hcc, hM] at hcn
                have hMj := majority_is k ⟨by omega, by omega⟩
                rw [hM] at hMj
                rw [hcc] at hck ⊢
                have q3 : decide ((cc : Int) ≥ (M : Int)) = true := decide_eq_true (by omega)
                have q3' : (M ≤ cc) = True := eq_true hcn
                have hMjh : Hid _ := hMj
                have g10 : wr.drew.cell? ⟨w1.heap.size, 1, none⟩ = some (.int .i64 g) := Tk.old g9
                have m10 : wr.drew.cell? ⟨h, 0, none⟩ = some (.int .i64 k) := n10
                have Tk2 := Tk.drew
                have h10 := h9.turns Tk2
                have B10 := B9.trans (low (n := n0) Tk2 (by simp) (Nat.le_trans hn0 B9.size))
                have h10h : Hid _ := h10
                clear hcn hcc hM hMj hcnth h9 B9 Tk hck h10
                go_wp2_with fail
                refine wp_region_flo [(0, true), (1, true), (2, true), (3, true), (4, true), (5, true), (6, true), (7, true), (8, true), (9, true), (10, true), (11, true), (12, true), (13, true), (14, true), (15, false), (16, true), (17, true), (18, true)] (fun W => Turns [] wr.drew W) (by kernel_rfl) rfl (by kernel_rfl) (by intro c d v a w h; cases d <;> first | (simpa [Exit.then, Exit.inBlock, Act.put] using h) | exact h) (Turns.refl [] _) ?_
                generalize wr.drew = wk at *
                refine flo_read _ rfl (fun K hK => ?_)
                go_simp
                first | (refine hK _ ?_) | (refine ⟨fun W hS => ?_, hK _ ?_⟩; · (have x0 := hS.old g10; have x1 := hS.old m10; try go_simp))
                clear hK K
                refine flo_read _ rfl (fun K hK => ?_)
                go_simp
                first | (refine hK _ ?_) | (refine ⟨fun W hS => ?_, hK _ ?_⟩; · (have x0 := hS.old g10; have x1 := hS.old m10; try go_simp))
                clear hK K
                refine flo_read _ rfl (fun K hK => ?_)
                go_simp
                first | (refine hK _ ?_) | (refine ⟨fun W hS => ?_, hK _ ?_⟩; · (have x0 := hS.old g10; have x1 := hS.old m10; try go_simp))
                clear hK K
                refine flo_read _ rfl (fun K hK => ?_)
                go_simp
                first | (refine hK _ ?_) | (refine ⟨fun W hS => ?_, hK _ ?_⟩; · (have x0 := hS.old g10; have x1 := hS.old m10; try go_simp))
                clear hK K
                refine flo_read _ rfl (fun K hK => ?_)
                go_simp
                first | (refine hK _ ?_) | (refine ⟨fun W hS => ?_, hK _ ?_⟩; · (have x0 := hS.old g10; have x1 := hS.old m10; try go_simp))
                clear hK K
                refine flo_read _ rfl (fun K hK => ?_)
                go_simp
                first | (refine hK _ ?_) | (refine ⟨fun W hS => ?_, hK _ ?_⟩; · (have x0 := hS.old g10; have x1 := hS.old m10; try go_simp))
                clear hK K
                refine flo_read _ rfl (fun K hK => ?_)
                go_simp
                first | (refine hK _ ?_) | (refine ⟨fun W hS => ?_, hK _ ?_⟩; · (have x0 := hS.old g10; have x1 := hS.old m10; try go_simp))
                clear hK K
                refine flo_read _ rfl (fun K hK => ?_)
                go_simp
                first | (refine hK _ ?_) | (refine ⟨fun W hS => ?_, hK _ ?_⟩; · (have x0 := hS.old g10; have x1 := hS.old m10; try go_simp))
                clear hK K
                refine flo_read _ rfl (fun K hK => ?_)
                go_simp
                first | (refine hK _ ?_) | (refine ⟨fun W hS => ?_, hK _ ?_⟩; · (have x0 := hS.old g10; have x1 := hS.old m10; try go_simp))
                clear hK K
                refine flo_read _ rfl (fun K hK => ?_)
                go_simp
                first | (refine hK _ ?_) | (refine ⟨fun W hS => ?_, hK _ ?_⟩; · (have x0 := hS.old g10; have x1 := hS.old m10; try go_simp))
                clear hK K
                refine flo_read _ rfl (fun K hK => ?_)
                go_simp
                first | (refine hK _ ?_) | (refine ⟨fun W hS => ?_, hK _ ?_⟩; · (have x0 := hS.old g10; have x1 := hS.old m10; try go_simp))
                clear hK K
                refine flo_read _ rfl (fun K hK => ?_)
                go_simp
                first | (refine hK _ ?_) | (refine ⟨fun W hS => ?_, hK _ ?_⟩; · (have x0 := hS.old g10; have x1 := hS.old m10; try go_simp))
                clear hK K
                refine flo_read _ rfl (fun K hK => ?_)
                go_simp
                first | (refine hK _ ?_) | (refine ⟨fun W hS => ?_, hK _ ?_⟩; · (have x0 := hS.old g10; have x1 := hS.old m10; try go_simp))
                clear hK K
                refine flo_read _ rfl (fun K hK => ?_)
                go_simp
                first | (refine hK _ ?_) | (refine ⟨fun W hS => ?_, hK _ ?_⟩; · (have x0 := hS.old g10; have x1 := hS.old m10; try go_simp))
                clear hK K
                refine flo_read _ rfl (fun K hK => ?_)
                go_simp
                first | (refine hK _ ?_) | (refine ⟨fun W hS => ?_, hK _ ?_⟩; · (have x0 := hS.old g10; have x1 := hS.old m10; try go_simp))
                clear hK K
                refine flo_alone _ rfl ?_
                go_wp2_with fail
                go_at_call 96
                refine Calls.mono (hMjh.out _) ?_
                rintro e wl ⟨rfl, tl⟩
                go_wp2_with fail
                refine ⟨fun W => Turns [] wk W, fun W h => h, tl, ?_⟩
                refine flo_read _ rfl (fun K hK => ?_)
                go_simp
                first | (refine hK _ ?_) | (refine ⟨fun W hS => ?_, hK _ ?_⟩; · (skip; try go_simp))
                clear hK K
                refine flo_read _ rfl (fun K hK => ?_)
                go_simp
                first | (refine hK _ ?_) | (refine ⟨fun W hS => ?_, hK _ ?_⟩; · (skip; try go_simp))
                clear hK K
                refine flo_read _ rfl (fun K hK => ?_)
                go_simp
                first | (refine hK _ ?_) | (refine ⟨fun W hS => ?_, hK _ ?_⟩; · (skip; try go_simp))
                clear hK K
                refine flo_end ?_
                have B11 := B10.trans (low (n := n0) tl (by simp) (Nat.le_trans hn0 B10.size))
                have h11 := h10h.out.turns tl
                have h11h : Hid _ := h11
                clear h10h h11 B10 tl g10 m10
                go_wp2_with fail
                go_ret
                exact ⟨rfl, B11, _, _, _, _, _, _, _, h11h.out, hI7h.out, by simp, by simp⟩
    | false =>
      have h5 := hH
      have r5 := hr'
      have B5 := hB
      clear hH hr' hB j3
      have hI5 : Hold n (es.set i e') fs ws := by have := hGh.out.inv; simpa using this
      have hI6 : wn = true → Hold n (es.set i e') fs (ws ++ [g]) := by have := hGh.out.w4; simpa using this
      have hIh2 : Hid (Hold n (es.set i e') fs ws) := hI5
      have w1h : Hid (wn = true → g ∉ ws) := hGh.out.w1
      have w2h : Hid (wn = true → g % (n : Int) = i) := hGh.out.w2
      have w3h : Hid (wn = true → n / 2 + 1 ≤ cnt g (es.set i e')) := hGh.out.w3
      have w4h : Hid (wn = true → Hold n (es.set i e') fs (ws ++ [g])) := hI6
      clear hI5 hI6 hGh
      have j3 : wc.cell? ⟨w1.heap.size, 3, none⟩ = some (.bool wn) := r5.cell 3
      have j1 : wc.cell? ⟨w1.heap.size, 1, none⟩ = some (.int .i64 g) := r5.cell 1
      have hr5 : w1.heap.size < wc.heap.size := r5.lt
      cases wn with
      | false =>
        have h5h : Hid _ := h5
        clear h5 r5 j1
        go_wp2_with fail
        go_ret
        exact ⟨rfl, B5, _, _, _, _, _, _, _, h5h.out, hIh2.out, by simp, by omega⟩
      | true =>
        have hgn := w1h.out rfl
        have hI7 := w4h.out rfl
        have hg1 : 1 ≤ g := (hI7.wn g (by simp)).1
        have hmod := w2h.out rfl
        have hcnt := w3h.out rfl
        have hgt : g.tmod (n : Int) = (i : Int) := by rw [Int.tmod_eq_emod_of_nonneg (by omega)]; exact hmod
        have hgnh : Hid _ := hgn
        have hI7h : Hid _ := hI7
        have hcnth : Hid _ := hcnt
        have d3 : wc.cell? ⟨h, 3, none⟩ = some (.slice Aw ws.length cw) := h5.hb.cell 3
        clear hgn hI7 hmod hcnt w1h w2h w3h w4h hIh2
        go_wp2_with fail
        go_loopw [10] (fun v10 wr => ∃ (k : Nat), k ≤ ws.length ∧ v10 = .int .i64 k ∧ Turns [] wc wr) (fun v10 _ => ws.length - (intOf v10).toNat)
        case atStart => exact ⟨0, Nat.zero_le _, rfl, Turns.refl _ _⟩
        case round =>
          obtain ⟨k, hk, rfl, T6⟩ := hrel
          have y3 := T6.old d3
          by_cases hlt : k < ws.length
          · have q1 : decide ((k : Int) < (ws.length : Int)) = true := by simp; omega
            obtain ⟨z, hz⟩ : ∃ z, ws[k]? = some z := ⟨_, List.getElem?_eq_getElem hlt⟩
            have hzg : (z == g) = false := by
              have : z ≠ g := fun h0 => hgnh.out (h0 ▸ List.mem_of_getElem? hz)
              simpa using this
            obtain ⟨az, c2, hvz, _, hcz⟩ := (h5.hw.turns T6 (by simp)).reads.at_ (j := k) (r := [.int .i64 z]) (by unfold ins; rw [List.getElem?_map, hz]; rfl)
            rw [ins_len] at hvz
            injection hvz with p1 p2 p3
            subst p1 p3
            clear p2
            have z0 : wr.drew.cell? _ = _ := hcz 0 _ rfl
            rw [Nat.mul_one, Nat.add_zero] at z0
            have yd3 : wr.drew.cell? ⟨h, 3, none⟩ = some _ := y3
            have jd1 : wr.drew.cell? ⟨w1.heap.size, 1, none⟩ = some (.int .i64 g) := T6.old j1
            have T7 := T6.drew
            clear hz hcz T6
            go_wp2_with fail
            refine wp_region_flo [(0, true), (1, true), (2, true), (3, true), (4, true), (5, true), (6, true), (7, true), (8, true), (9, true)] (fun W => W = _) (by kernel_rfl) rfl (by kernel_rfl) (by intro c d v a w h; cases d <;> first | (simpa [Exit.then, Exit.inBlock, Act.put] using h) | exact h) (rfl) ?_
            refine flo_read _ rfl (fun K hK => ?_)
            go_simp
            first | (refine hK _ ?_) | (refine ⟨fun W hS => ?_, hK _ ?_⟩; · (subst hS; try go_simp))
            clear hK K
            refine flo_read _ rfl (fun K hK => ?_)
            go_simp
            first | (refine hK _ ?_) | (refine ⟨fun W hS => ?_, hK _ ?_⟩; · (subst hS; try go_simp))
            clear hK K
            refine flo_read _ rfl (fun K hK => ?_)
            go_simp
            first | (refine hK _ ?_) | (refine ⟨fun W hS => ?_, hK _ ?_⟩; · (subst hS; try go_simp))
            clear hK K
            refine flo_read _ rfl (fun K hK => ?_)
            go_simp
            first | (refine hK _ ?_) | (refine ⟨fun W hS => ?_, hK _ ?_⟩; · (subst hS; try go_simp))
            clear hK K
            refine flo_read _ rfl (fun K hK => ?_)
            go_simp
            first | (refine hK _ ?_) | (refine ⟨fun W hS => ?_, hK _ ?_⟩; · (subst hS; try go_simp))
            clear hK K
            refine flo_read _ rfl (fun K hK => ?_)
            go_simp
            first | (refine hK _ ?_) | (refine ⟨fun W hS => ?_, hK _ ?_⟩; · (subst hS; try go_simp))
            clear hK K
            refine flo_read _ rfl (fun K hK => ?_)
            go_simp
            first | (refine hK _ ?_) | (refine ⟨fun W hS => ?_, hK _ ?_⟩; · (subst hS; try go_simp))
            clear hK K
            refine flo_read _ rfl (fun K hK => ?_)
            go_simp
            first | (refine hK _ ?_) | (refine ⟨fun W hS => ?_, hK _ ?_⟩; · (subst hS; try go_simp))
            clear hK K
            refine flo_read _ rfl (fun K hK => ?_)
            go_simp
            first | (refine hK _ ?_) | (refine ⟨fun W hS => ?_, hK _ ?_⟩; · (subst hS; try go_simp))
            clear hK K
            refine flo_read _ rfl (fun K hK => ?_)
            go_simp
            first | (refine hK _ ?_) | (refine ⟨fun W hS => ?_, hK _ ?_⟩; · (subst hS; try go_simp))
            clear hK K
            refine flo_end ?_
            go_wp2_with fail
            go_roundw
            case rel => exact ⟨k + 1, by omega, by go_num, T7⟩
            case measure => simp [intOf]; omega
          · obtain rfl : k = ws.length := by omega
            have q1 : decide ((ws.length : Int) < (ws.length : Int)) = false := by simp
            have h6 := (h5.turns T6).turns ((Turns.refl [] wr).drew)
            have r6 := (r5.turns T6 (by simp)).drew
            have B6 : Below n0 w wr.drew := (B5.trans (low (n := n0) T6 (by simp) (Nat.le_trans hn0 B5.size))).drew
            have v3 : wr.drew.cell? ⟨h, 3, none⟩ = some (.slice Aw ws.length cw) := h6.hb.cell 3
            have v1 : wr.drew.cell? ⟨w1.heap.size, 1, none⟩ = some (.int .i64 g) := r6.cell 1
            clear h5 r5 B5 d3 j1 j3 hr5
            go_wp2_with fail
            refine wp_region_flo2 [(0, true, [7, 8]), (1, true, [7, 8]), (2, true, [7, 8]), (3, true, [7, 8]), (4, true, [7]), (5, true, [7, 8]), (6, true, [8]), (7, false, []), (8, false, []), (9, true, [11]), (10, true, []), (11, false, [])] (fun j W => j < 11 → Kr2 W h w1.heap.size (.slice Aw ws.length cw) g) (by kernel_rfl) rfl (by kernel_rfl) (by intro c d v a w h; cases d <;> first | (simpa [Exit.then, Exit.inBlock, Act.put] using h) | exact h) ?_
            clear T6 y3
            generalize wr.drew = w6 at *
            first
              | (refine flo2_read _ rfl (fun _ => True) trivial (fun _ _ _ _ => trivial) (fun K hK => ?_); go_simp; first | (refine hK _ ?_) | (refine ⟨fun W _ => ?_, hK _ ?_⟩; · (go_simp)) | (refine ⟨fun W => ?_, hK _ ?_⟩; · (go_simp)))
              | (refine flo2_read _ rfl (fun W => W = _) rfl (by simp) (fun K hK => ?_); go_simp; first | (refine hK _ ?_) | (refine ⟨fun W hS => ?_, hK _ ?_⟩; · (subst hS; go_simp)) | (refine ⟨?_, hK _ ?_⟩; · (go_simp)))
            clear hK K
            first
              | (refine flo2_read _ rfl (fun _ => True) trivial (fun _ _ _ _ => trivial) (fun K hK => ?_); go_simp; first | (refine hK _ ?_) | (refine ⟨fun W _ => ?_, hK _ ?_⟩; · (go_simp)) | (refine ⟨fun W => ?_, hK _ ?_⟩; · (go_simp)))
              | (refine flo2_read _ rfl (fun W => W = _) rfl (by simp) (fun K hK => ?_); go_simp; first | (refine hK _ ?_) | (refine ⟨fun W hS => ?_, hK _ ?_⟩; · (subst hS; go_simp)) | (refine ⟨?_, hK _ ?_⟩; · (go_simp)))
            clear hK K
            first
              | (refine flo2_read _ rfl (fun _ => True) trivial (fun _ _ _ _ => trivial) (fun K hK => ?_); go_simp; first | (refine hK _ ?_) | (refine ⟨fun W _ => ?_, hK _ ?_⟩; · (go_simp)) | (refine ⟨fun W => ?_, hK _ ?_⟩; · (go_simp)))
              | (refine flo2_read _ rfl (fun W => W = _) rfl (by simp) (fun K hK => ?_); go_simp; first | (refine hK _ ?_) | (refine ⟨fun W hS => ?_, hK _ ?_⟩; · (subst hS; go_simp)) | (refine ⟨?_, hK _ ?_⟩; · (go_simp)))
            clear hK K
            first
              | (refine flo2_read _ rfl (fun _ => True) trivial (fun _ _ _ _ => trivial) (fun K hK => ?_); go_simp; first | (refine hK _ ?_) | (refine ⟨fun W _ => ?_, hK _ ?_⟩; · (go_simp)) | (refine ⟨fun W => ?_, hK _ ?_⟩; · (go_simp)))
              | (refine flo2_read _ rfl (fun W => W = _) rfl (by simp) (fun K hK => ?_); go_simp; first | (refine hK _ ?_) | (refine ⟨fun W hS => ?_, hK _ ?_⟩; · (subst hS; go_simp)) | (refine ⟨?_, hK _ ?_⟩; · (go_simp)))
            clear hK K
            refine flo2_read _ rfl (fun W => Kr2 W h w1.heap.size (.slice Aw ws.length cw) g) (⟨v3, v1⟩) (fun j hj W k => k (by simp at hj; omega)) (fun K hK => ?_)
            go_simp
            first | (refine hK _ ?_) | (refine ⟨fun W hS => ?_, hK _ ?_⟩; · (have x0 := hS.a; try go_simp))
            clear hK K
            first
              | (refine flo2_read _ rfl (fun _ => True) trivial (fun _ _ _ _ => trivial) (fun K hK => ?_); go_simp; first | (refine hK _ ?_) | (refine ⟨fun W _ => ?_, hK _ ?_⟩; · (go_simp)) | (refine ⟨fun W => ?_, hK _ ?_⟩; · (go_simp)))
              | (refine flo2_read _ rfl (fun W => W = _) rfl (by simp) (fun K hK => ?_); go_simp; first | (refine hK _ ?_) | (refine ⟨fun W hS => ?_, hK _ ?_⟩; · (subst hS; go_simp)) | (refine ⟨?_, hK _ ?_⟩; · (go_simp)))
            clear hK K
            refine flo2_read _ rfl (fun W => Kr2 W h w1.heap.size (.slice Aw ws.length cw) g) (⟨v3, v1⟩) (fun j hj W k => k (by simp at hj; omega)) (fun K hK => ?_)
            go_simp
            first | (refine hK _ ?_) | (refine ⟨fun W hS => ?_, hK _ ?_⟩; · (have x0 := hS.b; try go_simp))
            clear hK K
            clear v3 v1
            have A7 := (Turns.refl [] w6).alloc (.cells #[.int .i64 g] 3)
            have h7 := h6.turns A7
            have r7 := r6.turns A7 (by simp)
            have R7 : RdS 1 (w6.alloc (.cells #[.int .i64 g] 3)) (.slice (some ⟨w6.heap.size, 0, none⟩) 1 1) (ins [g]) := RdS.of_cells (rows := ins [g]) (heap_alloc w6 (.cells #[.int .i64 g] 3)).1 rfl (by simp [ins]) 1 (by simp [ins]) (by decide)
            have B7 := B6.alloc (Nat.le_trans hn0 B6.size) (.cells #[.int .i64 g] 3)
            have R7h : Hid _ := R7
            clear h6 r6 A7 B6 R7
            refine flo2_alone _ rfl ?_
            go_wp2_with fail
            refine ⟨fun _ => ⟨h7.hb.cell 3, r7.cell 1⟩, _, fun _ _ h => h, ?_⟩
            generalize hw7 : w6.alloc (.cells #[.int .i64 g] 3) = w7 at *
            clear hw7
            have hlt7 := h7.lts
            have hwne : ∀ j, (Value.slice Aw ws.length cw).ownBlock = some j → j ≠ h := fun j hj => h7.hw.ne_blk hj h7.hb (by decide)
            have hwne2 : ∀ j, (Value.slice Aw ws.length cw).ownBlock = some j → j ≠ w1.heap.size := fun j hj => h7.hw.ne_blk hj r7 (by decide)
            refine flo2_alone _ rfl ?_
            refine wp_append h7.hw R7h.out rfl _ _ _ rfl (.int .i64 0) 8 Try.underlying22 infoI rfl (by decide) rfl rfl (ins_one _) (by simp; omega) (by simp; omega) ?_
            intro v8 w8 ho8 t8 hloc hnil
            obtain ⟨A8, c8, hv8, _⟩ := ho8.form
            rw [← ins_append] at ho8 hv8
            rw [ins_len, List.length_append, List.length_singleton] at hv8
            subst hv8
            have hb8 := h7.hb.turns t8 (by simpa using fun hm => hwne h hm rfl)
            have r8 := r7.turns t8 (by simpa using fun hm => hwne2 _ hm rfl)
            have B8 := B7.trans (low (n := n0) t8 (fun j hj => h7.lw j (by simpa using hj)) (Nat.le_trans hn0 B7.size))
            have hk8 : ∀ (bs2 : List Nat) (i2 b2 : Nat) (e2 : El), bs[i2]? = some b2 → (es.set i e')[i2]? = some e2 → IsE 159 w8 b2 e2 := fun _ i2 b2 e2 q1 q2 => by
              have hE := h7.he i2 b2 e2 q1 q2
              exact Blk.turns hE t8 (by simpa using fun hm => (h7.hw.ne_blk hm hE (by decide)) rfl)
            have ol8 : OwnS 65 1 w8 (.slice (some ad) n cl) (ptrs bs) := h7.hl.turns t8 (fun j hj hm => by
              obtain ⟨cc, hcc⟩ := h7.hl.typed hj
              exact h7.hw.ne_blk (k := j) (by simpa using hm) hcc (by decide) rfl)
            have of8 : OwnS 77 4 w8 (.slice Af fs.length cf) (frs fs) := h7.hf.turns t8 (fun j hj hm => by
              obtain ⟨cc, hcc⟩ := h7.hf.typed hj
              exact h7.hw.ne_blk (k := j) (by simpa using hm) hcc (by decide) rfl)
            have lw8 : ∀ k, (Value.slice A8 (ws.length + 1) c8).ownBlock = some k → n0 ≤ k := fun k hk => by
              rcases hloc with q | q
              · exact h7.lw k (q ▸ hk)
              · rw [hk] at q; injection q with q; have := Nat.le_trans hn0 B7.size; omega
            go_wp2_with fail
            refine ⟨fun _ => ⟨hb8.cell 3, r8.cell 1⟩, _, fun _ _ h => h, ?_⟩
            first
              | (refine flo2_read _ rfl (fun _ => True) trivial (fun _ _ _ _ => trivial) (fun K hK => ?_); go_simp; first | (refine hK _ ?_) | (refine ⟨fun W _ => ?_, hK _ ?_⟩; · (go_simp)) | (refine ⟨fun W => ?_, hK _ ?_⟩; · (go_simp)))
              | (refine flo2_read _ rfl (fun W => W = _) rfl (by simp) (fun K hK => ?_); go_simp; first | (refine hK _ ?_) | (refine ⟨fun W hS => ?_, hK _ ?_⟩; · (subst hS; go_simp)) | (refine ⟨?_, hK _ ?_⟩; · (go_simp)))
            clear hK K
            first
              | (refine flo2_read _ rfl (fun _ => True) trivial (fun _ _ _ _ => trivial) (fun K hK => ?_); go_simp; first | (refine hK _ ?_) | (refine ⟨fun W _ => ?_, hK _ ?_⟩; · (go_simp)) | (refine ⟨fun W => ?_, hK _ ?_⟩; · (go_simp)))
              | (refine flo2_read _ rfl (fun W => W = _) rfl (by simp) (fun K hK => ?_); go_simp; first | (refine hK _ ?_) | (refine ⟨fun W hS => ?_, hK _ ?_⟩; · (subst hS; go_simp)) | (refine ⟨?_, hK _ ?_⟩; · (go_simp)))
            clear hK K
            have f3 := hb8.frozen 3
            have v3 : w8.cell? ⟨h, 3, none⟩ = some _ := hb8.cell 3
            have hne8 : ∀ j, (Value.slice A8 (ws.length + 1) c8).ownBlock = some j → j ≠ h := fun j hj => ho8.ne_blk hj hb8 (by decide)
            have ts : Turns [h] w8 (w8.setCell ⟨h, 3, none⟩ (.slice A8 (ws.length + 1) c8)) := (Turns.refl [h] w8).setCell (p := ⟨h, 3, none⟩) (by simp) _
            have h9 : Hl n0 (w8.setCell ⟨h, 3, none⟩ (.slice A8 (ws.length + 1) c8)) h n (.slice (some ad) n cl) (.slice Af fs.length cf) (.slice A8 (ws.length + 1) c8) bs (es.set i e') fs (ws ++ [g]) :=
              ⟨hb8.set 3 _, ol8.turns ts (fun j hj => by simpa using ol8.ne_blk hj hb8 (by decide)), of8.turns ts (fun j hj => by simpa using of8.ne_blk hj hb8 (by decide)), ho8.turns ts (fun j hj => by simpa using hne8 j hj),
                fun i2 b2 e2 q1 q2 => Blk.turns (hk8 bs i2 b2 e2 q1 q2) ts (by simpa using (Blk.ne hb8 (hk8 bs i2 b2 e2 q1 q2) (by decide)).symm), h7.len, h7.nd, h7.low, h7.ll, h7.lf, lw8, h7.lb⟩
            have r9 := r8.far (p := ⟨h, 3, none⟩) (by have := hlt7.h; have := Blk.ne hb8 r8 (by decide); exact fun q => this q.symm) (.slice A8 (ws.length + 1) c8)
            have B9 := B8.trans (low (n := n0) ts (by simpa using h7.low) (Nat.le_trans hn0 B8.size))
            refine flo2_alone _ rfl ?_
            go_wp2_with fail
            refine ⟨by simp, _, fun _ _ h => h, ?_⟩
            clear v3 f3 ts hk8 ol8 of8 lw8 ho8 hb8 r8 B8 t8 hloc hnil hwne hwne2 hlt7 h7 r7 B7 R7h hne8
            generalize w8.setCell ⟨h, 3, none⟩ (.slice A8 (ws.length + 1) c8) = w9 at *
            refine flo2_end ?_
            have n9 : w9.cell? ⟨h, 0, none⟩ = some (.int .i64 n) := h9.hb.cell 0
            have l9 : w9.cell? ⟨h, 1, none⟩ = some (.slice (some ad) n cl) := h9.hb.cell 1
            have g9 : w9.cell? ⟨w1.heap.size, 1, none⟩ = some (.int .i64 g) := r9.cell 1
            have hlen9 : (es.set i e').length = n := by rw [← h9.len, hblh.out]
            go_wp2_with fail
            go_loopw [11, 12] (fun v11 v12 wr => ∃ (k : Nat), k ≤ n ∧ v12 = .int .i64 k ∧ v11 = .int .i64 (cnt g ((es.set i e').take k)) ∧ cnt g ((es.set i e').take k) ≤ k ∧ Turns [] w9 wr) (fun _ v12 _ => n - (intOf v12).toNat)
            case atStart => exact ⟨0, Nat.zero_le _, rfl, rfl, by simp [cnt], Turns.refl _ _⟩
            case round =>
              obtain ⟨k, hk, rfl, rfl, hck, Tk⟩ := hrel
              have n10 := Tk.old n9
              by_cases hlt : k < n
              · have q2 : decide ((k : Int) < (n : Int)) = true := by simp; omega
                obtain ⟨ek, hek⟩ : ∃ ek, (es.set i e')[k]? = some ek := ⟨_, List.getElem?_eq_getElem (by rw [hlen9]; exact hlt)⟩
                obtain ⟨bk, hbk⟩ : ∃ bk, bs[k]? = some bk := ⟨_, List.getElem?_eq_getElem (by rw [hblh.out]; exact hlt)⟩
                have hsn := take_cnt (g := g) hek
                have hk9 := h9.turns Tk
                have hEk := hk9.he k bk ek hbk hek
                obtain ⟨ak, c2, hvk, _, hck2⟩ := hk9.hl.reads.at_ (j := k) (ptrs_at hbk)
                injection hvk with p1 p2 p3
                injection p1 with p1
                subst p1
                clear p2 p3
                have pk : wr.drew.cell? _ = _ := hck2 0 _ rfl
                rw [Nat.mul_one, Nat.add_zero] at pk
                have l10 : wr.drew.cell? ⟨h, 1, none⟩ = some _ := Tk.old l9
                have g10 : wr.drew.cell? ⟨w1.heap.size, 1, none⟩ = some (.int .i64 g) := Tk.old g9
                have Tk2 := Tk.drew
                have hEk2 : IsE 159 wr.drew bk ek := hEk
                have hEkh : Hid _ := hEk2
                clear hk9 hEk hck2 hbk hek Tk hEk2
                obtain ⟨cc, hcc⟩ : ∃ cc, cnt g ((es.set i e').take k) = cc := ⟨_, rfl⟩
                rw [hcc] at hsn hck ⊢
                clear hcc
                by_cases hge : g ≤ ek.P
                · have q3 : decide (ek.P ≥ g) = true := decide_eq_true hge
                  rw [if_pos hge] at hsn
                  have hsnh : Hid _ := hsn
                  clear hge hsn
                  go_wp2_with fail
                  refine wp_region_flo [(0, true), (1, true), (2, true), (3, true), (4, true), (5, true), (6, true), (8, true), (9, true), (7, false), (10, true)] (fun W => Turns [] wr.drew W) (by kernel_rfl) rfl (by kernel_rfl) (by intro c d v a w h; cases d <;> first | (simpa [Exit.then, Exit.inBlock, Act.put] using h) | exact h) (Turns.refl [] _) ?_
                  generalize wr.drew = wk at *
                  refine flo_read _ rfl (fun K hK => ?_)
                  go_simp
                  first | (refine hK _ ?_) | (refine ⟨fun W hS => ?_, hK _ ?_⟩; · (have x0 := hS.old l10; have x1 := hS.old pk; have x2 := hS.old g10; try go_simp))
                  clear hK K
                  refine flo_read _ rfl (fun K hK => ?_)
                  go_simp
                  first | (refine hK _ ?_) | (refine ⟨fun W hS => ?_, hK _ ?_⟩; · (have x0 := hS.old l10; have x1 := hS.old pk; have x2 := hS.old g10; try go_simp))
                  clear hK K
                  refine flo_read _ rfl (fun K hK => ?_)
                  go_simp
                  first | (refine hK _ ?_) | (refine ⟨fun W hS => ?_, hK _ ?_⟩; · (have x0 := hS.old l10; have x1 := hS.old pk; have x2 := hS.old g10; try go_simp))
                  clear hK K
                  refine flo_read _ rfl (fun K hK => ?_)
                  go_simp
                  first | (refine hK _ ?_) | (refine ⟨fun W hS => ?_, hK _ ?_⟩; · (have x0 := hS.old l10; have x1 := hS.old pk; have x2 := hS.old g10; try go_simp))
                  clear hK K
                  refine flo_read _ rfl (fun K hK => ?_)
                  go_simp
                  first | (refine hK _ ?_) | (refine ⟨fun W hS => ?_, hK _ ?_⟩; · (have x0 := hS.old l10; have x1 := hS.old pk; have x2 := hS.old g10; try go_simp))
                  clear hK K
                  refine flo_read _ rfl (fun K hK => ?_)
                  go_simp
                  first | (refine hK _ ?_) | (refine ⟨fun W hS => ?_, hK _ ?_⟩; · (have x0 := hS.old l10; have x1 := hS.old pk; have x2 := hS.old g10; try go_simp))
                  clear hK K
                  refine flo_read _ rfl (fun K hK => ?_)
                  go_simp
                  first | (refine hK _ ?_) | (refine ⟨fun W hS => ?_, hK _ ?_⟩; · (have x0 := hS.old l10; have x1 := hS.old pk; have x2 := hS.old g10; try go_simp))
                  clear hK K
                  refine flo_read _ rfl (fun K hK => ?_)
                  go_simp
                  first | (refine hK _ ?_) | (refine ⟨fun W hS => ?_, hK _ ?_⟩; · (have x0 := hS.old l10; have x1 := hS.old pk; have x2 := hS.old g10; try go_simp))
                  clear hK K
                  refine flo_read _ rfl (fun K hK => ?_)
                  go_simp
                  first | (refine hK _ ?_) | (refine ⟨fun W hS => ?_, hK _ ?_⟩; · (have x0 := hS.old l10; have x1 := hS.old pk; have x2 := hS.old g10; try go_simp))
                  clear hK K
                  refine flo_alone _ rfl ?_
                  go_wp2_with fail
                  go_at_call 41
                  refine Calls.mono (promised_is _ bk ek hEkh.out) ?_
                  rintro e wl ⟨rfl, tl⟩
                  go_wp2_with fail
                  refine ⟨fun W => Turns [] wk W, fun W h => h, tl, ?_⟩
                  refine flo_read _ rfl (fun K hK => ?_)
                  go_simp
                  first | (refine hK _ ?_) | (refine ⟨fun W hS => ?_, hK _ ?_⟩; · (skip; try go_simp))
                  clear hK K
                  refine flo_end ?_
                  go_wp2_with fail
                  go_roundw
                  case rel => exact ⟨k + 1, by omega, by go_num, by rw [hsnh.out]; go_num, by rw [hsnh.out]; omega, Tk2.trans tl⟩
                  case measure => simp [intOf]; omega
                · have q3 : decide (ek.P ≥ g) = false := decide_eq_false hge
                  rw [if_neg hge] at hsn
                  have hsnh : Hid _ := hsn
                  clear hge hsn
                  go_wp2_with fail
                  refine wp_region_flo [(0, true), (1, true), (2, true), (3, true), (4, true), (5, true), (6, true), (8, true), (9, true), (7, false), (10, true)] (fun W => Turns [] wr.drew W) (by kernel_rfl) rfl (by kernel_rfl) (by intro c d v a w h; cases d <;> first | (simpa [Exit.then, Exit.inBlock, Act.put] using h) | exact h) (Turns.refl [] _) ?_
                  generalize wr.drew = wk at *
                  refine flo_read _ rfl (fun K hK => ?_)
                  go_simp
                  first | (refine hK _ ?_) | (refine ⟨fun W hS => ?_, hK _ ?_⟩; · (have x0 := hS.old l10; have x1 := hS.old pk; have x2 := hS.old g10; try go_simp))
                  clear hK K
                  refine flo_read _ rfl (fun K hK => ?_)
                  go_simp
                  first | (refine hK _ ?_) | (refine ⟨fun W hS => ?_, hK _ ?_⟩; · (have x0 := hS.old l10; have x1 := hS.old pk; have x2 := hS.old g10; try go_simp))
                  clear hK K
                  refine flo_read _ rfl (fun K hK => ?_)
                  go_simp
                  first | (refine hK _ ?_) | (refine ⟨fun W hS => ?_, hK _ ?_⟩; · (have x0 := hS.old l10; have x1 := hS.old pk; have x2 := hS.old g10; try go_simp))
                  clear hK K
                  refine flo_read _ rfl (fun K hK => ?_)
                  go_simp
                  first | (refine hK _ ?_) | (refine ⟨fun W hS => ?_, hK _ ?_⟩; · (have x0 := hS.old l10; have x1 := hS.old pk; have x2 := hS.old g10; try go_simp))
                  clear hK K
                  refine flo_read _ rfl (fun K hK => ?_)
                  go_simp
                  first | (refine hK _ ?_) | (refine ⟨fun W hS => ?_, hK _ ?_⟩; · (have x0 := hS.old l10; have x1 := hS.old pk; have x2 := hS.old g10; try go_simp))
                  clear hK K
                  refine flo_read _ rfl (fun K hK => ?_)
                  go_simp
                  first | (refine hK _ ?_) | (refine ⟨fun W hS => ?_, hK _ ?_⟩; · (have x0 := hS.old l10; have x1 := hS.old pk; have x2 := hS.old g10; try go_simp))
                  clear hK K
                  refine flo_read _ rfl (fun K hK => ?_)
                  go_simp
                  first | (refine hK _ ?_) | (refine ⟨fun W hS => ?_, hK _ ?_⟩; · (have x0 := hS.old l10; have x1 := hS.old pk; have x2 := hS.old g10; try go_simp))
                  clear hK K
                  refine flo_read _ rfl (fun K hK => ?_)
                  go_simp
                  first | (refine hK _ ?_) | (refine ⟨fun W hS => ?_, hK _ ?_⟩; · (have x0 := hS.old l10; have x1 := hS.old pk; have x2 := hS.old g10; try go_simp))
                  clear hK K
                  refine flo_read _ rfl (fun K hK => ?_)
                  go_simp
                  first | (refine hK _ ?_) | (refine ⟨fun W hS => ?_, hK _ ?_⟩; · (have x0 := hS.old l10; have x1 := hS.old pk; have x2 := hS.old g10; try go_simp))
                  clear hK K
                  refine flo_alone _ rfl ?_
                  go_wp2_with fail
                  go_at_call 41
                  refine Calls.mono (promised_is _ bk ek hEkh.out) ?_
                  rintro e wl ⟨rfl, tl⟩
                  go_wp2_with fail
                  refine ⟨fun W => Turns [] wk W, fun W h => h, tl, ?_⟩
                  refine flo_read _ rfl (fun K hK => ?_)
                  go_simp
                  first | (refine hK _ ?_) | (refine ⟨fun W hS => ?_, hK _ ?_⟩; · (skip; try go_simp))
                  clear hK K
                  refine flo_end ?_
                  go_wp2_with fail
                  go_roundw
                  case rel => exact ⟨k + 1, by omega, by go_num, by rw [hsnh.out, Nat.add_zero], by rw [hsnh.out]; omega, Tk2.trans tl⟩
                  case measure => simp [intOf]; omega
              · obtain rfl : k = n := by omega
                have q2 : decide ((k : Int) < (k : Int)) = false := by simp
                rw [List.take_of_length_le (by rw [hlen9]; exact Nat.le_refl _)] at hck ⊢
                have hcn := hcnth.out
                obtain ⟨cc, hcc⟩ : ∃ cc, cnt g (es.set i e') = cc := ⟨_, rfl⟩
                obtain ⟨M, hM⟩ : ∃ M, k / 2 + 1 = M := ⟨_, rfl⟩
                rw [hcc, hM] at hcn
                have hMj := majority_is k ⟨by omega, by omega⟩
                rw [hM] at hMj
                rw [hcc] at hck ⊢
                have q3 : decide ((cc : Int) ≥ (M : Int)) = true := decide_eq_true (by omega)
                have q3' : (M ≤ cc) = True := eq_true hcn
                have hMjh : Hid _ := hMj
                have g10 : wr.drew.cell? ⟨w1.heap.size, 1, none⟩ = some (.int .i64 g) := Tk.old g9
                have m10 : wr.drew.cell? ⟨h, 0, none⟩ = some (.int .i64 k) := n10
                have Tk2 := Tk.drew
                have h10 := h9.turns Tk2
                have B10 := B9.trans (low (n := n0) Tk2 (by simp) (Nat.le_trans hn0 B9.size))
                have h10h : Hid _ := h10
                clear hcn hcc hM hMj hcnth h9 B9 Tk hck h10
                go_wp2_with fail
                refine wp_region_flo [(0, true), (1, true), (2, true), (3, true), (4, true), (5, true), (6, true), (7, true), (8, true), (9, true), (10, true), (11, true), (12, true), (13, true), (14, true), (15, false), (16, true), (17, true), (18, true)] (fun W => Turns [] wr.drew W) (by kernel_rfl) rfl (by kernel_rfl) (by intro c d v a w h; cases d <;> first | (simpa [Exit.then, Exit.inBlock, Act.put] using h) | exact h) (Turns.refl [] _) ?_
                generalize wr.drew = wk at *
                refine flo_read _ rfl (fun K hK => ?_)
                go_simp
                first | (refine hK _ ?_) | (refine ⟨fun W hS => ?_, hK _ ?_⟩; · (have x0 := hS.old g10; have x1 := hS.old m10; try go_simp))
                clear hK K
                refine flo_read _ rfl (fun K hK => ?_)
                go_simp
                first | (refine hK _ ?_) | (refine ⟨fun W hS => ?_, hK _ ?_⟩; · (have x0 := hS.old g10; have x1 := hS.old m10; try go_simp))
                clear hK K
                refine flo_read _ rfl (fun K hK => ?_)
                go_simp
                first | (refine hK _ ?_) | (refine ⟨fun W hS => ?_, hK _ ?_⟩; · (have x0 := hS.old g10; have x1 := hS.old m10; try go_simp))
                clear hK K
                refine flo_read _ rfl (fun K hK => ?_)
                go_simp
                first | (refine hK _ ?_) | (refine ⟨fun W hS => ?_, hK _ ?_⟩; · (have x0 := hS.old g10; have x1 := hS.old m10; try go_simp))
                clear hK K
                refine flo_read _ rfl (fun K hK => ?_)
                go_simp
                first | (refine hK _ ?_) | (refine ⟨fun W hS => ?_, hK _ ?_⟩; · (have x0 := hS.old g10; have x1 := hS.old m10; try go_simp))
                clear hK K
                refine flo_read _ rfl (fun K hK => ?_)
                go_simp
                first | (refine hK _ ?_) | (refine ⟨fun W hS => ?_, hK _ ?_⟩; · (have x0 := hS.old g10; have x1 := hS.old m10; try go_simp))
                clear hK K
                refine flo_read _ rfl (fun K hK => ?_)
                go_simp
                first | (refine hK _ ?_) | (refine ⟨fun W hS => ?_, hK _ ?_⟩; · (have x0 := hS.old g10; have x1 := hS.old m10; try go_simp))
                clear hK K
                refine flo_read _ rfl (fun K hK => ?_)
                go_simp
                first | (refine hK _ ?_) | (refine ⟨fun W hS => ?_, hK _ ?_⟩; · (have x0 := hS.old g10; have x1 := hS.old m10; try go_simp))
                clear hK K
                refine flo_read _ rfl (fun K hK => ?_)
                go_simp
                first | (refine hK _ ?_) | (refine ⟨fun W hS => ?_, hK _ ?_⟩; · (have x0 := hS.old g10; have x1 := hS.old m10; try go_simp))
                clear hK K
                refine flo_read _ rfl (fun K hK => ?_)
                go_simp
                first | (refine hK _ ?_) | (refine ⟨fun W hS => ?_, hK _ ?_⟩; · (have x0 := hS.old g10; have x1 := hS.old m10; try go_simp))
                clear hK K
                refine flo_read _ rfl (fun K hK => ?_)
                go_simp
                first | (refine hK _ ?_) | (refine ⟨fun W hS => ?_, hK _ ?_⟩; · (have x0 := hS.old g10; have x1 := hS.old m10; try go_simp))
                clear hK K
                refine flo_read _ rfl (fun K hK => ?_)
                go_simp
                first | (refine hK _ ?_) | (refine ⟨fun W hS => ?_, hK _ ?_⟩; · (have x0 := hS.old g10; have x1 := hS.old m10; try go_simp))
                clear hK K
                refine flo_read _ rfl (fun K hK => ?_)
                go_simp
                first | (refine hK _ ?_) | (refine ⟨fun W hS => ?_, hK _ ?_⟩; · (have x0 := hS.old g10; have x1 := hS.old m10; try go_simp))
                clear hK K
                refine flo_read _ rfl (fun K hK => ?_)
                go_simp
                first | (refine hK _ ?_) | (refine ⟨fun W hS => ?_, hK _ ?_⟩; · (have x0 := hS.old g10; have x1 := hS.old m10; try go_simp))
                clear hK K
                refine flo_read _ rfl (fun K hK => ?_)
                go_simp
                first | (refine hK _ ?_) | (refine ⟨fun W hS => ?_, hK _ ?_⟩; · (have x0 := hS.old g10; have x1 := hS.old m10; try go_simp))
                clear hK K
                refine flo_alone _ rfl ?_
                go_wp2_with fail
                go_at_call 96
                refine Calls.mono (hMjh.out _) ?_
                rintro e wl ⟨rfl, tl⟩
                go_wp2_with fail
                refine ⟨fun W => Turns [] wk W, fun W h => h, tl, ?_⟩
                refine flo_read _ rfl (fun K hK => ?_)
                go_simp
                first | (refine hK _ ?_) | (refine ⟨fun W hS => ?_, hK _ ?_⟩; · (skip; try go_simp))
                clear hK K
                refine flo_read _ rfl (fun K hK => ?_)
                go_simp
                first | (refine hK _ ?_) | (refine ⟨fun W hS => ?_, hK _ ?_⟩; · (skip; try go_simp))
                clear hK K
                refine flo_read _ rfl (fun K hK => ?_)
                go_simp
                first | (refine hK _ ?_) | (refine ⟨fun W hS => ?_, hK _ ?_⟩; · (skip; try go_simp))
                clear hK K
                refine flo_end ?_
                have B11 := B10.trans (low (n := n0) tl (by simp) (Nat.le_trans hn0 B10.size))
                have h11 := h10h.out.turns tl
                have h11h : Hid _ := h11
                clear h10h h11 B10 tl g10 m10
                go_wp2_with fail
                go_ret
                exact ⟨rfl, B11, _, _, _, _, _, _, _, h11h.out, hI7h.out, by simp, by simp⟩
end Go.Proofs.Ythnegmpdadkkcaa.An
