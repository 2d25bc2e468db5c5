/- The document's set: a table with a row. -/
import Derived.Test.YtphhfdlhkginkaaBj
import Derived.Test.YtphhfdlhkginkaaBf
import Derived.BigQuiet
import Derived.Deep.QuietTactic
set_option linter.unusedVariables false
set_option linter.unusedSimpArgs false
set_option maxRecDepth 100000
namespace Go.Proofs.Ytphhfdlhkginkaa.Bk
open Go.RowKit Go.MapKept Hm Hs Hf Hx Hy Hv Hz Hu Fa Ff Fq Ba Bb Bc Bi Bj Bf
theorem one_row {w : World} {b : Nat} {x : Rw} {cs : Array Value} (h : Blk w b cs 38) (hx : cs.toList = x.cells) : RdS 4 w (.slice (some ⟨b, 0, none⟩) 1 1) (([x] : List Rw).map Rw.cells) :=
  RdS.of_cells (rows := ([x] : List Rw).map Rw.cells) h (by rw [hx]; simp [Rw.cells]) (by simp [Rw.cells]) 1 (by simp) (by decide)
theorem setX_len {r : Row} : ∀ (l : List Row) (s : List Row × Bool), (l.foldl (setStep r) s).1.length ≤ s.1.length + 2 * l.length
  | [], s => by simp
  | x :: l, s => by
    rw [List.foldl_cons]
    have := setX_len (r := r) l (setStep r s x)
    have h2 : (setStep r s x).1.length ≤ s.1.length + 2 := by
      unfold setStep
      split
      · split <;> simp
      · split <;> simp
    simp only [List.length_cons]
    omega
/-- one row behind others -/
theorem rows_push {w w' : World} {X : List Rw} {R : List Row} {x : Rw} {r : Row} (h : RowsIs w X R) (hx : RowIs w x r) (t : Turns [] w w') : RowsIs w' (X ++ [x]) (R ++ [r]) := (h.turns t).snoc (hx.turns t)
set_option maxHeartbeats 8000000 in
theorem set_is_ (G : List Nat) (w : World) (start : Int) (v : Value) (R : List Row) (x : Rw) (r : Row) (hs : RTS G w v R) (hxs : RowS G w x r) (hG : ∀ k ∈ G, k < w.heap.size) (hn : R.length ≤ 100000) (hri : Rise R) : Calls Try.prog 63 #[.agg #[.int .i64 start, v], x.v] w fun e w' => ∃ v', e = .returned (.agg #[.int .i64 start, v']) ∧ RTS G w' v' (withR R r) ∧ Turns [] w w' := by
  have hx := hxs.row
  have h := hs.rt
  obtain ⟨Ao, co, rfl, ho⟩ := row_form hx
  obtain ⟨A, c, rfl, hlc, hcm⟩ := h.form
  have H := ((((Sep.start w).alloc #[.int .i64 start, .slice A R.length c] 24).alloc #[.int .i64 r.key, .int .i64 r.avail, .int .i64 r.mark, .slice Ao r.out.length co] 38).alloc #[.int .i64 0, .slice none 0 0] 24).nilSlice 38 4
  rw [World.size_alloc, World.size_alloc] at H
  obtain ⟨V, hV⟩ : ∃ V : Ending → World → Prop, V = fun e w' => ∃ v', e = .returned (.agg #[.int .i64 start, v']) ∧ RTS G w' v' (withR R r) ∧ Turns [] w w' := ⟨_, rfl⟩
  rw [← hV]
  have hVh : Hid (∀ w' v', RTS G w' v' (withR R r) → Turns [] w w' → V (.returned (.agg #[.int .i64 start, v'])) w') := Lib.hid (fun w' v' h1 h2 => by rw [hV]; exact ⟨v', rfl, h1, h2⟩)
  have hend : Hid (setEnd r (R.foldl (setStep r) ([], false)) = withR R r) := Lib.hid (by rw [set_is r R [] hri, List.nil_append])
  have hh := Lib.hid hs
  have hxh := Lib.hid hxs
  have hGh := Lib.hid hG
  have Hh := Lib.hid H
  obtain ⟨wo, hwo⟩ : ∃ wo, ((w.alloc (.cells #[.int .i64 start, .slice A R.length c] 24)).alloc (.cells #[.int .i64 r.key, .int .i64 r.avail, .int .i64 r.mark, .slice Ao r.out.length co] 38)).alloc (.cells #[.int .i64 0, .slice none 0 0] 24) = wo := ⟨_, rfl⟩
  rw [hwo] at Hh
  clear H hV h hx ho hri hs hxs hG
  unfold Rw.v
  simp only
  go_enter Try.func63, Try.ntmps63
  go_wp2_with fail
  try rw [hwo]
  clear hwo
  go_loopw [5, 6, 7] (fun v5 v6 v7 wr => ∃ (k : Nat) (X : List Rw) (S : List Row × Bool), k ≤ R.length ∧ v7 = .int .i64 k ∧ v6 = .bool S.2 ∧ S = (R.take k).foldl (setStep r) ([], false) ∧ RowsS G w X S.1 ∧ Sep [] w [tOwn 38 4 v5 (X.map Rw.cells), tBlk (w.heap.size + 1 + 1) #[.int .i64 0, .slice none 0 0] 24, tBlk (w.heap.size + 1) #[.int .i64 r.key, .int .i64 r.avail, .int .i64 r.mark, .slice Ao r.out.length co] 38, tBlk w.heap.size #[.int .i64 start, .slice A R.length c] 24] wr) (fun _ _ v7 _ => R.length - (RowKit.intOf v7).toNat)
  case atStart => exact ⟨0, [], ([], false), by omega, rfl, rfl, rfl, RowsS.nil _ _, Hh.out⟩
  case round =>
    clear Hh
    obtain ⟨k, X, S, hk, rfl, rfl, hS, hXS, H⟩ := hrel
    obtain ⟨out, dn⟩ := S
    simp only at hXS hS ⊢
    have hol : out.length ≤ 2 * R.length := by
      have := setX_len (r := r) (R.take k) ([], false)
      rw [← hS, List.length_take] at this
      simp at this
      omega
    have hXl : X.length ≤ 200000 := by rw [hXS.rows.1]; omega
    obtain ⟨A5, c5, hu, _⟩ := formM (H.own 0 rfl)
    have hXlen := hXS.rows.1
    obtain ⟨L5, hL5⟩ : ∃ L5, X.length = L5 := ⟨_, rfl⟩
    rw [hL5] at hu hXl
    subst hu
    have hSh := Lib.hid hS
    have hXSh := Lib.hid hXS
    have hL5h := Lib.hid hL5
    clear hS hXS hXlen hL5
    have t1 : World.cell? (wr) ⟨w.heap.size, 1, none⟩ = some _ := (H.blk 3 rfl).cell 1
    have g0 : World.cell? (wr) ⟨w.heap.size + 1, 0, none⟩ = some _ := (H.blk 2 rfl).cell 0
    have g1 : World.cell? (wr) ⟨w.heap.size + 1, 1, none⟩ = some _ := (H.blk 2 rfl).cell 1
    have g2 : World.cell? (wr) ⟨w.heap.size + 1, 2, none⟩ = some _ := (H.blk 2 rfl).cell 2
    have g3 : World.cell? (wr) ⟨w.heap.size + 1, 3, none⟩ = some _ := (H.blk 2 rfl).cell 3
    by_cases hlt : k < R.length
    · have g1 : decide ((k : Int) < (R.length : Int)) = true := decide_eq_true (by omega)
      have g1b : decide (k < R.length) = true := decide_eq_true hlt
      obtain ⟨y, hy⟩ : ∃ y, R[k]? = some y := ⟨_, List.getElem?_eq_getElem hlt⟩
      have hnx : (R.take (k + 1)).foldl (setStep r) ([], false) = setStep r (out, dn) y := by rw [take_next hy, List.foldl_append, ← hSh.out]; rfl
      have hnxh := Lib.hid hnx
      obtain ⟨ad, c', x, hv, hxr, LX⟩ := hh.out.at_ hy
      injection hv with e1 e2 e3
      subst e1 e3
      obtain ⟨Ay, cy, rfl, hoy⟩ := row_form hxr.row
      have LXh := Lib.hid LX
      have hxrh := Lib.hid hxr
      have HH := Lib.hid H
      have ho1 := Lib.hid (rows_one hXSh.out.rows)
      clear hy hnx e2 LX hxr hoy H
      obtain ⟨x0, x1, x2, x3⟩ := LXh.out.turns HH.out.t
      have hlen1 : Hid (L5 + 1 = (X.map Rw.cells).length + (([(⟨r.key, r.avail, r.mark, .slice Ao r.out.length co⟩ : Rw)] : List Rw).map Rw.cells).length) := Lib.hid (by rw [List.length_map, hL5h.out]; rfl)
      have hlen2 : Hid (L5 + 1 = (X.map Rw.cells).length + (([(⟨y.key, y.avail, y.mark, .slice Ay y.out.length cy⟩ : Rw)] : List Rw).map Rw.cells).length) := Lib.hid (by rw [List.length_map, hL5h.out]; rfl)
      have hlen3 : Hid (L5 + 1 + 1 = ((X ++ [(⟨r.key, r.avail, r.mark, .slice Ao r.out.length co⟩ : Rw)]).map Rw.cells).length + (([(⟨y.key, y.avail, y.mark, .slice Ay y.out.length cy⟩ : Rw)] : List Rw).map Rw.cells).length) := Lib.hid (by rw [List.length_map, List.length_append, hL5h.out]; rfl)
      by_cases heq : y.key = r.key
      · have g3b : (y.key != r.key) = false := by simp [heq]
        cases dn with
        | true =>
          have hst := Lib.hid (show setStep r (out, true) y = (out, true) by unfold setStep; simp [heq])
          have heqh := Lib.hid heq
          clear heq
          go_wp2_with fail
          go_quiet (fail)
          have J1 := Lib.hid (HH.out.drewN nq)
          generalize wr.drewN nq = wq at *
          clear t1 g0 g1 g2 g3 x0 x1 x2 x3
          have t1 : World.cell? (wq) ⟨w.heap.size, 1, none⟩ = some _ := (J1.out.blk 3 rfl).cell 1
          have g0 : World.cell? (wq) ⟨w.heap.size + 1, 0, none⟩ = some _ := (J1.out.blk 2 rfl).cell 0
          have g1 : World.cell? (wq) ⟨w.heap.size + 1, 1, none⟩ = some _ := (J1.out.blk 2 rfl).cell 1
          have g2 : World.cell? (wq) ⟨w.heap.size + 1, 2, none⟩ = some _ := (J1.out.blk 2 rfl).cell 2
          have g3 : World.cell? (wq) ⟨w.heap.size + 1, 3, none⟩ = some _ := (J1.out.blk 2 rfl).cell 3
          obtain ⟨x0, x1, x2, x3⟩ := LXh.out.turns J1.out.t
          go_wp2_with fail
          go_quiet (fail)
          have J2 := Lib.hid (J1.out.drewN nq)
          generalize wq.drewN nq = wz at *
          clear t1 g0 g1 g2 g3 x0 x1 x2 x3
          have t1 : World.cell? (wz) ⟨w.heap.size, 1, none⟩ = some _ := (J2.out.blk 3 rfl).cell 1
          have g0 : World.cell? (wz) ⟨w.heap.size + 1, 0, none⟩ = some _ := (J2.out.blk 2 rfl).cell 0
          have g1 : World.cell? (wz) ⟨w.heap.size + 1, 1, none⟩ = some _ := (J2.out.blk 2 rfl).cell 1
          have g2 : World.cell? (wz) ⟨w.heap.size + 1, 2, none⟩ = some _ := (J2.out.blk 2 rfl).cell 2
          have g3 : World.cell? (wz) ⟨w.heap.size + 1, 3, none⟩ = some _ := (J2.out.blk 2 rfl).cell 3
          obtain ⟨x0, x1, x2, x3⟩ := LXh.out.turns J2.out.t
          go_wp2_with fail
          go_roundw
          case rel => exact ⟨k + 1, X, (out, true), by omega, by go_num, rfl, by rw [hnxh.out]; exact (hst.out).symm, hXSh.out, J2.out⟩
          case measure => simp [RowKit.intOf]; omega
        | false =>
          have hst := Lib.hid (show setStep r (out, false) y = (out ++ [r], true) by unfold setStep; simp [heq])
          have g4 : decide (y.key ≥ r.key) = true := decide_eq_true (by omega)
          have heqh := Lib.hid heq
          clear heq
          go_wp2_with fail
          go_quiet (fail)
          have J1 := Lib.hid (HH.out.drewN nq)
          generalize wr.drewN nq = wq at *
          clear t1 g0 g1 g2 g3 x0 x1 x2 x3
          have t1 : World.cell? (wq) ⟨w.heap.size, 1, none⟩ = some _ := (J1.out.blk 3 rfl).cell 1
          have g0 : World.cell? (wq) ⟨w.heap.size + 1, 0, none⟩ = some _ := (J1.out.blk 2 rfl).cell 0
          have g1 : World.cell? (wq) ⟨w.heap.size + 1, 1, none⟩ = some _ := (J1.out.blk 2 rfl).cell 1
          have g2 : World.cell? (wq) ⟨w.heap.size + 1, 2, none⟩ = some _ := (J1.out.blk 2 rfl).cell 2
          have g3 : World.cell? (wq) ⟨w.heap.size + 1, 3, none⟩ = some _ := (J1.out.blk 2 rfl).cell 3
          obtain ⟨x0, x1, x2, x3⟩ := LXh.out.turns J1.out.t
          go_wp2_with (at_builtin; refine stop_ ?_)
          refine Mk_.mk ?_
          refine (J1.out.alloc #[.int .i64 r.key, .int .i64 r.avail, .int .i64 r.mark, .slice Ao r.out.length co] 38).append 1 rfl (one_row (x := (⟨r.key, r.avail, r.mark, .slice Ao r.out.length co⟩ : Rw)) (Blk.new _ #[.int .i64 r.key, .int .i64 r.avail, .int .i64 r.mark, .slice Ao r.out.length co] 38) rfl) (L5 + 1) (hlen1.out) ((X ++ [(⟨r.key, r.avail, r.mark, .slice Ao r.out.length co⟩ : Rw)]).map Rw.cells) (by rw [List.map_append]) rfl _ _ _ rfl (.agg #[.int .i64 0, .int .i64 0, .int .i64 0, .slice none 0 0]) 48 Try.underlying22 infoRow rfl (by decide) rfl rfl (by intro r hr u hu; simp [Rw.cells] at hr; subst hr; simp at hu; rcases hu with rfl | rfl | rfl | rfl <;> rfl) (by omega) (by omega) ?_
          intro A6 c6 w6 H6 t6 _
          have Kw6 := Lib.hid (H6.keep [1, 2, 3, 4])
          clear H6 t6 t1 g0 g1 g2 g3 x0 x1 x2 x3
          have t1 : World.cell? (w6) ⟨w.heap.size, 1, none⟩ = some _ := (Kw6.out.blk 3 rfl).cell 1
          have g0 : World.cell? (w6) ⟨w.heap.size + 1, 0, none⟩ = some _ := (Kw6.out.blk 2 rfl).cell 0
          have g1 : World.cell? (w6) ⟨w.heap.size + 1, 1, none⟩ = some _ := (Kw6.out.blk 2 rfl).cell 1
          have g2 : World.cell? (w6) ⟨w.heap.size + 1, 2, none⟩ = some _ := (Kw6.out.blk 2 rfl).cell 2
          have g3 : World.cell? (w6) ⟨w.heap.size + 1, 3, none⟩ = some _ := (Kw6.out.blk 2 rfl).cell 3
          obtain ⟨x0, x1, x2, x3⟩ := LXh.out.turns Kw6.out.t
          go_wp2_with fail
          go_quiet (fail)
          have J2 := Lib.hid (Kw6.out.drewN nq)
          generalize w6.drewN nq = wz at *
          clear t1 g0 g1 g2 g3 x0 x1 x2 x3
          have t1 : World.cell? (wz) ⟨w.heap.size, 1, none⟩ = some _ := (J2.out.blk 3 rfl).cell 1
          have g0 : World.cell? (wz) ⟨w.heap.size + 1, 0, none⟩ = some _ := (J2.out.blk 2 rfl).cell 0
          have g1 : World.cell? (wz) ⟨w.heap.size + 1, 1, none⟩ = some _ := (J2.out.blk 2 rfl).cell 1
          have g2 : World.cell? (wz) ⟨w.heap.size + 1, 2, none⟩ = some _ := (J2.out.blk 2 rfl).cell 2
          have g3 : World.cell? (wz) ⟨w.heap.size + 1, 3, none⟩ = some _ := (J2.out.blk 2 rfl).cell 3
          obtain ⟨x0, x1, x2, x3⟩ := LXh.out.turns J2.out.t
          go_wp2_with fail
          go_roundw
          case rel => exact ⟨k + 1, X ++ [(⟨r.key, r.avail, r.mark, .slice Ao r.out.length co⟩ : Rw)], (out ++ [r], true), by omega, by go_num, rfl, by rw [hnxh.out]; exact (hst.out).symm, hXSh.out.snoc hxh.out, J2.out⟩
          case measure => simp [RowKit.intOf]; omega
      · have g3b : (y.key != r.key) = true := by simpa using heq
        cases dn with
        | true =>
          have hst := Lib.hid (show setStep r (out, true) y = (out ++ [y], true) by unfold setStep; simp [heq])
          have heqh := Lib.hid heq
          clear heq
          go_wp2_with fail
          go_quiet (fail)
          have J1 := Lib.hid (HH.out.drewN nq)
          generalize wr.drewN nq = wq at *
          clear t1 g0 g1 g2 g3 x0 x1 x2 x3
          have t1 : World.cell? (wq) ⟨w.heap.size, 1, none⟩ = some _ := (J1.out.blk 3 rfl).cell 1
          have g0 : World.cell? (wq) ⟨w.heap.size + 1, 0, none⟩ = some _ := (J1.out.blk 2 rfl).cell 0
          have g1 : World.cell? (wq) ⟨w.heap.size + 1, 1, none⟩ = some _ := (J1.out.blk 2 rfl).cell 1
          have g2 : World.cell? (wq) ⟨w.heap.size + 1, 2, none⟩ = some _ := (J1.out.blk 2 rfl).cell 2
          have g3 : World.cell? (wq) ⟨w.heap.size + 1, 3, none⟩ = some _ := (J1.out.blk 2 rfl).cell 3
          obtain ⟨x0, x1, x2, x3⟩ := LXh.out.turns J1.out.t
          go_wp2_with fail
          go_quiet (fail)
          have J2 := Lib.hid (J1.out.drewN nq)
          generalize wq.drewN nq = wz at *
          clear t1 g0 g1 g2 g3 x0 x1 x2 x3
          have t1 : World.cell? (wz) ⟨w.heap.size, 1, none⟩ = some _ := (J2.out.blk 3 rfl).cell 1
          have g0 : World.cell? (wz) ⟨w.heap.size + 1, 0, none⟩ = some _ := (J2.out.blk 2 rfl).cell 0
          have g1 : World.cell? (wz) ⟨w.heap.size + 1, 1, none⟩ = some _ := (J2.out.blk 2 rfl).cell 1
          have g2 : World.cell? (wz) ⟨w.heap.size + 1, 2, none⟩ = some _ := (J2.out.blk 2 rfl).cell 2
          have g3 : World.cell? (wz) ⟨w.heap.size + 1, 3, none⟩ = some _ := (J2.out.blk 2 rfl).cell 3
          obtain ⟨x0, x1, x2, x3⟩ := LXh.out.turns J2.out.t
          go_wp2_with (at_builtin; refine stop_ ?_)
          refine Mk_.mk ?_
          refine (J2.out.alloc #[.int .i64 y.key, .int .i64 y.avail, .int .i64 y.mark, .slice Ay y.out.length cy] 38).append 1 rfl (one_row (x := (⟨y.key, y.avail, y.mark, .slice Ay y.out.length cy⟩ : Rw)) (Blk.new _ #[.int .i64 y.key, .int .i64 y.avail, .int .i64 y.mark, .slice Ay y.out.length cy] 38) rfl) (L5 + 1) (hlen2.out) ((X ++ [(⟨y.key, y.avail, y.mark, .slice Ay y.out.length cy⟩ : Rw)]).map Rw.cells) (by rw [List.map_append]) rfl _ _ _ rfl (.agg #[.int .i64 0, .int .i64 0, .int .i64 0, .slice none 0 0]) 48 Try.underlying22 infoRow rfl (by decide) rfl rfl (by intro r hr u hu; simp [Rw.cells] at hr; subst hr; simp at hu; rcases hu with rfl | rfl | rfl | rfl <;> rfl) (by omega) (by omega) ?_
          intro A6 c6 w6 H6 t6 _
          have Kw6 := Lib.hid (H6.keep [1, 2, 3, 4])
          clear H6 t6 t1 g0 g1 g2 g3 x0 x1 x2 x3
          have t1 : World.cell? (w6) ⟨w.heap.size, 1, none⟩ = some _ := (Kw6.out.blk 3 rfl).cell 1
          have g0 : World.cell? (w6) ⟨w.heap.size + 1, 0, none⟩ = some _ := (Kw6.out.blk 2 rfl).cell 0
          have g1 : World.cell? (w6) ⟨w.heap.size + 1, 1, none⟩ = some _ := (Kw6.out.blk 2 rfl).cell 1
          have g2 : World.cell? (w6) ⟨w.heap.size + 1, 2, none⟩ = some _ := (Kw6.out.blk 2 rfl).cell 2
          have g3 : World.cell? (w6) ⟨w.heap.size + 1, 3, none⟩ = some _ := (Kw6.out.blk 2 rfl).cell 3
          obtain ⟨x0, x1, x2, x3⟩ := LXh.out.turns Kw6.out.t
          go_wp2_with fail
          go_roundw
          case rel => exact ⟨k + 1, X ++ [(⟨y.key, y.avail, y.mark, .slice Ay y.out.length cy⟩ : Rw)], (out ++ [y], true), by omega, by go_num, rfl, by rw [hnxh.out]; exact (hst.out).symm, hXSh.out.snoc hxrh.out, Kw6.out⟩
          case measure => simp [RowKit.intOf]; omega
        | false =>
          by_cases hge : y.key ≥ r.key
          · have g4 : decide (y.key ≥ r.key) = true := decide_eq_true hge
            have hst := Lib.hid (show setStep r (out, false) y = (out ++ [r] ++ [y], true) by unfold setStep; simp [heq, hge])
            have heqh := Lib.hid heq
            have hgeh := Lib.hid hge
            clear heq hge
            go_wp2_with fail
            go_quiet (fail)
            have J1 := Lib.hid (HH.out.drewN nq)
            generalize wr.drewN nq = wq at *
            clear t1 g0 g1 g2 g3 x0 x1 x2 x3
            have t1 : World.cell? (wq) ⟨w.heap.size, 1, none⟩ = some _ := (J1.out.blk 3 rfl).cell 1
            have g0 : World.cell? (wq) ⟨w.heap.size + 1, 0, none⟩ = some _ := (J1.out.blk 2 rfl).cell 0
            have g1 : World.cell? (wq) ⟨w.heap.size + 1, 1, none⟩ = some _ := (J1.out.blk 2 rfl).cell 1
            have g2 : World.cell? (wq) ⟨w.heap.size + 1, 2, none⟩ = some _ := (J1.out.blk 2 rfl).cell 2
            have g3 : World.cell? (wq) ⟨w.heap.size + 1, 3, none⟩ = some _ := (J1.out.blk 2 rfl).cell 3
            obtain ⟨x0, x1, x2, x3⟩ := LXh.out.turns J1.out.t
            go_wp2_with (at_builtin; refine stop_ ?_)
            refine Mk_.mk ?_
            refine (J1.out.alloc #[.int .i64 r.key, .int .i64 r.avail, .int .i64 r.mark, .slice Ao r.out.length co] 38).append 1 rfl (one_row (x := (⟨r.key, r.avail, r.mark, .slice Ao r.out.length co⟩ : Rw)) (Blk.new _ #[.int .i64 r.key, .int .i64 r.avail, .int .i64 r.mark, .slice Ao r.out.length co] 38) rfl) (L5 + 1) (hlen1.out) ((X ++ [(⟨r.key, r.avail, r.mark, .slice Ao r.out.length co⟩ : Rw)]).map Rw.cells) (by rw [List.map_append]) rfl _ _ _ rfl (.agg #[.int .i64 0, .int .i64 0, .int .i64 0, .slice none 0 0]) 48 Try.underlying22 infoRow rfl (by decide) rfl rfl (by intro r hr u hu; simp [Rw.cells] at hr; subst hr; simp at hu; rcases hu with rfl | rfl | rfl | rfl <;> rfl) (by omega) (by omega) ?_
            intro A6 c6 w6 H6 t6 _
            have Kw6 := Lib.hid (H6.keep [1, 2, 3, 4])
            clear H6 t6 t1 g0 g1 g2 g3 x0 x1 x2 x3
            have t1 : World.cell? (w6) ⟨w.heap.size, 1, none⟩ = some _ := (Kw6.out.blk 3 rfl).cell 1
            have g0 : World.cell? (w6) ⟨w.heap.size + 1, 0, none⟩ = some _ := (Kw6.out.blk 2 rfl).cell 0
            have g1 : World.cell? (w6) ⟨w.heap.size + 1, 1, none⟩ = some _ := (Kw6.out.blk 2 rfl).cell 1
            have g2 : World.cell? (w6) ⟨w.heap.size + 1, 2, none⟩ = some _ := (Kw6.out.blk 2 rfl).cell 2
            have g3 : World.cell? (w6) ⟨w.heap.size + 1, 3, none⟩ = some _ := (Kw6.out.blk 2 rfl).cell 3
            obtain ⟨x0, x1, x2, x3⟩ := LXh.out.turns Kw6.out.t
            go_wp2_with fail
            go_quiet (fail)
            have J2 := Lib.hid (Kw6.out.drewN nq)
            generalize w6.drewN nq = wz at *
            clear t1 g0 g1 g2 g3 x0 x1 x2 x3
            have t1 : World.cell? (wz) ⟨w.heap.size, 1, none⟩ = some _ := (J2.out.blk 3 rfl).cell 1
            have g0 : World.cell? (wz) ⟨w.heap.size + 1, 0, none⟩ = some _ := (J2.out.blk 2 rfl).cell 0
            have g1 : World.cell? (wz) ⟨w.heap.size + 1, 1, none⟩ = some _ := (J2.out.blk 2 rfl).cell 1
            have g2 : World.cell? (wz) ⟨w.heap.size + 1, 2, none⟩ = some _ := (J2.out.blk 2 rfl).cell 2
            have g3 : World.cell? (wz) ⟨w.heap.size + 1, 3, none⟩ = some _ := (J2.out.blk 2 rfl).cell 3
            obtain ⟨x0, x1, x2, x3⟩ := LXh.out.turns J2.out.t
            go_wp2_with (at_builtin; refine stop_ ?_)
            refine Mk_.mk ?_
            refine (J2.out.alloc #[.int .i64 y.key, .int .i64 y.avail, .int .i64 y.mark, .slice Ay y.out.length cy] 38).append 1 rfl (one_row (x := (⟨y.key, y.avail, y.mark, .slice Ay y.out.length cy⟩ : Rw)) (Blk.new _ #[.int .i64 y.key, .int .i64 y.avail, .int .i64 y.mark, .slice Ay y.out.length cy] 38) rfl) (L5 + 1 + 1) (hlen3.out) ((X ++ [(⟨r.key, r.avail, r.mark, .slice Ao r.out.length co⟩ : Rw)] ++ [(⟨y.key, y.avail, y.mark, .slice Ay y.out.length cy⟩ : Rw)]).map Rw.cells) (by rw [List.map_append]) rfl _ _ _ rfl (.agg #[.int .i64 0, .int .i64 0, .int .i64 0, .slice none 0 0]) 48 Try.underlying22 infoRow rfl (by decide) rfl rfl (by intro r hr u hu; simp [Rw.cells] at hr; subst hr; simp at hu; rcases hu with rfl | rfl | rfl | rfl <;> rfl) (by omega) (by omega) ?_
            intro A7 c7 w7 H6 t6 _
            have Kw7 := Lib.hid (H6.keep [1, 2, 3, 4])
            clear H6 t6 t1 g0 g1 g2 g3 x0 x1 x2 x3
            have t1 : World.cell? (w7) ⟨w.heap.size, 1, none⟩ = some _ := (Kw7.out.blk 3 rfl).cell 1
            have g0 : World.cell? (w7) ⟨w.heap.size + 1, 0, none⟩ = some _ := (Kw7.out.blk 2 rfl).cell 0
            have g1 : World.cell? (w7) ⟨w.heap.size + 1, 1, none⟩ = some _ := (Kw7.out.blk 2 rfl).cell 1
            have g2 : World.cell? (w7) ⟨w.heap.size + 1, 2, none⟩ = some _ := (Kw7.out.blk 2 rfl).cell 2
            have g3 : World.cell? (w7) ⟨w.heap.size + 1, 3, none⟩ = some _ := (Kw7.out.blk 2 rfl).cell 3
            obtain ⟨x0, x1, x2, x3⟩ := LXh.out.turns Kw7.out.t
            go_wp2_with fail
            go_roundw
            case rel => exact ⟨k + 1, X ++ [(⟨r.key, r.avail, r.mark, .slice Ao r.out.length co⟩ : Rw)] ++ [(⟨y.key, y.avail, y.mark, .slice Ay y.out.length cy⟩ : Rw)], (out ++ [r] ++ [y], true), by omega, by go_num, rfl, by rw [hnxh.out]; exact (hst.out).symm, (hXSh.out.snoc hxh.out).snoc hxrh.out, Kw7.out⟩
            case measure => simp [RowKit.intOf]; omega
          · have g4 : decide (y.key ≥ r.key) = false := decide_eq_false hge
            have hst := Lib.hid (show setStep r (out, false) y = (out ++ [y], false) by unfold setStep; simp [heq, hge])
            have heqh := Lib.hid heq
            have hgeh := Lib.hid hge
            clear heq hge
            go_wp2_with fail
            go_quiet (fail)
            have J1 := Lib.hid (HH.out.drewN nq)
            generalize wr.drewN nq = wq at *
            clear t1 g0 g1 g2 g3 x0 x1 x2 x3
            have t1 : World.cell? (wq) ⟨w.heap.size, 1, none⟩ = some _ := (J1.out.blk 3 rfl).cell 1
            have g0 : World.cell? (wq) ⟨w.heap.size + 1, 0, none⟩ = some _ := (J1.out.blk 2 rfl).cell 0
            have g1 : World.cell? (wq) ⟨w.heap.size + 1, 1, none⟩ = some _ := (J1.out.blk 2 rfl).cell 1
            have g2 : World.cell? (wq) ⟨w.heap.size + 1, 2, none⟩ = some _ := (J1.out.blk 2 rfl).cell 2
            have g3 : World.cell? (wq) ⟨w.heap.size + 1, 3, none⟩ = some _ := (J1.out.blk 2 rfl).cell 3
            obtain ⟨x0, x1, x2, x3⟩ := LXh.out.turns J1.out.t
            go_wp2_with fail
            go_quiet (fail)
            have J2 := Lib.hid (J1.out.drewN nq)
            generalize wq.drewN nq = wz at *
            clear t1 g0 g1 g2 g3 x0 x1 x2 x3
            have t1 : World.cell? (wz) ⟨w.heap.size, 1, none⟩ = some _ := (J2.out.blk 3 rfl).cell 1
            have g0 : World.cell? (wz) ⟨w.heap.size + 1, 0, none⟩ = some _ := (J2.out.blk 2 rfl).cell 0
            have g1 : World.cell? (wz) ⟨w.heap.size + 1, 1, none⟩ = some _ := (J2.out.blk 2 rfl).cell 1
            have g2 : World.cell? (wz) ⟨w.heap.size + 1, 2, none⟩ = some _ := (J2.out.blk 2 rfl).cell 2
            have g3 : World.cell? (wz) ⟨w.heap.size + 1, 3, none⟩ = some _ := (J2.out.blk 2 rfl).cell 3
            obtain ⟨x0, x1, x2, x3⟩ := LXh.out.turns J2.out.t
            go_wp2_with (at_builtin; refine stop_ ?_)
            refine Mk_.mk ?_
            refine (J2.out.alloc #[.int .i64 y.key, .int .i64 y.avail, .int .i64 y.mark, .slice Ay y.out.length cy] 38).append 1 rfl (one_row (x := (⟨y.key, y.avail, y.mark, .slice Ay y.out.length cy⟩ : Rw)) (Blk.new _ #[.int .i64 y.key, .int .i64 y.avail, .int .i64 y.mark, .slice Ay y.out.length cy] 38) rfl) (L5 + 1) (hlen2.out) ((X ++ [(⟨y.key, y.avail, y.mark, .slice Ay y.out.length cy⟩ : Rw)]).map Rw.cells) (by rw [List.map_append]) rfl _ _ _ rfl (.agg #[.int .i64 0, .int .i64 0, .int .i64 0, .slice none 0 0]) 48 Try.underlying22 infoRow rfl (by decide) rfl rfl (by intro r hr u hu; simp [Rw.cells] at hr; subst hr; simp at hu; rcases hu with rfl | rfl | rfl | rfl <;> rfl) (by omega) (by omega) ?_
            intro A6 c6 w6 H6 t6 _
            have Kw6 := Lib.hid (H6.keep [1, 2, 3, 4])
            clear H6 t6 t1 g0 g1 g2 g3 x0 x1 x2 x3
            have t1 : World.cell? (w6) ⟨w.heap.size, 1, none⟩ = some _ := (Kw6.out.blk 3 rfl).cell 1
            have g0 : World.cell? (w6) ⟨w.heap.size + 1, 0, none⟩ = some _ := (Kw6.out.blk 2 rfl).cell 0
            have g1 : World.cell? (w6) ⟨w.heap.size + 1, 1, none⟩ = some _ := (Kw6.out.blk 2 rfl).cell 1
            have g2 : World.cell? (w6) ⟨w.heap.size + 1, 2, none⟩ = some _ := (Kw6.out.blk 2 rfl).cell 2
            have g3 : World.cell? (w6) ⟨w.heap.size + 1, 3, none⟩ = some _ := (Kw6.out.blk 2 rfl).cell 3
            obtain ⟨x0, x1, x2, x3⟩ := LXh.out.turns Kw6.out.t
            go_wp2_with fail
            go_roundw
            case rel => exact ⟨k + 1, X ++ [(⟨y.key, y.avail, y.mark, .slice Ay y.out.length cy⟩ : Rw)], (out ++ [y], false), by omega, by go_num, rfl, by rw [hnxh.out]; exact (hst.out).symm, hXSh.out.snoc hxrh.out, Kw6.out⟩
            case measure => simp [RowKit.intOf]; omega
    · obtain rfl : k = R.length := by omega
      have g1 : decide ((R.length : Int) < (R.length : Int)) = false := by simp
      rw [List.take_length] at hSh
      have HH := Lib.hid H
      clear H
      have hlen1 : Hid (L5 + 1 = (X.map Rw.cells).length + (([(⟨r.key, r.avail, r.mark, .slice Ao r.out.length co⟩ : Rw)] : List Rw).map Rw.cells).length) := Lib.hid (by rw [List.length_map, hL5h.out]; rfl)
      cases dn with
      | true =>
        have hfe : Hid (withR R r = out) := Lib.hid (by rw [← hend.out, ← hSh.out]; rfl)
        clear t1 g0 g1 g2 g3
        have t0 : World.cell? (wr) ⟨w.heap.size, 0, none⟩ = some _ := (HH.out.blk 3 rfl).cell 0
        have t1 : World.cell? (wr) ⟨w.heap.size, 1, none⟩ = some _ := (HH.out.blk 3 rfl).cell 1
        have tf1 : World.frozen? (wr) ⟨w.heap.size, 1, none⟩ = false := (HH.out.blk 3 rfl).frozen 1
        have z0 : World.cell? (wr) ⟨w.heap.size + 1 + 1, 0, none⟩ = some _ := (HH.out.blk 1 rfl).cell 0
        have zf0 : World.frozen? (wr) ⟨w.heap.size + 1 + 1, 0, none⟩ = false := (HH.out.blk 1 rfl).frozen 0
        have z1 : World.cell? (wr) ⟨w.heap.size + 1 + 1, 1, none⟩ = some _ := (HH.out.blk 1 rfl).cell 1
        have zf1 : World.frozen? (wr) ⟨w.heap.size + 1 + 1, 1, none⟩ = false := (HH.out.blk 1 rfl).frozen 1
        have H6 := ((HH.out.set 3 rfl 1 (.slice A5 L5 c5)).set 1 rfl 0 (.int .i64 start)).set 1 rfl 1 (.slice A5 L5 c5)
        have hB := H6.blk 1 rfl
        have hX := hVh.out _ (.slice A5 L5 c5) ⟨_, fun W t => ⟨((H6.own 0 rfl).turns t (fun k hk hkG => by
          rcases mine_own H6 0 rfl k hk with h1 | h1
          · cases h1
          · have := hGh.out k hkG; omega)).reads, (by rw [hfe.out]; exact hXSh.out W ((H6.t.mono (by simp)).trans t))⟩⟩ H6.t
        clear H6 HH hVh hxh hSh hXSh hL5h
        go_wp2_with fail
        refine bodyPost_ret (res_one rfl (.cell (w.heap.size + 1 + 1) _ _ _ rfl hB Try.underlying24 rfl (by kernel_rfl) .nil)) rfl ?_
        exact hX
      | false =>
        have hfe : Hid (withR R r = out ++ [r]) := Lib.hid (by rw [← hend.out, ← hSh.out]; rfl)
        go_wp2_with (at_builtin; refine stop_ ?_)
        refine Mk_.mk ?_
        refine (HH.out.alloc #[.int .i64 r.key, .int .i64 r.avail, .int .i64 r.mark, .slice Ao r.out.length co] 38).append 1 rfl (one_row (x := (⟨r.key, r.avail, r.mark, .slice Ao r.out.length co⟩ : Rw)) (Blk.new _ #[.int .i64 r.key, .int .i64 r.avail, .int .i64 r.mark, .slice Ao r.out.length co] 38) rfl) (L5 + 1) (hlen1.out) ((X ++ [(⟨r.key, r.avail, r.mark, .slice Ao r.out.length co⟩ : Rw)]).map Rw.cells) (by rw [List.map_append]) rfl _ _ _ rfl (.agg #[.int .i64 0, .int .i64 0, .int .i64 0, .slice none 0 0]) 48 Try.underlying22 infoRow rfl (by decide) rfl rfl (by intro r hr u hu; simp [Rw.cells] at hr; subst hr; simp at hu; rcases hu with rfl | rfl | rfl | rfl <;> rfl) (by omega) (by omega) ?_
        intro A6 c6 w6 H6 t6 _
        have K6 := Lib.hid (H6.keep [1, 2, 3, 4])
        clear H6 t6 HH
        clear t1 g0 g1 g2 g3
        have t0 : World.cell? (w6) ⟨w.heap.size, 0, none⟩ = some _ := (K6.out.blk 3 rfl).cell 0
        have t1 : World.cell? (w6) ⟨w.heap.size, 1, none⟩ = some _ := (K6.out.blk 3 rfl).cell 1
        have tf1 : World.frozen? (w6) ⟨w.heap.size, 1, none⟩ = false := (K6.out.blk 3 rfl).frozen 1
        have z0 : World.cell? (w6) ⟨w.heap.size + 1 + 1, 0, none⟩ = some _ := (K6.out.blk 1 rfl).cell 0
        have zf0 : World.frozen? (w6) ⟨w.heap.size + 1 + 1, 0, none⟩ = false := (K6.out.blk 1 rfl).frozen 0
        have z1 : World.cell? (w6) ⟨w.heap.size + 1 + 1, 1, none⟩ = some _ := (K6.out.blk 1 rfl).cell 1
        have zf1 : World.frozen? (w6) ⟨w.heap.size + 1 + 1, 1, none⟩ = false := (K6.out.blk 1 rfl).frozen 1
        have H6 := ((K6.out.set 3 rfl 1 (.slice A6 (L5 + 1) c6)).set 1 rfl 0 (.int .i64 start)).set 1 rfl 1 (.slice A6 (L5 + 1) c6)
        have hB := H6.blk 1 rfl
        have hX := hVh.out _ (.slice A6 (L5 + 1) c6) ⟨_, fun W t => ⟨((H6.own 0 rfl).turns t (fun k hk hkG => by
          rcases mine_own H6 0 rfl k hk with h1 | h1
          · cases h1
          · have := hGh.out k hkG; omega)).reads, (by rw [hfe.out]; exact (hXSh.out.snoc hxh.out) W ((H6.t.mono (by simp)).trans t))⟩⟩ H6.t
        clear H6 K6 hVh hxh hSh hXSh hL5h
        go_wp2_with fail
        refine bodyPost_ret (res_one rfl (.cell (w.heap.size + 1 + 1) _ _ _ rfl hB Try.underlying24 rfl (by kernel_rfl) .nil)) rfl ?_
        exact hX
end Go.Proofs.Ytphhfdlhkginkaa.Bk
