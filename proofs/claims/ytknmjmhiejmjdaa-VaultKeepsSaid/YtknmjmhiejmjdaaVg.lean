/- The walk of the document's Open. -/
import Derived.Test.YtknmjmhiejmjdaaVs
set_option linter.unusedVariables false
set_option linter.unusedSimpArgs false
set_option maxRecDepth 100000
namespace Go.Proofs.Ytknmjmhiejmjdaa.Vg
open Go.RowKit Go.MapKept Go.ChangeShapes Go.WideShapes Hm Hs Hr Hb Hf Hg Hv Ho Hx Dk Dr Kw Kn Kr Ks Va Vb Vc Vd Ve Vf Vs
theorem infoV : (Try.prog.info? 47).map (fun i => (i.zero, i.size, i.bytes)) = some (some (.agg #[.int .i64 0, .int .i64 0, .int .i64 0, .int .i64 0]), 4, 32) := by kernel_rfl
theorem v4_one (l : List V4) : ∀ r ∈ l.map V4.cells, ∀ u ∈ r, u.oneCell' = true := by
  intro r hr u hu
  obtain ⟨x, _, rfl⟩ := List.mem_map.1 hr
  simp [V4.cells] at hu
  rcases hu with rfl | rfl | rfl | rfl <;> rfl
theorem oneV {w : World} {b : Nat} {s : V4} (h : Blk w b #[.int .i64 s.p, .int .i64 s.g, .int .i64 s.h, .int .i64 s.r] 47) : RdS 4 w (.slice (some ⟨b, 0, none⟩) 1 1) ([s].map V4.cells) :=
  RdS.of_cells (rows := [s].map V4.cells) h rfl (by simp [V4.cells]) 1 (by simp) (by decide)
/-- what is read ahead of a record's append -/
structure Kv (W : World) (m ms d : Nat) (lv : Value) (s : V4) : Prop where
  a : Blk W m #[.pointer (some ⟨d, 0, none⟩), lv] 52
  c : Blk W ms #[.int .i64 s.p, .int .i64 s.g, .int .i64 s.h, .int .i64 s.r] 47
/-- what Open leaves: refused, or a vault -/
def DOut (w : World) (b : Nat) (sv lv : Value) (safe loose : List Int) (room : Int) (L : List V4) (n : Nat) (e : Ending) (w' : World) : Prop :=
  (L.length < n ∧ e = .returned (.tuple #[.pointer none, .int .i64 2]) ∧ Sep (rfoot b sv lv) w [tDr b sv lv safe loose room] w') ∨
  (L.length = n ∧ ∃ mb lvv sv' lv' safe' loose', e = .returned (.tuple #[.pointer (some ⟨mb, 0, none⟩), .int .i64 0]) ∧ Sep (rfoot b sv lv) w [tM mb b lvv L, tDr b sv' lv' safe' loose' room] w' ∧
    (32 * L.length = (safe ++ loose).length → safe' = safe ∧ loose' = loose) ∧ (32 * L.length < (safe ++ loose).length → safe' = (safe ++ loose).take (32 * L.length) ∧ loose' = []))
/-- what the four numbers say -/
def Four (w : List Int) (K : Nat) (L : List V4) (k n : Nat) (x : V4) (s4 : St) (ok ris : Bool) : Prop :=
  (k < L.length ∧ k < n ∧ s4 = ⟨w.drop (K + 32), false⟩ ∧ ok = true ∧ ris = true ∧ L[k]? = some x) ∨ (k = L.length ∧ L.length < n ∧ (s4.failed = true ∨ (s4.failed = false ∧ ok = false) ∨ (s4.failed = false ∧ ok = true ∧ ris = false)))
theorem four_of {file : List Int} {L : List V4} {k n K : Nat} {x : V4} {s4 : St} (hg : Vf.Good file L) (hn : L.length = n ∨ (L.length < n ∧ Vf.Bad file L)) (hk : k ≤ L.length) (hkn : k < n) (hK : 32 * k = K)
    (hq : (x, s4) = (decV (file.drop K), (⟨(file.drop K).drop 32, false⟩ : St)) ∨ (s4.failed = true ∧ (decV (file.drop K)).ok = false)) : Four file K L k n x s4 x.ok ((lastV (L.take k)).rises x) := by
  subst hK
  rcases Nat.lt_or_ge k L.length with h | h
  · left
    obtain ⟨y, hy⟩ : ∃ y, L[k]? = some y := ⟨_, List.getElem?_eq_getElem h⟩
    obtain ⟨h1, h2, h3⟩ := hg k y hy
    rcases hq with hq | ⟨_, hq⟩
    · injection hq with ha hb
      rw [ha, ← h1]
      exact ⟨h, hkn, by rw [hb, List.drop_drop], h2, h3, hy⟩
    · rw [← h1, h2] at hq; cases hq
  · right
    have hkL : k = L.length := by omega
    subst hkL
    have hlt : L.length < n := by omega
    rw [List.take_length]
    rcases hq with hq | ⟨hq, _⟩
    · injection hq with ha hb
      have hbad : Vf.Bad file L := by
        rcases hn with hn | ⟨_, hn⟩
        · omega
        · exact hn
      rw [ha, hb]
      refine ⟨rfl, hlt, .inr ?_⟩
      cases hok : (decV (file.drop (32 * L.length))).ok with
      | false => exact .inl ⟨rfl, rfl⟩
      | true =>
        rcases hbad with hb | hb
        · rw [hok] at hb; cases hb
        · exact .inr ⟨rfl, rfl, hb⟩
    · exact ⟨rfl, hlt, .inl hq⟩
set_option maxHeartbeats 4000000 in
theorem dopen_is (w : World) (b : Nat) (sv lv : Value) (safe loose : List Int) (room : Int) (L : List V4) (n : Nat) (h : IsR w b sv lv safe loose room) (hl : (safe ++ loose).length ≤ 1000000) (hby : Byt (safe ++ loose)) (hg : Vf.Good (safe ++ loose) L)
    (hn0 : n = (safe ++ loose).length / 32) (hn : L.length = n ∨ (L.length < n ∧ Vf.Bad (safe ++ loose) L)) (hroom : ((safe ++ loose).length : Int) ≤ room) :
    Calls Try.prog 9 #[.pointer (some ⟨b, 0, none⟩)] w (DOut w b sv lv safe loose room L n) := by
  have H : Sep (rfoot b sv lv) w [tDr b sv lv safe loose room] w := by
    have := Got.one (T := tDr b sv lv safe loose room) h
    unfold Got at this
    simpa [fps, tDr] using this
  replace H := H.alloc #[.pointer (some ⟨b, 0, none⟩), .slice none 0 0] 52
  obtain ⟨file, hfile⟩ : ∃ file, safe ++ loose = file := ⟨_, rfl⟩
  have hl0 : safe.length + loose.length ≤ 16777216 := by rw [List.length_append] at hl; omega
  have hFl := rfile_is _ b sv lv safe loose room (H.at_ 1 rfl) hl0
  have hDO : Hid (DOut w b sv lv safe loose room L n = DOut w b sv lv safe loose room L n) := Lib.hid rfl
  generalize hX : DOut w b sv lv safe loose room L n = X
  have hXh : Hid _ := hX
  clear hX hDO
  rw [hfile] at hFl hby hg hn0 hn hl hroom
  have hFlh : Hid _ := hFl
  have hfileh : Hid (safe ++ loose = file) := hfile
  have hby' : Hid (Byt file) := hby
  have hgh : Hid (Vf.Good file L) := hg
  have hnh : Hid (L.length = n ∨ (L.length < n ∧ Vf.Bad file L)) := hn
  have hn0h : Hid (n = file.length / 32) := hn0
  have hrmh : Hid ((file.length : Int) ≤ room) := hroom
  clear hby hg h hFl hfile hn hn0 hroom hl0
  go_enter Try.func9, Try.ntmps9
  go_wp2_with fail
  go_at_call 28
  refine Calls.mono (hFlh.out) ?_
  rintro e w1 ⟨v, rfl, ho1, t1, hf1⟩
  replace H := H.newSlice t1 ho1 hf1
  obtain ⟨A, c, rfl, hc1, hc2, hc3⟩ := ho1.form
  rw [bys_len] at H hc1
  replace H := H.newSlice ((Turns.refl _ _).alloc _) (own_empty w1) (by simp [Value.ownBlock])
  have hs2 := (H.own 1 rfl).reads
  clear ho1 t1 hf1 hc2 hc3 hFlh
  go_wp2_with (at_builtin; refine stop_ ?_)
  refine Mk_.mk ?_
  refine H.append 0 rfl hs2 file.length (by simp) (bys file) (by simp) rfl _ _ _ rfl (.int .u8 0) 1 Try.underlying39 Dk.info5 rfl (by decide) rfl rfl (bys_one _) (by omega) (by omega) ?_
  intro A3 c3 w3 H _ _
  replace H := H.alloc #[.slice A3 file.length c3, .bool false] 74
  have hby2 := hby'.out
  replace H : Sep (rfoot b sv lv) w [tRd 74 w3.heap.size (Value.slice A3 file.length c3).ownBlock ⟨file, false⟩, tOwn 5 1 (.slice A file.length c) (bys file), tBlk w.heap.size #[.pointer (some ⟨b, 0, none⟩), .slice none 0 0] 52, tDr b sv lv safe loose room] (w3.alloc (.cells #[.slice A3 file.length c3, .bool false] 74)) := by
    refine Sep.shut_ (ps := [tBlk w3.heap.size #[.slice A3 file.length c3, .bool false] 74, tOwn 5 1 (.slice A3 file.length c3) (bys file)]) H (by simp [tRd, fps, tBlk, tOwn]) (fun hT hA => ?_)
    have h1 : Blk _ w3.heap.size #[.slice A3 file.length c3, .bool false] 74 := hT (tBlk w3.heap.size #[.slice A3 file.length c3, .bool false] 74) (by simp)
    have h2 : OwnS 5 1 _ (.slice A3 file.length c3) (bys file) := hT (tOwn 5 1 (.slice A3 file.length c3) (bys file)) (by simp)
    exact ⟨⟨_, h1, h2.reads, rfl⟩, fun h0 => h2.ne_blk h0 h1 (by decide) rfl, hby2, fun k hk => h2.lt hk⟩
  replace H := H.nilSlice 47 4
  obtain ⟨N, hN⟩ : ∃ N, file.length / 32 = N := ⟨_, rfl⟩
  have hq32 : (file.length : Int) / 32 = (N : Int) := by omega
  have hN' : Hid (file.length / 32 = N) := hN
  have hnN : n = N := by have := hn0h.out; omega
  subst hnN
  clear hN hby2 hs2
  go_wp2_with fail
  generalize w3.alloc (.cells #[.slice A3 file.length c3, .bool false] 74) = w4 at *
  generalize hrb : w3.heap.size = rb at *
  generalize hrown : (Value.slice A3 file.length c3).ownBlock = rown at *
  clear hrb hrown
  go_loopw [8] (fun v8 wr => ∃ (k : Nat) (lv' : Value), k ≤ L.length ∧ v8 = .int .i64 k ∧ Sep (rfoot b sv lv) w [tOwn 47 4 lv' ((L.take k).map V4.cells), tRd 74 rb rown ⟨file.drop (32 * k), false⟩, tOwn 5 1 (.slice A file.length c) (bys file), tBlk w.heap.size #[.pointer (some ⟨b, 0, none⟩), lv'] 52, tDr b sv lv safe loose room] wr) (fun v8 _ => n - (intOf v8).toNat)
  case atStart => exact ⟨0, _, by omega, rfl, H⟩
  case round =>
    obtain ⟨k, lv', hk, rfl, H5⟩ := hrel
    clear H
    have H := H5
    clear H5
    obtain ⟨K, hK⟩ : ∃ K, 32 * k = K := ⟨_, rfl⟩
    rw [hK] at H
    have hKh : Hid (32 * k = K) := hK
    have hkn : k ≤ n := by have := hnh.out; omega
    have hn6 : n ≤ 1000000 := by have := hn0h.out; omega
    rcases Nat.lt_or_ge k n with hlt | hge
    · have g1 : decide ((k : Int) < (n : Int)) = true := by simp; omega
      have hrest : 32 ≤ (file.drop K).length := by rw [List.length_drop]; have := hn0h.out; omega
      obtain ⟨x1, x2, x3, x4, s1, s2, s3, s4, hQ⟩ := q4_of (file.drop K)
      have hq := quad_is (l := file.drop K) hrest (hby'.out.drop K)
      rw [hQ.q] at hq
      have hfour := four_of hgh.out hnh.out hk hlt hK hq
      have hfourh : Hid _ := hfour
      have hQh : Hid _ := hQ
      have hdl : (file.drop K).length ≤ 1000000 := by rw [List.length_drop]; omega
      have hdlh : Hid ((file.drop K).length ≤ 1000000) := hdl
      have N1 := Kt.dnum_is wr rb rown _ (H.at_ 1 rfl) hdl
      rw [hQ.e1] at N1
      have N1h : Hid _ := N1
      clear N1 hQ hq hfour hdl hrest hK
      go_wp2_with fail
      go_at_call 29
      refine Calls.mono (N1h.out) ?_
      rintro e w5 ⟨rfl, I6, t5⟩
      replace H := Vs.Sep.reader H 1 rfl I6 t5
      replace H := H.alloc #[.int .i64 x1, .int .i64 0, .int .i64 0, .int .i64 0] 47
      have N2 := Kt.dnum_is _ rb rown _ (H.at_ 2 rfl) (by have := hdlh.out; have := hQh.out.l1; omega)
      rw [hQh.out.e2] at N2
      have N2h : Hid _ := N2
      clear N2 N1h I6 t5
      go_wp2_with fail
      go_at_call 29
      refine Calls.mono (N2h.out) ?_
      rintro e w6 ⟨rfl, I6, t5⟩
      replace H := Vs.Sep.reader H 2 rfl I6 t5
      have c1 : w6.cell? ⟨w5.heap.size, 1, none⟩ = some _ := (H.blk 0 rfl).cell 1
      have f1 := (H.blk 0 rfl).frozen 1
      replace H := H.set 0 rfl 1 (.int .i64 x2)
      have N3 := Kt.dnum_is _ rb rown _ (H.at_ 2 rfl) (by have := hdlh.out; have := hQh.out.l2; omega)
      rw [hQh.out.e3] at N3
      have N3h : Hid _ := N3
      clear N3 N2h I6 t5
      go_wp2_with fail
      go_at_call 29
      refine Calls.mono (N3h.out) ?_
      rintro e w7 ⟨rfl, I6, t5⟩
      replace H := Vs.Sep.reader H 2 rfl I6 t5
      have c2 : w7.cell? ⟨w5.heap.size, 2, none⟩ = some _ := (H.blk 0 rfl).cell 2
      have f2 := (H.blk 0 rfl).frozen 2
      replace H := H.set 0 rfl 2 (.int .i64 x3)
      have N4 := Kt.dnum_is _ rb rown _ (H.at_ 2 rfl) (by have := hdlh.out; have := hQh.out.l3; omega)
      rw [hQh.out.e4] at N4
      have N4h : Hid _ := N4
      clear N4 N3h I6 t5 c1 f1
      go_wp2_with fail
      go_at_call 29
      refine Calls.mono (N4h.out) ?_
      rintro e w8 ⟨rfl, I6, t5⟩
      replace H := Vs.Sep.reader H 2 rfl I6 t5
      have c3' : w8.cell? ⟨w5.heap.size, 3, none⟩ = some _ := (H.blk 0 rfl).cell 3
      have f3 := (H.blk 0 rfl).frozen 3
      replace H := H.set 0 rfl 3 (.int .i64 x4)
      clear N4h I6 t5 c2 f2
      have S : Blk _ w5.heap.size #[.int .i64 x1, .int .i64 x2, .int .i64 x3, .int .i64 x4] 47 := H.blk 0 rfl
      have e0 : (w8.setCell ⟨w5.heap.size, 3, none⟩ (.int .i64 x4)).cell? ⟨w5.heap.size, 0, none⟩ = some (.int .i64 x1) := S.cell 0
      have e1 : (w8.setCell ⟨w5.heap.size, 3, none⟩ (.int .i64 x4)).cell? ⟨w5.heap.size, 1, none⟩ = some (.int .i64 x2) := S.cell 1
      have e2 : (w8.setCell ⟨w5.heap.size, 3, none⟩ (.int .i64 x4)).cell? ⟨w5.heap.size, 2, none⟩ = some (.int .i64 x3) := S.cell 2
      have e3 : (w8.setCell ⟨w5.heap.size, 3, none⟩ (.int .i64 x4)).cell? ⟨w5.heap.size, 3, none⟩ = some (.int .i64 x4) := S.cell 3
      have hRt := dright_is (w8.setCell ⟨w5.heap.size, 3, none⟩ (.int .i64 x4)) ⟨x1, x2, x3, x4⟩
      have hRi := fun w => drises_is w (lastV (L.take k)) ⟨x1, x2, x3, x4⟩
      dsimp only at hRt hRi
      generalize hok : (⟨x1, x2, x3, x4⟩ : V4).ok = ok at *
      generalize hris : (lastV (L.take k)).rises ⟨x1, x2, x3, x4⟩ = ris at *
      have hRth : Hid _ := hRt
      have hRih : Hid _ := hRi
      clear hRt hRi hok hris S
      go_wp2_with fail
      go_at_call 30
      refine Calls.mono (hRth.out) ?_
      rintro e w9 ⟨rfl, ta⟩
      replace H := (H.turns ta).drew
      clear ta hRth e0 e1 e2 e3 c3' f3
      have S : Blk _ w5.heap.size #[.int .i64 x1, .int .i64 x2, .int .i64 x3, .int .i64 x4] 47 := H.blk 0 rfl
      have hLs := last_is w9.drew w.heap.size b lv' (L.take k) ⟨H.blk 4 rfl, H.own 1 rfl⟩ (by rw [List.length_take]; omega)
      have hLsh : Hid _ := hLs
      clear hLs
      go_wp2_with fail
      refine wp_region_flo2 [(0, true, [3]), (2, true, [1]), (1, false, []), (3, false, []), (4, true, [])] (fun j W => Blk W w5.heap.size #[.int .i64 x1, .int .i64 x2, .int .i64 x3, .int .i64 x4] 47) (by kernel_rfl) rfl (by kernel_rfl) (by intro c d v a w h; cases d <;> first | (simpa [Exit.then, Exit.inBlock, Act.put] using h) | exact h) ?_
      generalize w9.drew = wa at *
      have e0 : wa.cell? ⟨w5.heap.size, 0, none⟩ = some (.int .i64 x1) := S.cell 0
      have e1 : wa.cell? ⟨w5.heap.size, 1, none⟩ = some (.int .i64 x2) := S.cell 1
      have e2 : wa.cell? ⟨w5.heap.size, 2, none⟩ = some (.int .i64 x3) := S.cell 2
      have e3 : wa.cell? ⟨w5.heap.size, 3, none⟩ = some (.int .i64 x4) := S.cell 3
      first
        | (refine flo2_read _ rfl (fun _ => True) trivial (fun _ _ _ _ => trivial) (fun K hK => ?_); go_simp; first | (refine hK _ ?_) | (refine ⟨fun W _ => ?_, hK _ ?_⟩; · (go_simp)) | (refine ⟨fun W => ?_, hK _ ?_⟩; · (go_simp)))
        | (refine flo2_read _ rfl (fun W => W = _) rfl (by simp) (fun K hK => ?_); go_simp; first | (refine hK _ ?_) | (refine ⟨fun W hS => ?_, hK _ ?_⟩; · (subst hS; go_simp)) | (refine ⟨?_, hK _ ?_⟩; · (go_simp)))
      clear hK K
      refine flo2_read _ rfl (fun W => Blk W w5.heap.size #[.int .i64 x1, .int .i64 x2, .int .i64 x3, .int .i64 x4] 47) (S) (fun j hj W k => k) (fun K hK => ?_)
      go_simp
      first | (refine hK _ ?_) | (refine ⟨fun W hS => ?_, hK _ ?_⟩; · (have y0 : W.cell? ⟨w5.heap.size, 0, none⟩ = some (.int .i64 x1) := hS.cell 0; have y1 : W.cell? ⟨w5.heap.size, 1, none⟩ = some (.int .i64 x2) := hS.cell 1; have y2 : W.cell? ⟨w5.heap.size, 2, none⟩ = some (.int .i64 x3) := hS.cell 2; have y3 : W.cell? ⟨w5.heap.size, 3, none⟩ = some (.int .i64 x4) := hS.cell 3; try go_simp))
      clear hK K
      refine flo2_alone _ rfl ?_
      go_wp2_with fail
      go_at_call 31
      refine Calls.mono (hLsh.out) ?_
      rintro e wb ⟨rfl, tb⟩
      go_wp2_with fail
      refine ⟨S.turns tb (by simp), _, fun _ _ h => h, ?_⟩
      replace H := H.turns tb
      clear e0 e1 e2 e3 S hLsh
      refine flo2_alone _ rfl ?_
      go_wp2_with fail
      go_at_call 20
      refine Calls.mono (hRih.out _) ?_
      rintro e wc ⟨rfl, tc⟩
      go_wp2_with fail
      refine ⟨H.turns tc |>.blk 0 rfl, _, fun _ _ h => h, ?_⟩
      replace H := H.turns tc
      clear tb tc hRih
      first
        | (refine flo2_read _ rfl (fun _ => True) trivial (fun _ _ _ _ => trivial) (fun K hK => ?_); go_simp; first | (refine hK _ ?_) | (refine ⟨fun W _ => ?_, hK _ ?_⟩; · (go_simp)) | (refine ⟨fun W => ?_, hK _ ?_⟩; · (go_simp)))
        | (refine flo2_read _ rfl (fun W => W = _) rfl (by simp) (fun K hK => ?_); go_simp; first | (refine hK _ ?_) | (refine ⟨fun W hS => ?_, hK _ ?_⟩; · (subst hS; go_simp)) | (refine ⟨?_, hK _ ?_⟩; · (go_simp)))
      clear hK K
      refine flo2_end ?_
      have hfail : wc.cell? ⟨rb, 1, none⟩ = some (.bool s4.failed) := (IsRd.cell1 (H.at_ 2 rfl)).1
      rcases hfourh.out with ⟨hkL, _, hs4, rfl, rfl, hx⟩ | ⟨hkL, hLn, hbad⟩
      · subst hs4
        go_wp2_with fail
        replace H := H.drew
        have hap : (L.take (k + 1)).map V4.cells = (L.take k).map V4.cells ++ [(⟨x1, x2, x3, x4⟩ : V4)].map V4.cells := by rw [List.take_add_one, hx, List.map_append]; rfl
        have haph : Hid _ := hap
        have hxh : Hid _ := hx
        clear hap hx hfail
        go_wp2_with fail
        refine wp_region_flo2 [(0, true, [6, 7]), (1, true, [6, 7]), (2, true, [6, 7]), (3, true, [6, 7]), (4, true, [6]), (5, true, [7]), (6, false, []), (7, false, []), (8, true, [10]), (9, true, []), (10, false, [])] (fun j W => j ≠ 10 → Kv W w.heap.size w5.heap.size b lv' ⟨x1, x2, x3, x4⟩) (by kernel_rfl) rfl (by kernel_rfl) (by intro c d v a w h; cases d <;> first | (simpa [Exit.then, Exit.inBlock, Act.put] using h) | exact h) ?_
        generalize wc.drew = wd at *
        have V : Kv wd w.heap.size w5.heap.size b lv' ⟨x1, x2, x3, x4⟩ := ⟨H.blk 4 rfl, H.blk 0 rfl⟩
        have c1 : wd.cell? ⟨w.heap.size, 1, none⟩ = some _ := V.a.cell 1
        have e0 : wd.cell? ⟨w5.heap.size, 0, none⟩ = some (.int .i64 x1) := V.c.cell 0
        have e1 : wd.cell? ⟨w5.heap.size, 1, none⟩ = some (.int .i64 x2) := V.c.cell 1
        have e2 : wd.cell? ⟨w5.heap.size, 2, none⟩ = some (.int .i64 x3) := V.c.cell 2
        have e3 : wd.cell? ⟨w5.heap.size, 3, none⟩ = some (.int .i64 x4) := V.c.cell 3
        first
          | (refine flo2_read _ rfl (fun _ => True) trivial (fun _ _ _ _ => trivial) (fun K hK => ?_); go_simp; first | (refine hK _ ?_) | (refine ⟨fun W _ => ?_, hK _ ?_⟩; · (go_simp)) | (refine ⟨fun W => ?_, hK _ ?_⟩; · (go_simp)))
          | (refine flo2_read _ rfl (fun W => W = _) rfl (by simp) (fun K hK => ?_); go_simp; first | (refine hK _ ?_) | (refine ⟨fun W hS => ?_, hK _ ?_⟩; · (subst hS; go_simp)) | (refine ⟨?_, hK _ ?_⟩; · (go_simp)))
        clear hK K
        first
          | (refine flo2_read _ rfl (fun _ => True) trivial (fun _ _ _ _ => trivial) (fun K hK => ?_); go_simp; first | (refine hK _ ?_) | (refine ⟨fun W _ => ?_, hK _ ?_⟩; · (go_simp)) | (refine ⟨fun W => ?_, hK _ ?_⟩; · (go_simp)))
          | (refine flo2_read _ rfl (fun W => W = _) rfl (by simp) (fun K hK => ?_); go_simp; first | (refine hK _ ?_) | (refine ⟨fun W hS => ?_, hK _ ?_⟩; · (subst hS; go_simp)) | (refine ⟨?_, hK _ ?_⟩; · (go_simp)))
        clear hK K
        first
          | (refine flo2_read _ rfl (fun _ => True) trivial (fun _ _ _ _ => trivial) (fun K hK => ?_); go_simp; first | (refine hK _ ?_) | (refine ⟨fun W _ => ?_, hK _ ?_⟩; · (go_simp)) | (refine ⟨fun W => ?_, hK _ ?_⟩; · (go_simp)))
          | (refine flo2_read _ rfl (fun W => W = _) rfl (by simp) (fun K hK => ?_); go_simp; first | (refine hK _ ?_) | (refine ⟨fun W hS => ?_, hK _ ?_⟩; · (subst hS; go_simp)) | (refine ⟨?_, hK _ ?_⟩; · (go_simp)))
        clear hK K
        first
          | (refine flo2_read _ rfl (fun _ => True) trivial (fun _ _ _ _ => trivial) (fun K hK => ?_); go_simp; first | (refine hK _ ?_) | (refine ⟨fun W _ => ?_, hK _ ?_⟩; · (go_simp)) | (refine ⟨fun W => ?_, hK _ ?_⟩; · (go_simp)))
          | (refine flo2_read _ rfl (fun W => W = _) rfl (by simp) (fun K hK => ?_); go_simp; first | (refine hK _ ?_) | (refine ⟨fun W hS => ?_, hK _ ?_⟩; · (subst hS; go_simp)) | (refine ⟨?_, hK _ ?_⟩; · (go_simp)))
        clear hK K
        refine flo2_read _ rfl (fun W => Kv W w.heap.size w5.heap.size b lv' ⟨x1, x2, x3, x4⟩) (V) (by simp) (fun K hK => ?_)
        go_simp
        first | (refine hK _ ?_) | (refine ⟨fun W hS => ?_, hK _ ?_⟩; · (have x0 : W.cell? ⟨w.heap.size, 1, none⟩ = some _ := hS.a.cell 1; try go_simp))
        clear hK K
        refine flo2_read _ rfl (fun W => Kv W w.heap.size w5.heap.size b lv' ⟨x1, x2, x3, x4⟩) (V) (by simp) (fun K hK => ?_)
        go_simp
        first | (refine hK _ ?_) | (refine ⟨fun W hS => ?_, hK _ ?_⟩; · (have y0 : W.cell? ⟨w5.heap.size, 0, none⟩ = some (.int .i64 x1) := hS.c.cell 0; have y1 : W.cell? ⟨w5.heap.size, 1, none⟩ = some (.int .i64 x2) := hS.c.cell 1; have y2 : W.cell? ⟨w5.heap.size, 2, none⟩ = some (.int .i64 x3) := hS.c.cell 2; have y3 : W.cell? ⟨w5.heap.size, 3, none⟩ = some (.int .i64 x4) := hS.c.cell 3; try go_simp))
        clear hK K
        refine flo2_alone _ rfl ?_
        go_wp2_with fail
        replace H := H.alloc #[.int .i64 x1, .int .i64 x2, .int .i64 x3, .int .i64 x4] 47
        refine ⟨fun _ => ⟨H.blk 5 rfl, H.blk 1 rfl⟩, _, fun _ _ h => h, ?_⟩
        clear V c1 e0 e1 e2 e3
        refine flo2_alone _ rfl ?_
        refine H.append 2 rfl (oneV (s := ⟨x1, x2, x3, x4⟩) (H.blk 0 rfl)) (k + 1) (by rw [List.length_map, List.length_take]; simp; omega) ((L.take (k + 1)).map V4.cells) haph.out rfl _ _ _ rfl (.agg #[.int .i64 0, .int .i64 0, .int .i64 0, .int .i64 0]) 32 Try.underlying50 infoV rfl (by decide) rfl rfl (v4_one _) (by omega) (by omega) ?_
        intro A5 c5 we H t5 _
        go_wp2_with fail
        refine ⟨fun _ => ⟨H.blk 5 rfl, H.blk 1 rfl⟩, _, fun _ _ h => h, ?_⟩
        first
          | (refine flo2_read _ rfl (fun _ => True) trivial (fun _ _ _ _ => trivial) (fun K hK => ?_); go_simp; first | (refine hK _ ?_) | (refine ⟨fun W _ => ?_, hK _ ?_⟩; · (go_simp)) | (refine ⟨fun W => ?_, hK _ ?_⟩; · (go_simp)))
          | (refine flo2_read _ rfl (fun W => W = _) rfl (by simp) (fun K hK => ?_); go_simp; first | (refine hK _ ?_) | (refine ⟨fun W hS => ?_, hK _ ?_⟩; · (subst hS; go_simp)) | (refine ⟨?_, hK _ ?_⟩; · (go_simp)))
        clear hK K
        first
          | (refine flo2_read _ rfl (fun _ => True) trivial (fun _ _ _ _ => trivial) (fun K hK => ?_); go_simp; first | (refine hK _ ?_) | (refine ⟨fun W _ => ?_, hK _ ?_⟩; · (go_simp)) | (refine ⟨fun W => ?_, hK _ ?_⟩; · (go_simp)))
          | (refine flo2_read _ rfl (fun W => W = _) rfl (by simp) (fun K hK => ?_); go_simp; first | (refine hK _ ?_) | (refine ⟨fun W hS => ?_, hK _ ?_⟩; · (subst hS; go_simp)) | (refine ⟨?_, hK _ ?_⟩; · (go_simp)))
        clear hK K
        have c1 : we.cell? ⟨w.heap.size, 1, none⟩ = some _ := (H.blk 5 rfl).cell 1
        have f1 := (H.blk 5 rfl).frozen 1
        refine flo2_alone _ rfl ?_
        go_wp2_with fail
        replace H := H.set 5 rfl 1 (.slice A5 (k + 1) c5)
        refine ⟨by simp, _, fun _ _ h => h, ?_⟩
        refine flo2_end ?_
        replace H := H.keep [2, 3, 4, 5, 6]
        go_wp2_with fail
        go_roundw
        case rel => exact ⟨k + 1, .slice A5 (k + 1) c5, by omega, by go_num, by rw [show 32 * (k + 1) = K + 32 by have := hKh.out; omega]; exact H⟩
        case measure => simp [intOf]; omega
      · have hret : DOut w b sv lv safe loose room L n (.returned (.tuple #[.pointer none, .int .i64 2])) wc := .inl ⟨hLn, rfl, H.keep [5]⟩
        rw [hXh.out] at hret
        clear H
        rcases hbad with hb | ⟨hb1, hb2⟩ | ⟨hb1, hb2, hb3⟩
        · rw [hb] at hfail
          go_wp2_with fail
          exact hret
        · rw [hb1] at hfail
          subst hb2
          go_wp2_with fail
          exact hret
        · rw [hb1] at hfail
          subst hb2 hb3
          go_wp2_with fail
          exact hret
    · have hkn2 : k = n := by omega
      subst hkn2
      have hLn : L.length = k := by have := hnh.out; omega
      have g1 : decide ((k : Int) < (k : Int)) = false := by simp
      rw [List.take_of_length_le (by omega)] at H
      have hkl : k * 32 ≤ file.length := by have := hn0h.out; omega
      have hKl : K ≤ file.length := by omega
      have wK : IntKind.i64.wrap (32 * (k : Int)) = (K : Int) := by rw [IntWalk.i64_in _ (by omega)]; omega
      have hM : Sep (rfoot b sv lv) w [tM w.heap.size b lv' L, tDr b sv lv safe loose room, tOwn 5 1 (.slice A file.length c) (bys file)] wr :=
        Sep.shut_ (ps := [tOwn 47 4 lv' (L.map V4.cells), tBlk w.heap.size #[.pointer (some ⟨b, 0, none⟩), lv'] 52]) (H.keep [0, 3, 4, 2]) (by intro q hq; simp [tM, fps, tBlk, tOwn] at hq ⊢; exact hq.symm) (fun hT _ => ⟨hT (tBlk w.heap.size #[.pointer (some ⟨b, 0, none⟩), lv'] 52) (by simp), hT (tOwn 47 4 lv' (L.map V4.cells)) (by simp)⟩)
      clear H
      by_cases hfull : K = file.length
      · have g2 : decide ((K : Int) < (file.length : Int)) = false := by simp; omega
        have g3 : ¬ (K < file.length) := by omega
        have g4 : decide (K < file.length) = false := decide_eq_false g3
        have hret : DOut w b sv lv safe loose room L k (.returned (.tuple #[.pointer (some ⟨w.heap.size, 0, none⟩), .int .i64 0])) wr :=
          .inr ⟨hLn, _, _, _, _, _, _, rfl, hM.keep [0, 1], fun _ => ⟨rfl, rfl⟩, fun h0 => by rw [hfileh.out, hLn] at h0; omega⟩
        rw [hXh.out] at hret
        clear hM hfull hLn hK
        go_wp2_with fail
        exact hret
      · have g2 : decide ((K : Int) < (file.length : Int)) = true := by simp; omega
        have g3 : K < file.length := by omega
        have g4 : decide (K < file.length) = true := decide_eq_true g3
        have R3 := RdS.take (hM.own 2 rfl).reads (k := K) (by rw [bys_len]; omega)
        rw [bys_take] at R3
        have hlk : (file.take K).length = K := by rw [List.length_take]; omega
        have hRp := rreplace_ok wr b sv lv _ safe loose (file.take K) room (hM.at_ 1 rfl) R3 (by omega) (decide_eq_false (by have := hrmh.out; omega))
        have hRph : Hid _ := hRp
        have hKc : (K : Int) ≤ (c : Int) := by omega
        clear hRp hlk R3 hK
        go_wp2_with fail
        go_at_call 32
        refine Calls.mono (hRph.out) ?_
        rintro e wn ⟨rfl, sv3, hd3, t3, m3⟩
        replace hM := Vs.Sep.rdisk hM 1 rfl hd3 (t3.mono (by simp [rfoot])) m3
        have hret : DOut w b sv lv safe loose room L k (.returned (.tuple #[.pointer (some ⟨w.heap.size, 0, none⟩), .int .i64 0])) wn :=
          .inr ⟨hLn, _, _, _, _, _, _, rfl, hM.keep [0, 1], fun h0 => by rw [hfileh.out, hLn] at h0; have := hKh.out; omega, fun _ => by rw [hfileh.out, hLn, hKh.out]; exact ⟨rfl, rfl⟩⟩
        rw [hXh.out] at hret
        clear hM hLn
        go_wp2_with fail
        exact hret
end Go.Proofs.Ytknmjmhiejmjdaa.Vg
