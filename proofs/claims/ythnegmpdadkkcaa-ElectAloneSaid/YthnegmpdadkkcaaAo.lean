/- The law ElectAlone: its walk, and its arguments opened. -/
import Derived.Test.YthnegmpdadkkcaaAn
import Derived.Test.YthnegmpdadkkcaaHa
set_option linter.unusedVariables false
set_option linter.unusedSimpArgs false
set_option maxRecDepth 100000
namespace Go.Proofs.Ythnegmpdadkkcaa.Ao
open Go.RowKit Go.MapKept Go.ChangeShapes Go.WideShapes Hm Hs Hr Hc Hd Hf Hg Hv Ho Hn Ha Rg Cn El Em En Eo Ep Es Ap Am An
structure Mv where
  kind : Int
  who : Int
  what : Int
def Mv.cells (a : Mv) : List Value := [.int .u8 a.kind, .int .u8 a.who, .int .u16 a.what]
def newE (n i : Nat) : El := ⟨n, i, 0, 0, 0, 0⟩
def newEs (n k : Nat) : List El := (List.range k).map (newE n)
theorem newEs_len (n k : Nat) : (newEs n k).length = k := by simp [newEs]
theorem newEs_succ (n k : Nat) : newEs n (k + 1) = newEs n k ++ [newE n k] := by unfold newEs; rw [List.range_succ, List.map_append]; rfl
theorem newEs_at {n k i : Nat} {e : El} (h : (newEs n k)[i]? = some e) : e = newE n i ∧ i < k := by
  have hi : i < k := by have := (List.getElem?_eq_some_iff.1 h).1; rwa [newEs_len] at this
  unfold newEs at h
  rw [List.getElem?_map, List.getElem?_range hi] at h
  injection h with h
  exact ⟨h.symm, hi⟩
theorem hold0 {n : Nat} (hn : 1 ≤ n ∧ n ≤ 9) : Hold n (newEs n n) [] [] :=
  ⟨hn, newEs_len n n, fun i e h => by
    obtain ⟨rfl, hi⟩ := newEs_at h
    exact ⟨⟨by show 1 ≤ n ∧ n ≤ 64; omega, hi, by show (0 : Int) ≤ 0 ∧ (0 : Int) ≤ _; omega, by show (0 : Int) ≤ 0 ∧ (0 : Int) ≤ _; omega, .inl rfl, by show (0 : Nat) < _; omega⟩, rfl, rfl⟩, by simp, fun i e h hb => by
    obtain ⟨rfl, hi⟩ := newEs_at h
    exact absurd rfl hb, by simp⟩
theorem alone_long (W : World) (size : Int) (A : Option Addr) (c : Nat) (l : List Mv) (hl : 120 < l.length) :
    Calls Try.prog 8 #[.int .u8 size, .slice A l.length c] W fun e w' => e = .returned (.bool true) ∧ Below W.heap.size W w' := by
  have g1 : decide ((l.length : Int) > 120) = true := decide_eq_true (by omega)
  go_enter Try.func8, Try.ntmps8
  go_wp2_with fail
  go_at_call 38
  refine Calls.mono (Er.alive_is _) ?_
  rintro e w1 ⟨rfl, t1⟩
  go_wp2_with fail
  go_ret
  exact ⟨rfl, t1.isBelow⟩
set_option maxHeartbeats 8000000 in
theorem alone_is (W : World) (size : Int) (hs : 0 ≤ size ∧ size ≤ 255) (A : Option Addr) (c : Nat) (l : List Mv) (hl : l.length ≤ 120) (hf : FlatRow W A 3 (l.map Mv.cells)) (hb : ∀ a ∈ l, (0 ≤ a.kind ∧ a.kind ≤ 255) ∧ (0 ≤ a.who ∧ a.who ≤ 255) ∧ (0 ≤ a.what ∧ a.what ≤ 65535)) :
    Calls Try.prog 8 #[.int .u8 size, .slice A l.length c] W fun e w' => e = .returned (.bool true) ∧ Below W.heap.size W w' := by
  have g1 : decide ((l.length : Int) > 120) = false := decide_eq_false (by omega)
  obtain ⟨m, rfl⟩ := Int.eq_ofNat_of_zero_le hs.1
  obtain ⟨n', hn'⟩ : ∃ n', m % 9 = n' := ⟨_, rfl⟩
  have hw1 : IntKind.i64.wrap (m : Int) = m := IntWalk.i64_in _ (by omega)
  have hm : (m : Int).tmod 9 = (n' : Int) := by rw [Int.tmod_eq_emod_of_nonneg hs.1, ← hn']; simp
  have hn9 : n' < 9 := by rw [← hn']; exact Nat.mod_lt _ (by omega)
  obtain ⟨n, hnn⟩ : ∃ n, n' + 1 = n := ⟨_, rfl⟩
  have hw2 : IntKind.i64.wrap ((n' : Int) + 1) = (n : Int) := by rw [IntWalk.i64_in _ (by omega)]; omega
  have hw3 : (n' : Int) + 1 = (n : Int) := by omega
  have hn1 : 1 ≤ n ∧ n ≤ 9 := by omega
  have hfh : Hid _ := hf
  have hbh : Hid _ := hb
  have hH0 : Hl W.heap.size (W.alloc (.cells #[.int .i64 n, .slice none 0 0, .slice none 0 0, .slice none 0 0] 87)) W.heap.size n (.slice none 0 0) (.slice none 0 0) (.slice none 0 0) [] (newEs n 0) [] [] :=
    ⟨Blk.new W _ _, OwnS.nil _ _ _, OwnS.nil _ _ _, OwnS.nil _ _ _, by simp, rfl, by simp, Nat.le_refl _, by simp [Value.ownBlock], by simp [Value.ownBlock], by simp [Value.ownBlock], by simp⟩
  have B0 : Below W.heap.size W (W.alloc (.cells #[.int .i64 n, .slice none 0 0, .slice none 0 0, .slice none 0 0] 87)) := (Below.refl _ _).alloc (Nat.le_refl _) _
  clear hf hb hn' hs
  go_enter Try.func8, Try.ntmps8
  go_wp2_with fail
  generalize W.alloc (.cells #[.int .i64 n, .slice none 0 0, .slice none 0 0, .slice none 0 0] 87) = w0 at *
  go_loopw [6] (fun v6 wr => ∃ (k : Nat) (lv : Value) (bs : List Nat), k ≤ n ∧ v6 = .int .i64 k ∧ Hl W.heap.size wr W.heap.size n lv (.slice none 0 0) (.slice none 0 0) bs (newEs n k) [] [] ∧ Below W.heap.size W wr) (fun v6 _ => n - (intOf v6).toNat)
  case atStart => exact ⟨0, _, _, Nat.zero_le _, rfl, hH0, B0⟩
  case round =>
    obtain ⟨k, lv, bs, hk, rfl, hH, B⟩ := hrel
    have d0 : wr.cell? ⟨W.heap.size, 0, none⟩ = some (.int .i64 n) := hH.hb.cell 0
    by_cases hlt : k < n
    · have q1 : decide ((k : Int) < (n : Int)) = true := by simp; omega
      have hnew : newOk n k 0 0 := ⟨by omega, by omega, by omega, by omega⟩
      have hnewh : Hid _ := hnew
      clear hnew hH0 B0
      go_wp2_with fail
      go_at_call 39
      refine Calls.mono (new_ok n k 0 0 hnewh.out _) ?_
      rintro e w1 ⟨b', rfl, hE, hb1, t1⟩
      have h1 := hH.turns t1
      have B1 := B.trans (low t1 (by simp) B.size)
      have hlt0 := hH.lts
      have d1 : w1.cell? ⟨W.heap.size, 1, none⟩ = some lv := h1.hb.cell 1
      have A2 := (Turns.refl [] w1).alloc (.cells #[.pointer (some ⟨b', 0, none⟩)] 65)
      have h2 := h1.turns A2
      have hE2 : IsE 159 (w1.alloc (.cells #[.pointer (some ⟨b', 0, none⟩)] 65)) b' (newE n k) := Blk.turns hE A2 (by simp)
      have R2 : RdS 1 (w1.alloc (.cells #[.pointer (some ⟨b', 0, none⟩)] 65)) (.slice (some ⟨w1.heap.size, 0, none⟩) 1 1) (ptrs [b']) := RdS.of_cells (rows := ptrs [b']) (heap_alloc w1 (.cells #[.pointer (some ⟨b', 0, none⟩)] 65)).1 rfl (by simp [ptrs]) 1 (by simp [ptrs]) (by decide)
      have B2 := B1.alloc B1.size (.cells #[.pointer (some ⟨b', 0, none⟩)] 65)
      have R2h : Hid _ := R2
      have hblen : bs.length = k := by rw [hH.len, newEs_len]
      have hne2 : b' ≠ W.heap.size := fun q => by have := hlt0.h; omega
      clear R2 hE h1 B1 hH t1 d0 A2 B
      go_wp2_with (at_builtin; refine stop_ ?_)
      refine Mk_.mk ?_
      refine wp_append h2.hl R2h.out rfl _ _ _ rfl (.pointer none) 8 Try.underlying84 infoP rfl (by decide) rfl rfl (ptrs_one _) (by simp; omega) (by simp; omega) ?_
      intro v3 w3 ho3 t3 hloc hnil
      have hap : ptrs bs ++ ptrs [b'] = ptrs (bs ++ [b']) := by unfold ptrs; rw [List.map_append]
      rw [hap] at ho3
      obtain ⟨A3, c3, hv3, _⟩ := ho3.form
      rw [ptrs_len, List.length_append, List.length_singleton, hblen] at hv3
      subst hv3
      have hb3 := h2.hb.turns t3 (by simpa using fun hm => (h2.hl.ne_blk hm h2.hb (by decide)) rfl)
      have hE3 : IsE 159 w3 b' (newE n k) := Blk.turns hE2 t3 (by simpa using fun hm => (h2.hl.ne_blk hm hE2 (by decide)) rfl)
      have hk3 : ∀ (i2 b2 : Nat) (e2 : El), bs[i2]? = some b2 → (newEs n k)[i2]? = some e2 → IsE 159 w3 b2 e2 := fun i2 b2 e2 q1 q2 => by
        have hE := h2.he i2 b2 e2 q1 q2
        exact Blk.turns hE t3 (by simpa using fun hm => (h2.hl.ne_blk hm hE (by decide)) rfl)
      have B3 := B2.trans (low (n := W.heap.size) t3 (fun j hj => h2.ll j (by simpa using hj)) B2.size)
      have ll3 : ∀ j, (Value.slice A3 (k + 1) c3).ownBlock = some j → W.heap.size ≤ j := fun j hj => by
        rcases hloc with q | q
        · exact h2.ll j (q ▸ hj)
        · rw [hj] at q; injection q with q; have := B2.size; omega
      have hne3 : ∀ j, (Value.slice A3 (k + 1) c3).ownBlock = some j → j ≠ W.heap.size := fun j hj => ho3.ne_blk hj hb3 (by decide)
      have ts : Turns [W.heap.size] w3 (w3.setCell ⟨W.heap.size, 1, none⟩ (.slice A3 (k + 1) c3)) := (Turns.refl [W.heap.size] w3).setCell (p := ⟨W.heap.size, 1, none⟩) (by simp) _
      have h4 : Hl W.heap.size (w3.setCell ⟨W.heap.size, 1, none⟩ (.slice A3 (k + 1) c3)) W.heap.size n (.slice A3 (k + 1) c3) (.slice none 0 0) (.slice none 0 0) (bs ++ [b']) (newEs n (k + 1)) [] [] := by
        rw [newEs_succ]
        refine ⟨hb3.set 1 _, ho3.turns ts (fun j hj => by simpa using hne3 j hj), OwnS.nil _ _ _, OwnS.nil _ _ _, fun i2 b2 e2 q1 q2 => ?_, by rw [List.length_append, List.length_append, h2.len]; rfl, fun j1 j2 b2 q1 q2 => ?_, Nat.le_refl _, ll3, by simp [Value.ownBlock], by simp [Value.ownBlock], fun i2 b2 q1 => ?_⟩
        · rcases Nat.lt_or_ge i2 k with hi | hi
          · rw [List.getElem?_append_left (by rw [hblen]; exact hi)] at q1
            rw [List.getElem?_append_left (by rw [newEs_len]; exact hi)] at q2
            have hE := hk3 i2 b2 e2 q1 q2
            exact Blk.turns hE ts (by simpa using (Blk.ne hb3 hE (by decide)).symm)
          · rw [List.getElem?_append_right (by rw [hblen]; exact hi), hblen] at q1
            rw [List.getElem?_append_right (by rw [newEs_len]; exact hi), newEs_len] at q2
            have h0 : i2 - k = 0 := by
              rcases Nat.eq_zero_or_pos (i2 - k) with h | h
              · exact h
              · rw [List.getElem?_eq_none (by simp; omega)] at q1; cases q1
            rw [h0] at q1 q2
            injection q1 with q1
            injection q2 with q2
            subst q1 q2
            exact Blk.turns hE3 ts (by simpa using hne2)
        · have key : ∀ (j : Nat), (bs ++ [b'])[j]? = some b2 → (j < k ∧ bs[j]? = some b2) ∨ (j = k ∧ b2 = b') := fun j q => by
            rcases Nat.lt_or_ge j k with hi | hi
            · rw [List.getElem?_append_left (by rw [hblen]; exact hi)] at q
              exact .inl ⟨hi, q⟩
            · rw [List.getElem?_append_right (by rw [hblen]; exact hi), hblen] at q
              have h0 : j - k = 0 := by
                rcases Nat.eq_zero_or_pos (j - k) with h | h
                · exact h
                · rw [List.getElem?_eq_none (by simp; omega)] at q; cases q
              rw [h0] at q
              injection q with q
              exact .inr ⟨by omega, q.symm⟩
          rcases key j1 q1 with ⟨a1, a2⟩ | ⟨a1, a2⟩
          · rcases key j2 q2 with ⟨c1, c2⟩ | ⟨c1, c2⟩
            · exact h2.nd j1 j2 b2 a2 c2
            · subst c2; have := hlt0.b j1 _ a2; omega
          · rcases key j2 q2 with ⟨c1, c2⟩ | ⟨c1, c2⟩
            · subst a2; have := hlt0.b j2 _ c2; omega
            · omega
        · rcases List.mem_append.1 (List.mem_of_getElem? q1) with q | q
          · obtain ⟨i3, hi3⟩ := List.getElem?_of_mem q
            exact h2.lb i3 b2 hi3
          · simp at q
            subst q
            have := hlt0.h
            omega
      have B4 := B3.trans (low (n := W.heap.size) ts (by simp) B3.size)
      have d1' : w3.cell? ⟨W.heap.size, 1, none⟩ = some lv := hb3.cell 1
      have f1 := hb3.frozen 1
      clear h2 hE2 R2h B2 t3 hloc hnil hb3 hE3 hk3 B3 ll3 hne3 ts ho3 hlt0 hap hblen d1
      go_wp2_with fail
      go_roundw
      case rel => exact ⟨k + 1, _, _, by omega, by go_num, h4, B4⟩
      case measure => simp [intOf]; omega
    · obtain rfl : k = n := by omega
      have q1 : decide ((k : Int) < (k : Int)) = false := by simp
      have hHd0 := hold0 hn1
      have hHh : Hid _ := hH
      have hHdh : Hid _ := hHd0
      clear hHd0 hH0 B0
      go_wp2_with fail
      go_loopw [9] (fun v9 wz => ∃ (j : Nat) (lv fv wv : Value) (bs : List Nat) (es : List El) (fs : List Fr) (ws : List Int), j ≤ l.length ∧ v9 = .int .i64 j ∧ Hl W.heap.size wz W.heap.size k lv fv wv bs es fs ws ∧ Hold k es fs ws ∧ fs.length ≤ j ∧ ws.length ≤ j ∧ Below W.heap.size W wz) (fun v9 _ => l.length - (intOf v9).toNat)
      case atStart => exact ⟨0, _, _, _, _, _, _, _, Nat.zero_le _, rfl, hHh.out, hHdh.out, by simp, by simp, B⟩
      case round =>
        obtain ⟨j, lv2, fv2, wv2, bs2, es2, fs2, ws2, hj, rfl, hH2, hI2, hfl, hwl, B2⟩ := hrel
        clear hHh hHdh hH B d0
        by_cases hjl : j < l.length
        · have q2 : decide ((j : Int) < (l.length : Int)) = true := by simp; omega
          obtain ⟨a, ha⟩ : ∃ a, l[j]? = some a := ⟨_, List.getElem?_eq_getElem hjl⟩
          obtain ⟨ha1, ha2, ha3⟩ := hbh.out a (List.mem_of_getElem? ha)
          obtain ⟨ad, rfl, _, hc⟩ := FlatRow.at_ hfh.out (j := j) (c := a.cells) (by rw [List.getElem?_map, ha]; rfl)
          have i0 := old_cell B2 (Nat.le_refl _) (hc 0 _ rfl)
          have i1 := old_cell B2 (Nat.le_refl _) (hc 1 _ rfl)
          have i2 := old_cell B2 (Nat.le_refl _) (hc 2 _ rfl)
          rw [Nat.add_zero] at i0
          rw [add_field _ _ _ (by omega)] at i1 i2
          have hfh2 : Hid (fs2.length ≤ j) := hfl
          have hwh2 : Hid (ws2.length ≤ j) := hwl
          clear hc ha
          go_wp2_with fail
          go_at_call 48
          refine Calls.mono (move_is W.heap.size _ W.heap.size k lv2 fv2 wv2 bs2 es2 fs2 ws2 a.kind a.who a.what hH2 hI2 ha1 ha2 ha3 B2.size (by omega) (by omega)) ?_
          rintro e w5 ⟨rfl, B5, lv3, fv3, wv3, bs3, es3, fs3, ws3, hH3, hI3, hf3, hw3⟩
          have B6 := B2.trans B5
          clear hH2 hI2 B2 B5 i0 i1 i2
          go_wp2_with fail
          go_roundw
          case rel => exact ⟨j + 1, lv3, fv3, wv3, bs3, es3, fs3, ws3, by omega, by go_num, hH3, hI3, by have := hfh2.out; omega, by have := hwh2.out; omega, B6⟩
          case measure => simp [intOf]; omega
        · obtain rfl : j = l.length := by omega
          have q2 : decide ((l.length : Int) < (l.length : Int)) = false := by simp
          clear hH2 hI2 hfh hbh
          go_wp2_with fail
          go_at_call 38
          refine Calls.mono (Er.alive_is _) ?_
          rintro e w6 ⟨rfl, t6⟩
          go_wp2_with fail
          go_ret
          exact ⟨rfl, B2.trans (low t6 (by simp) B2.size)⟩
theorem nestMv : Nest Try.prog 91 [kInt .u8, kInt .u8, kInt .u16] :=
  nStruct Try.underlying91 (ncons rfl (nInt Try.underlying5 (by kernel_rfl)) (ncons rfl (nInt Try.underlying5 (by kernel_rfl)) (ncons rfl (nInt Try.underlying89 (by kernel_rfl)) nnil rfl) rfl) rfl) (by kernel_rfl)
theorem moves_of {W : World} {v : Value} (h : kSlice [kInt .u8, kInt .u8, kInt .u16] W v) :
    ∃ A c acts, v = .slice A (acts : List Mv).length c ∧ FlatRow W A 3 (acts.map Mv.cells) ∧ ∀ a ∈ acts, (0 ≤ a.kind ∧ a.kind ≤ 255) ∧ (0 ≤ a.who ∧ a.who ≤ 255) ∧ (0 ≤ a.what ∧ a.what ≤ 65535) := by
  obtain ⟨A, c, rows, hv, hc, hm, hn, hf, hk⟩ := h
  obtain ⟨acts, rfl, ha⟩ := rows_of (f := Mv.cells) (p := fun a => (0 ≤ a.kind ∧ a.kind ≤ 255) ∧ (0 ≤ a.who ∧ a.who ≤ 255) ∧ (0 ≤ a.what ∧ a.what ≤ 65535)) (fun r hr => by
    obtain ⟨v0, r0, rfl, ⟨n0, rfl, w0⟩, k0⟩ := (hk r hr).out
    obtain ⟨v1, r1, rfl, ⟨n1, rfl, w1⟩, k1⟩ := k0.out
    obtain ⟨v2, r2, rfl, ⟨n2, rfl, w2⟩, k2⟩ := k1.out
    obtain rfl := k2.none
    exact ⟨⟨n0, n1, n2⟩, rfl, u8_bd w0, u8_bd w1, u16_bd w2⟩)
  exact ⟨A, c, acts, by rw [hv, List.length_map], hf, ha⟩
theorem opened {H : Type} (enc : TypeId × Value → H) (W : World) {base : Nat} {v0 v1 : Value} {d0 d1 : DataW H} {p0 p1 : List MemPlace} (h0 : DataW.Trod enc Try.prog W 0 (fun _ => true) true 5 v0 d0 p0)
    (h1 : DataW.Trod enc Try.prog W 0 (fun _ => true) true 82 v1 d1 p1) (o0 : Value.okWide Try.prog W .any base 5 v0) (o1 : Value.okWide Try.prog W .any base 82 v1) :
    Calls Try.prog 8 #[v0, v1] W fun e w' => e = .returned (.bool true) ∧ Below W.heap.size W w' := by
  obtain ⟨size, rfl, hs⟩ := arg_int Try.underlying5 (by kernel_rfl) h0 o0
  obtain ⟨A, c, l, rfl, hf, hb⟩ := moves_of (arg_slice Try.underlying82 nestMv (by kernel_rfl) h1 o1)
  by_cases hl : l.length ≤ 120
  · exact alone_is W size (u8_bd hs) A c l hl hf hb
  · exact alone_long W size A c l (by omega)
end Go.Proofs.Ythnegmpdadkkcaa.Ao
