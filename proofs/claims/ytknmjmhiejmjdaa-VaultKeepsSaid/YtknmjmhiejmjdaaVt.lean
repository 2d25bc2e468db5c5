/- The law VaultPlays. -/
import Derived.Test.YtknmjmhiejmjdaaVq
set_option linter.unusedVariables false
set_option linter.unusedSimpArgs false
set_option maxRecDepth 100000
namespace Go.Proofs.Ytknmjmhiejmjdaa.Vt
open Go.RowKit Go.MapKept Go.ChangeShapes Go.WideShapes Hm Hs Hr Hb Hf Hg Hv Ho Hx Dk Dr Kw Kn Kr Ks Va Vb Vc Vd Ve Vf Vs Vg Vi Vj Vl Vm Vo Vp Hn Ha
structure Ac where
  kind : Int
  s : V4
  keep : Int
def Ac.cells (a : Ac) : List Value := [.int .u8 a.kind, .int .i64 a.s.p, .int .i64 a.s.g, .int .i64 a.s.h, .int .i64 a.s.r, .int .i64 a.keep]
/-- both vaults, alike, of records that rise -/
def PInv (T : Th) (w : World) (room : Int) (b d' vb mb : Nat) (wr : World) : Prop := ∃ fv lv L sv lw safe loose, Chain L ∧ safe ++ loose = flat L ∧ (32 * L.length : Int) ≤ room ∧ Sep [] w [tV vb b (lastV L) L.length, tDk b fv (safe ++ loose) safe.length room, tM mb d' lv L, tDr d' sv lw safe loose room, T] wr
theorem PInv.t {T : Th} {w wr : World} {room : Int} {b d' vb mb : Nat} (h : PInv T w room b d' vb mb wr) : Turns [] w wr := by
  obtain ⟨_, _, _, _, _, _, _, _, _, _, H⟩ := h
  exact H.t
theorem PInv.turns {T : Th} {w wr w2 : World} {room : Int} {b d' vb mb : Nat} (h : PInv T w room b d' vb mb wr) (t : Turns [] wr w2) : PInv T w room b d' vb mb w2 := by
  obtain ⟨fv, lv, L, sv, lw, safe, loose, h1, h2, h3, H⟩ := h
  exact ⟨fv, lv, L, sv, lw, safe, loose, h1, h2, h3, H.turns t⟩
/-- how many puts -/
def nputs (a : Ac) : Nat := (if a.kind % 6 ≤ 2 then 1 else if a.kind % 6 = 5 then max (min a.keep 70) 0 else 0).toNat
theorem nputs_eq (a : Ac) : ((nputs a : Nat) : Int) = (if a.kind % 6 ≤ 2 then 1 else if a.kind % 6 = 5 then max (min a.keep 70) 0 else 0) := by
  unfold nputs
  split
  · rfl
  · split <;> omega
theorem nputs_le (a : Ac) : nputs a ≤ 70 := by
  have := nputs_eq a
  split at this <;> (try split at this) <;> omega
/-- one put at both -/
theorem put_both {T : Th} {w : World} {room : Int} {b d' vb mb : Nat} {wr : World} (h : PInv T w room b d' vb mb wr) (s : V4) (hroom : room ≤ 65535) : ∃ r : Int,
    (Calls Try.prog 11 #[.pointer (some ⟨vb, 0, none⟩), sAgg s] wr fun e w2 => e = .returned (.int .i64 r) ∧ Turns [] w w2 ∧
      ∀ w3, Turns [] w2 w3 → Calls Try.prog 12 #[.pointer (some ⟨mb, 0, none⟩), sAgg s] w3 fun e w4 => e = .returned (.int .i64 r) ∧ PInv T w room b d' vb mb w4) := by
  obtain ⟨fv, lv, L, sv, lw, safe, loose, h1, h2, h3, H⟩ := h
  have hlen : (safe ++ loose).length = 32 * L.length := by rw [h2, flat_len]
  refine ⟨putR4 (lastV L) s (safe ++ loose).length room, ?_⟩
  refine (put_is wr vb b (lastV L) s L.length fv (safe ++ loose) safe.length room _ (H.got [0, 1]) (by omega) (by omega) rfl).mono ?_
  rintro e w2 ⟨rfl, h4⟩
  have hd := fun w3 (h : Got (md mb d' lv L sv lw safe loose room) w3) => dput_is w3 mb d' lv L sv lw safe loose room s _ h (by omega) (by omega) rfl
  rcases h4 with ⟨hr, h4⟩ | ⟨hr, fv', h4⟩
  · replace H := H.call [0, 1] h4
    refine ⟨rfl, H.t, fun w3 t3 => ?_⟩
    replace H := H.turns t3
    refine (hd w3 (H.got [2, 3])).mono ?_
    rintro e w4 ⟨rfl, h5⟩
    rcases h5 with ⟨_, h5⟩ | ⟨hr2, _⟩
    · exact ⟨rfl, fv, lv, L, sv, lw, safe, loose, h1, h2, h3, ((H.call [2, 3] h5).keep [2, 3, 0, 1, 4])⟩
    · exact absurd hr2 hr
  · replace H := H.call [0, 1] h4
    refine ⟨rfl, H.t, fun w3 t3 => ?_⟩
    replace H := H.turns t3
    refine (hd w3 (H.got [2, 3])).mono ?_
    rintro e w4 ⟨rfl, h5⟩
    rcases h5 with ⟨hr2, _⟩ | ⟨_, lv', lw', h5⟩
    · exact absurd hr hr2
    · have hr3 := hr
      unfold putR4 at hr3
      cases hok : s.ok with
      | false => rw [hok] at hr3; simp at hr3
      | true =>
        cases hris : (lastV L).rises s with
        | false => rw [hok, hris] at hr3; simp at hr3
        | true =>
          have hrm : ((safe ++ loose).length : Int) + 32 ≤ room := by
            rw [hok, hris] at hr3
            simp only [Bool.true_eq_false, if_false] at hr3
            split at hr3
            · cases hr3
            · omega
          have hl1 : lastV (L ++ [s]) = s := lastV_snoc _ _
          refine ⟨rfl, fv', lv', L ++ [s], sv, lw', safe, loose ++ recB s, h1.snoc hok hris, by rw [← List.append_assoc, h2, flat_append, flat_one], by rw [List.length_append, List.length_singleton]; omega, ?_⟩
          have H2 : Sep [] w [tV vb b s ((L.length : Int) + 1), tDk b fv' (safe ++ loose ++ recB s) safe.length room, tM mb d' lv' (L ++ [s]), tDr d' sv lw' safe (loose ++ recB s) room, T] w4 := (H.call [2, 3] h5).keep [2, 3, 0, 1, 4]
          rw [List.append_assoc] at H2
          show Sep [] w [tV vb b (lastV (L ++ [s])) (L ++ [s]).length, _, _, _, _] w4
          rw [hl1, List.length_append, List.length_singleton]
          exact H2
/-- both synced -/
theorem sync_both {T : Th} {w : World} {room : Int} {b d' vb mb : Nat} {wr : World} (h : PInv T w room b d' vb mb wr) (hroom : room ≤ 65535) :
    (Calls Try.prog 14 #[.pointer (some ⟨vb, 0, none⟩)] wr fun e w2 => e = .returned (.tuple #[]) ∧ Calls Try.prog 15 #[.pointer (some ⟨mb, 0, none⟩)] w2 fun e w4 => e = .returned (.tuple #[]) ∧ PInv T w room b d' vb mb w4) := by
  obtain ⟨fv, lv, L, sv, lw, safe, loose, h1, h2, h3, H⟩ := h
  have hlen : (safe ++ loose).length = 32 * L.length := by rw [h2, flat_len]
  have hl0 := hlen
  rw [List.length_append] at hl0
  refine (vsync_is wr vb b (lastV L) L.length fv (safe ++ loose) safe.length room (H.got [0, 1]) (by omega) (by omega) (last_ok h1) (by omega)).mono ?_
  rintro e w2 ⟨rfl, h4⟩
  have hd := fun w3 (h : Got (md mb d' lv L sv lw safe loose room) w3) => msync_is w3 mb d' lv L sv lw safe loose room h (by omega) (by omega) (last_ok h1) (by omega)
  rcases h4 with ⟨hr, h4⟩ | ⟨hr, fv', h4⟩
  · replace H := H.call [0, 1] h4
    refine ⟨rfl, (hd w2 (H.got [2, 3])).mono ?_⟩
    rintro e w4 ⟨rfl, h5⟩
    rcases h5 with ⟨_, sv', lw', h5⟩ | ⟨hr2, _⟩
    · refine ⟨rfl, fv, lv, L, sv', lw', safe ++ loose, [], h1, by rw [List.append_nil]; exact h2, h3, ?_⟩
      have H2 : Sep [] w [tV vb b (lastV L) L.length, tDk b fv (safe ++ loose) (safe ++ loose).length room, tM mb d' lv L, tDr d' sv' lw' (safe ++ loose) [] room, T] w4 := (H.call [2, 3] h5).keep [2, 3, 0, 1, 4]
      show Sep [] w [_, tDk b fv (safe ++ loose ++ []) _ room, _, _, _] w4
      rw [List.append_nil]
      exact H2
    · omega
  · replace H := H.call [0, 1] h4
    refine ⟨rfl, (hd w2 (H.got [2, 3])).mono ?_⟩
    rintro e w4 ⟨rfl, h5⟩
    rcases h5 with ⟨hr2, _⟩ | ⟨_, lv', sv', lw', h5⟩
    · omega
    · refine ⟨rfl, fv', lv', [lastV L], sv', lw', recB (lastV L), [], Chain.one (last_ok h1), by rw [List.append_nil, flat_one], by simp; omega, ?_⟩
      have H2 : Sep [] w [tV vb b (lastV L) 1, tDk b fv' (recB (lastV L)) 32 room, tM mb d' lv' [lastV L], tDr d' sv' lw' (recB (lastV L)) [] room, T] w4 := (H.call [2, 3] h5).keep [2, 3, 0, 1, 4]
      show Sep [] w [tV vb b (lastV [lastV L]) ([lastV L] : List V4).length, tDk b fv' (recB (lastV L) ++ []) (recB (lastV L)).length room, _, _, _] w4
      rw [List.append_nil, recB_len]
      exact H2
/-- both crashed, and opened -/
theorem crash_both {T : Th} {w : World} {room : Int} {b d' vb mb : Nat} {wr : World} (h : PInv T w room b d' vb mb wr) (keep : Int) (hroom : room ≤ 65535) : ∃ r1 r2 : Int,
    (Calls Try.prog 16 #[.pointer (some ⟨b, 0, none⟩), .int .i64 keep] wr fun e w2 => e = .returned (.int .i64 r1) ∧ Turns [] w w2 ∧ (∃ lv, Blk w2 mb #[.pointer (some ⟨d', 0, none⟩), lv] 52) ∧
      ∀ w3, Turns [] w2 w3 → Calls Try.prog 17 #[.pointer (some ⟨d', 0, none⟩), .int .i64 keep] w3 fun e w4 => e = .returned (.int .i64 r2) ∧
        Calls Try.prog 8 #[.pointer (some ⟨b, 0, none⟩)] w4 fun e w5 => ∃ vb', e = .returned (.tuple #[.pointer (some ⟨vb', 0, none⟩), .int .i64 0]) ∧ (∃ lv, Blk w5 mb #[.pointer (some ⟨d', 0, none⟩), lv] 52) ∧
          Calls Try.prog 9 #[.pointer (some ⟨d', 0, none⟩)] w5 fun e w6 => ∃ mb', e = .returned (.tuple #[.pointer (some ⟨mb', 0, none⟩), .int .i64 0]) ∧ PInv T w room b d' vb' mb' w6) := by
  obtain ⟨fv, lv, L, sv, lw, safe, loose, h1, h2, h3, H⟩ := h
  have hlen : (safe ++ loose).length = 32 * L.length := by rw [h2, flat_len]
  have hl0 := hlen
  rw [List.length_append] at hl0
  obtain ⟨k, hk⟩ : ∃ k : Nat, min (max keep 0) (loose.length : Int) = k := ⟨(min (max keep 0) (loose.length : Int)).toNat, by omega⟩
  obtain ⟨m, hm⟩ : ∃ m, safe.length + k = m := ⟨_, rfl⟩
  have hkl : k ≤ loose.length := by omega
  have htk : (safe ++ loose).take m = safe ++ loose.take k := by rw [← hm, List.take_append, List.take_of_length_le (by omega), Nat.add_sub_cancel_left]
  obtain ⟨t, ht, htl, htn⟩ := crash_split L m (by rw [← h2]; omega)
  rw [← h2] at ht htl htn
  have hchain := h1.take (m / 32)
  have hby : Byt ((safe ++ loose).take m) := by rw [h2]; exact (byt_flat h1.ok).take m
  have hLm : (L.take (m / 32)).length = m / 32 := by rw [htn, htl]
  refine ⟨((safe ++ loose).length : Int) - m, (loose.length : Int) - k, ?_⟩
  refine (crash_is wr b fv (safe ++ loose) safe.length room keep m (H.at_ 1 rfl) (by omega) (by omega) (by omega)).mono ?_
  rintro e w2 ⟨rfl, fv2, d2, t2, m2⟩
  replace H := Vs.Sep.disk H 1 rfl d2 t2 m2
  refine ⟨rfl, H.t, ⟨lv, IsM.blk (H.at_ 2 rfl)⟩, fun w3 t3 => ?_⟩
  replace H := H.turns t3
  refine (rcrash_is w3 d' sv lw safe loose room keep k (H.at_ 3 rfl) (by omega) hk).mono ?_
  rintro e w4 ⟨rfl, sv2, d4, t4, m4⟩
  replace H := Vs.Sep.rdisk H 3 rfl d4 (t4.mono (by simp [rfoot])) m4
  refine ⟨rfl, ?_⟩
  refine (vopen_is w4 b fv2 ((safe ++ loose).take m) (m : Int) room (L.take (m / 32)) (m / 32) (H.got [1]) (by omega) hby (by rw [ht]; exact hchain.good t) (by rw [htl]) (.inl hLm) (by omega)).mono ?_
  rintro e w5 (⟨h0, _⟩ | ⟨_, vb', fv5, sf5, rfl, h5, hs1, hs2⟩)
  · omega
  replace H := H.call [1] h5
  refine ⟨vb', rfl, ⟨lv, IsM.blk (H.at_ 3 rfl)⟩, ?_⟩
  refine (dopen_is w5 d' sv2 (.slice none 0 0) (safe ++ loose.take k) [] room (L.take (m / 32)) (m / 32) (H.at_ 4 rfl) (by rw [List.append_nil, ← htk, htl]; omega) (by rw [List.append_nil, ← htk]; exact hby) (by rw [List.append_nil, ← htk, ht]; exact hchain.good t) (by rw [List.append_nil, ← htk, htl]) (.inl hLm) (by rw [List.append_nil, ← htk, htl]; omega)).mono ?_
  rintro e w6 (⟨h0, _⟩ | ⟨_, mb', lv6, sv6, lw6, sf6, ls6, rfl, h6, hs3, hs4⟩)
  · omega
  replace H := H.call1 4 rfl h6
  rw [List.append_nil, ← htk, htl] at hs3 hs4
  rw [htl] at hs1 hs2
  rw [hLm] at hs1 hs2 hs3 hs4
  have hfl : flat (L.take (m / 32)) = ((safe ++ loose).take m).take (32 * (m / 32)) := by
    rw [h2, List.take_take, Nat.min_eq_left (by omega), flat_take]
  have hj : sf6 ++ ls6 = flat (L.take (m / 32)) ∧ sf5 = (sf6.length : Int) := by
    rcases Nat.lt_or_ge (32 * (m / 32)) m with h0 | h0
    · obtain ⟨e1, e2⟩ := hs4 h0
      rw [e1, e2, hs2 h0, List.append_nil, hfl, List.length_take, htl]
      exact ⟨rfl, by omega⟩
    · obtain ⟨e1, e2⟩ := hs3 (by omega)
      rw [e1, e2, hs1 (by omega), List.append_nil, hfl, show 32 * (m / 32) = m from by omega, List.take_take, Nat.min_self, htl]
      exact ⟨rfl, rfl⟩
  refine ⟨mb', rfl, fv5, lv6, L.take (m / 32), sv6, lw6, sf6, ls6, hchain, hj.1, by rw [hLm]; omega, ?_⟩
  have H2 : Sep [] w [tV vb' b (lastV (L.take (m / 32))) (L.take (m / 32)).length, tDk b fv5 (((safe ++ loose).take m).take (32 * (L.take (m / 32)).length)) sf5 room, tM mb' d' lv6 (L.take (m / 32)), tDr d' sv6 lw6 sf6 ls6 room, T] w6 := H.keep [2, 3, 0, 1, 6]
  rw [hLm, ← hfl, ← hj.1, hj.2] at H2
  show Sep [] w [tV vb' b (lastV (L.take (m / 32))) (L.take (m / 32)).length, tDk b fv5 (sf6 ++ ls6) sf6.length room, _, _, _] w6
  rw [hLm]
  exact H2
theorem PInv.thing {T : Th} {w wr : World} {room : Int} {b d' vb mb : Nat} (h : PInv T w room b d' vb mb wr) : T.ok wr := by
  obtain ⟨_, _, _, _, _, _, _, _, _, _, H⟩ := h
  exact H.at_ 4 rfl
theorem PInv.same {T : Th} {w wr : World} {room : Int} {b d' vb mb : Nat} (h : PInv T w room b d' vb mb wr) (hroom : room ≤ 65535) : Calls Try.prog 18 #[.pointer (some ⟨vb, 0, none⟩), .pointer (some ⟨b, 0, none⟩), .pointer (some ⟨mb, 0, none⟩)] wr fun e w' => e = .returned (.bool true) ∧ Turns [] wr w' := by
  obtain ⟨fv, lv, L, sv, lw, safe, loose, h1, h2, h3, H⟩ := h
  have hlen : (safe ++ loose).length = 32 * L.length := by rw [h2, flat_len]
  exact same_is wr vb b fv mb d' lv L sv lw safe loose room room (H.got [0, 1, 2, 3]) (by omega) (by omega)
end Go.Proofs.Ytknmjmhiejmjdaa.Vt
