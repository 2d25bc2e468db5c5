/- Demand's estimates: plain words; the walks of package demand. -/
import Derived.Test.YtcmaloncfdmpnaaWa
import Derived.Test.YtcmaloncfdmpnaaSat
import Derived.Test.YtcmaloncfdmpnaaHg
import Derived.Lib.MinMax
import Derived.Lib.Hide
import Derived.WalkSpells
import Derived.StillTailTactics
set_option linter.unusedVariables false
set_option linter.unusedSimpArgs false
set_option maxRecDepth 100000
namespace Go.Proofs.Ytcmaloncfdmpnaa.Wb
open Go.RowKit Go.MapKept Hm Hs Hf Hg Hk Hx Sm Sat Wa
/-- an estimate, behind a note -/
def st (key : Int) (e : Int) (n : Int × Int) : Int := if n.1 = key then max (fit n.2) (e / 2) else e
def ofN (NS : List (Int × Int)) (key : Int) : Int := NS.foldl (st key) 0
theorem ofN_snoc (NS : List (Int × Int)) (n : Int × Int) (key : Int) : ofN (NS ++ [n]) key = st key (ofN NS key) n := by unfold ofN; rw [List.foldl_append]; rfl
theorem st_bd {key e : Int} {n : Int × Int} (h : 0 ≤ e ∧ e ≤ 4611686018427387904) : 0 ≤ st key e n ∧ st key e n ≤ 4611686018427387904 := by
  have := fit_bd n.2
  unfold st
  split <;> omega
theorem foldl_bd (key : Int) : ∀ (NS : List (Int × Int)) (e : Int), 0 ≤ e ∧ e ≤ 4611686018427387904 → 0 ≤ NS.foldl (st key) e ∧ NS.foldl (st key) e ≤ 4611686018427387904
  | [], _, h => h
  | n :: NS, e, h => foldl_bd key NS _ (st_bd h)
theorem ofN_bd (NS : List (Int × Int)) (key : Int) : 0 ≤ ofN NS key ∧ ofN NS key ≤ 4611686018427387904 := foldl_bd key NS 0 (by omega)
def enc0 (e : Int) : Option Value := if e = 0 then none else some (.int .i64 e)
theorem find_put (l : List (Int × Value)) (k k' : Int) (v : Value) : at_ (put_ l k v) k' = if k' = k then some v else at_ l k' := by
  unfold put_
  split
  · rename_i hany
    induction l with
    | nil => simp at hany
    | cons p r ih =>
      rw [List.map_cons]
      unfold at_
      rw [List.find?_cons, List.find?_cons]
      by_cases hp : p.1 = k
      · have e1 : (p.1 == k) = true := by simpa using hp
        rw [e1]
        simp only [if_true]
        by_cases hk : k' = k
        · subst hk; simp
        · have e2 : (k == k') = false := by simp; omega
          have e3 : (p.1 == k') = false := by simp; omega
          simp only [e2, e3, if_neg hk]
          by_cases hr : r.any (fun p => p.1 == k) = true
          · have := ih hr
            rw [if_neg hk] at this
            exact this
          · have : r.map (fun p => if p.1 == k then (k, v) else p) = r := by
              conv => rhs; rw [← List.map_id r]
              refine List.map_congr_left (fun q hq => ?_)
              rw [if_neg]
              · rfl
              · intro h
                exact hr (List.any_eq_true.2 ⟨q, hq, h⟩)
            rw [this]
      · have e1 : (p.1 == k) = false := by simpa using hp
        rw [e1]
        have hany2 : r.any (fun p => p.1 == k) = true := by
          rw [List.any_cons, e1, Bool.false_or] at hany; exact hany
        have := ih hany2
        simp only [Bool.false_eq_true, if_false]
        cases hk' : (p.1 == k') with
        | true =>
          have : k' ≠ k := by intro h; subst h; rw [e1] at hk'; cases hk'
          simp [this]
        | false => exact this
  · rename_i hany
    unfold at_
    rw [List.find?_append]
    by_cases hk : k' = k
    · subst hk
      have : l.find? (fun p => p.1 == k') = none := List.find?_eq_none.2 (fun p hp => by
        intro h
        exact hany (List.any_eq_true.2 ⟨p, hp, h⟩))
      simp [this]
    · have e2 : (k == k') = false := by simp; omega
      simp [List.find?_cons, e2, if_neg hk]
theorem find_del (l : List (Int × Value)) (k k' : Int) : at_ (del_ l k) k' = if k' = k then none else at_ l k' := by
  unfold del_ at_
  rw [List.find?_filter]
  split
  · rename_i hk
    subst hk
    rw [List.find?_eq_none.2]
    · rfl
    · intro p _
      simp
  · rename_i hk
    congr 2
    funext p
    cases hp : (p.1 == k') with
    | false => simp
    | true =>
      have : p.1 ≠ k := by intro h; rw [h] at hp; simp at hp; exact hk hp.symm
      simp [this]
/-- the map is that of these notes -/
structure Est (l : List (Int × Value)) (NS : List (Int × Int)) : Prop where
  at_ : ∀ k, at_ l k = enc0 (ofN NS k)
  wf : ∀ p ∈ l, -9223372036854775808 ≤ p.1 ∧ p.1 ≤ 9223372036854775807
  len : l.length ≤ NS.length
  once : Once l
theorem Est.nil : Est [] [] := ⟨fun k => rfl, by simp, Nat.le_refl _, by simp [Once]⟩
theorem put_len (l : List (Int × Value)) (k : Int) (v : Value) : (put_ l k v).length ≤ l.length + 1 := by unfold put_; split <;> simp
theorem del_len (l : List (Int × Value)) (k : Int) : (del_ l k).length ≤ l.length := List.length_filter_le _ _
theorem put_mem {l : List (Int × Value)} {k : Int} {v : Value} {p : Int × Value} (h : p ∈ put_ l k v) : p.1 = k ∨ p ∈ l := by
  unfold put_ at h
  split at h
  · obtain ⟨q, hq, rfl⟩ := List.mem_map.1 h
    split
    · exact .inl rfl
    · exact .inr hq
  · rcases List.mem_append.1 h with h | h
    · exact .inr h
    · simp at h; subst h; exact .inl rfl
theorem Est.put {l : List (Int × Value)} {NS : List (Int × Int)} (h : Est l NS) {k s : Int} (hk : -9223372036854775808 ≤ k ∧ k ≤ 9223372036854775807) (hn : ofN (NS ++ [(k, s)]) k ≠ 0) (ho : Once (put_ l k (.int .i64 (ofN (NS ++ [(k, s)]) k)))) : Est (put_ l k (.int .i64 (ofN (NS ++ [(k, s)]) k))) (NS ++ [(k, s)]) := by
  refine ⟨fun k' => ?_, fun p hp => ?_, by rw [List.length_append, List.length_singleton]; have := put_len l k (.int .i64 (ofN (NS ++ [(k, s)]) k)); have := h.len; omega, ho⟩
  · rw [find_put]
    split
    · rename_i e; subst e; unfold enc0; rw [if_neg hn]
    · rename_i e
      rw [h.at_, ofN_snoc]
      unfold st
      rw [if_neg (fun e2 => e e2.symm)]
  · rcases put_mem hp with h1 | h1
    · rw [h1]; exact hk
    · exact h.wf p h1
theorem Est.del {l : List (Int × Value)} {NS : List (Int × Int)} (h : Est l NS) {k s : Int} {v : Value} (hk : -9223372036854775808 ≤ k ∧ k ≤ 9223372036854775807) (hn : ofN (NS ++ [(k, s)]) k = 0) (ho : Once (del_ (put_ l k v) k)) : Est (del_ (put_ l k v) k) (NS ++ [(k, s)]) := by
  refine ⟨fun k' => ?_, fun p hp => ?_, by rw [List.length_append, List.length_singleton]; have := put_len l k v; have := del_len (put_ l k v) k; have := h.len; omega, ho⟩
  · rw [find_del]
    split
    · rename_i e; subst e; unfold enc0; rw [if_pos hn]
    · rename_i e
      rw [find_put, if_neg e, h.at_, ofN_snoc]
      unfold st
      rw [if_neg (fun e2 => e e2.symm)]
  · have := List.mem_filter.1 hp
    rcases put_mem this.1 with h1 | h1
    · rw [h1]; exact hk
    · exact h.wf p h1
/-- a demand: its block, its map -/
abbrev dm (b mb : Nat) (l : List (Int × Value)) : List Th := [tBlk b #[.map (some mb)] 153, tMap mb l]
theorem zeroInt (w : World) : (zeroValue 3).run Try.prog w = .ok (.int .i64 0) w := by kernel_rfl
theorem new_is (w : World) : Calls Try.prog 51 #[] w fun e w' => ∃ b mb, e = .returned (.pointer (some ⟨b, 0, none⟩)) ∧ Sep [] w (dm b mb []) w' := by
  have hmm := @run_makeMap Try.prog
  have H := (Sep.start w).allocMap
  replace H := H.alloc #[.map (some w.heap.size)] 153
  rw [World.size_alloc] at H
  go_enter Try.func51, Try.ntmps51
  go_wp2_with fail
  go_ret
  exact ⟨_, _, rfl, H⟩
theorem note_nil (w : World) (k s : Int) : Calls Try.prog 52 #[.pointer none, .int .i64 k, .int .i64 s] w fun e w' => e = .returned (.int .i64 0) ∧ Turns [] w w' := by
  go_enter Try.func52, Try.ntmps52
  go_wp2_with fail
  go_ret
  exact ⟨rfl, Turns.refl _ _⟩
theorem of_nil (w : World) (k : Int) : Calls Try.prog 54 #[.pointer none, .int .i64 k] w fun e w' => e = .returned (.int .i64 0) ∧ Turns [] w w' := by
  go_enter Try.func54, Try.ntmps54
  go_wp2_with fail
  go_ret
  exact ⟨rfl, Turns.refl _ _⟩
theorem keys_nil (w : World) : Calls Try.prog 58 #[.pointer none] w fun e w' => e = .returned (.slice none 0 0) ∧ Turns [] w w' := by
  go_enter Try.func58, Try.ntmps58
  go_wp2_with fail
  go_ret
  exact ⟨rfl, Turns.refl _ _⟩
theorem enc0_getD (e : Int) : (enc0 e).getD (.int .i64 0) = .int .i64 e := by unfold enc0; split <;> simp_all
theorem look_is {w : World} {mb : Nat} {l : List (Int × Value)} {NS : List (Int × Int)} (h : IMap w mb l) (he : Est l NS) (k : Int) : (Instr.lookup 151 (.map (some mb)) (.int .i64 k) false).run Try.prog w = .ok (.int .i64 (ofN NS k)) w := by
  have := run_lookup h Try.underlying151 Try.underlying3 k (zeroInt w) false
  rw [he.at_] at this
  simpa [enc0_getD] using this
theorem of_is (w : World) (b mb : Nat) (l : List (Int × Value)) (NS : List (Int × Int)) (k : Int) (h : Got (dm b mb l) w) (he : Est l NS) : Calls Try.prog 54 #[.pointer (some ⟨b, 0, none⟩), .int .i64 k] w fun e w' => e = .returned (.int .i64 (ofN NS k)) ∧ Turns [] w w' := by
  have hl := look_is (h.sep.map 1 rfl) he k
  have c0 : World.cell? (w) ⟨b, 0, none⟩ = some _ := (h.sep.blk 0 rfl).cell 0
  go_enter Try.func54, Try.ntmps54
  go_wp2_with fail
  go_ret
  exact ⟨rfl, Turns.refl _ _⟩
def NoteOut (w : World) (b mb : Nat) (l : List (Int × Value)) (NS : List (Int × Int)) (k s : Int) (e : Ending) (w' : World) : Prop :=
  e = .returned (.int .i64 (ofN (NS ++ [(k, s)]) k)) ∧ ∃ l', Est l' (NS ++ [(k, s)]) ∧ Sep (fps (dm b mb l)) w (dm b mb l') w'
set_option maxHeartbeats 1000000 in
theorem note_is (w : World) (b mb : Nat) (l : List (Int × Value)) (NS : List (Int × Int)) (k s : Int) (h : Got (dm b mb l) w) (he : Est l NS) (hk : -9223372036854775808 ≤ k ∧ k ≤ 9223372036854775807) : Calls Try.prog 52 #[.pointer (some ⟨b, 0, none⟩), .int .i64 k, .int .i64 s] w (NoteOut w b mb l NS k s) := by
  have H := h.sep
  generalize hFF : fps (dm b mb l) = FF at H
  have hv : ofN (NS ++ [(k, s)]) k = max (fit s) (ofN NS k / 2) := by rw [ofN_snoc]; unfold st; rw [if_pos rfl]
  obtain ⟨n, hn⟩ : ∃ n, ofN (NS ++ [(k, s)]) k = n := ⟨_, rfl⟩
  have hX : ∀ w' l', Est l' (NS ++ [(k, s)]) → Sep FF w (dm b mb l') w' → NoteOut w b mb l NS k s (.returned (.int .i64 n)) w' := fun w' l' h1 h2 => ⟨by rw [hn], l', h1, by rw [hFF]; exact h2⟩
  generalize NoteOut w b mb l NS k s = X at *
  have hXh := Lib.hid hX
  rw [hn] at hv
  have hvh := Lib.hid hv
  have hnh := Lib.hid hn
  obtain ⟨o, ho⟩ : ∃ o, ofN NS k = o := ⟨_, rfl⟩
  have hbd := ofN_bd NS k
  have hfb := fit_bd s
  have hlk : Hid (∀ W, IMap W mb l → (Instr.lookup 151 (.map (some mb)) (.int .i64 k) false).run Try.prog W = .ok (.int .i64 o) W) := Lib.hid (fun W hW => by rw [look_is hW he k, ho])
  rw [ho] at hbd hv
  have htd : Int.tdiv o 2 = o / 2 := Int.tdiv_eq_ediv_of_nonneg hbd.1
  have hwr : IntKind.i64.wrap (o / 2) = o / 2 := IntWalk.i64_in _ (by omega)
  obtain ⟨q, hq⟩ : ∃ q, o / 2 = q := ⟨_, rfl⟩
  rw [hq] at htd hwr hv
  have hmx : Hid (max (fit s) q = n) := Lib.hid hv.symm
  obtain ⟨f, hf⟩ : ∃ f, fit s = f := ⟨_, rfl⟩
  have hF := fun w => fit_is s w
  rw [hf] at hF hmx hfb
  have hFh := Lib.hid hF
  have heh := Lib.hid he
  clear hX hFF h hv hn ho hF hf he
  replace H := H.drew
  go_enter Try.func52, Try.ntmps52
  go_wp2_with fail
  refine wp_region_flo [(0, true), (2, true), (3, true), (4, true), (5, true), (6, true), (7, true), (8, true), (1, false), (9, true), (10, true)] (fun W => Turns [] w.drew W) (by kernel_rfl) rfl (by kernel_rfl) (by intro c d v a w h; cases d <;> first | (simpa [Exit.then, Exit.inBlock, Act.put] using h) | exact h) (Turns.refl _ _) ?_
  generalize w.drew = w1 at *
  have c0 : World.cell? (w1) ⟨b, 0, none⟩ = some _ := (H.blk 0 rfl).cell 0
  have M1 := H.map 1 rfl
  have lk := hlk.out _ M1
  refine flo_read _ rfl (fun K hK => ?_)
  go_simp
  first | (refine hK _ ?_) | (refine ⟨fun W hS => ?_, hK _ ?_⟩; · (have x0 := hS.old c0; have lkW := hlk.out _ (M1.turns hS (by simp)); try go_simp))
  clear hK K
  refine flo_read _ rfl (fun K hK => ?_)
  go_simp
  first | (refine hK _ ?_) | (refine ⟨fun W hS => ?_, hK _ ?_⟩; · (have x0 := hS.old c0; have lkW := hlk.out _ (M1.turns hS (by simp)); try go_simp))
  clear hK K
  refine flo_read _ rfl (fun K hK => ?_)
  go_simp
  first | (refine hK _ ?_) | (refine ⟨fun W hS => ?_, hK _ ?_⟩; · (have x0 := hS.old c0; have lkW := hlk.out _ (M1.turns hS (by simp)); try go_simp))
  clear hK K
  refine flo_read _ rfl (fun K hK => ?_)
  go_simp
  first | (refine hK _ ?_) | (refine ⟨fun W hS => ?_, hK _ ?_⟩; · (have x0 := hS.old c0; have lkW := hlk.out _ (M1.turns hS (by simp)); try go_simp))
  clear hK K
  refine flo_read _ rfl (fun K hK => ?_)
  go_simp
  first | (refine hK _ ?_) | (refine ⟨fun W hS => ?_, hK _ ?_⟩; · (have x0 := hS.old c0; have lkW := hlk.out _ (M1.turns hS (by simp)); try go_simp))
  clear hK K
  refine flo_read _ rfl (fun K hK => ?_)
  go_simp
  first | (refine hK _ ?_) | (refine ⟨fun W hS => ?_, hK _ ?_⟩; · (have x0 := hS.old c0; have lkW := hlk.out _ (M1.turns hS (by simp)); try go_simp))
  clear hK K
  refine flo_read _ rfl (fun K hK => ?_)
  go_simp
  first | (refine hK _ ?_) | (refine ⟨fun W hS => ?_, hK _ ?_⟩; · (have x0 := hS.old c0; have lkW := hlk.out _ (M1.turns hS (by simp)); try go_simp))
  clear hK K
  refine flo_read _ rfl (fun K hK => ?_)
  go_simp
  first | (refine hK _ ?_) | (refine ⟨fun W hS => ?_, hK _ ?_⟩; · (have x0 := hS.old c0; have lkW := hlk.out _ (M1.turns hS (by simp)); try go_simp))
  clear hK K
  clear lk
  refine flo_alone _ rfl ?_
  go_wp2_with fail
  go_at_call 104
  refine Calls.mono (hFh.out _) ?_
  rintro e w2 ⟨rfl, t2⟩
  go_wp2_with fail
  refine ⟨fun W => Turns [] w2 W, fun W h => t2.trans h, Turns.refl _ _, ?_⟩
  replace H := H.turns t2
  clear t2 c0 M1
  have hmx2 := hmx.out
  refine flo_read _ rfl (fun K hK => ?_)
  go_simp
  first | (refine hK _ ?_) | (refine ⟨fun W hS => ?_, hK _ ?_⟩; · (skip; try go_simp))
  clear hK K
  refine flo_read _ rfl (fun K hK => ?_)
  go_simp
  first | (refine hK _ ?_) | (refine ⟨fun W hS => ?_, hK _ ?_⟩; · (skip; try go_simp))
  clear hK K
  refine flo_end ?_
  clear hmx2
  have c0 : World.cell? (w2) ⟨b, 0, none⟩ = some _ := (H.blk 0 rfl).cell 0
  clear htd hwr
  have hnn := hnh.out
  by_cases h0 : n = 0
  · have g0 : (n == 0) = true := by simp [h0]
    have h0h := Lib.hid h0
    clear h0 hnn
    go_wp2_with (first | (at_mapUpdate; refine wp_update (H.map 1 rfl) rfl _ _ _ _ _ _ rfl Try.underlying151 Try.underlying3 rfl _ rfl _ rfl ?_; intro w3 m3 t3; replace H := H.step 1 (T' := tMap mb (put_ l k (.int .i64 n))) rfl t3 m3 (fun k hk => .inl hk); have d0 : w3.cell? ⟨b, 0, none⟩ = some _ := (H.blk 0 rfl).cell 0) | (at_delete; refine wp_delete m3 rfl _ _ _ _ _ _ rfl Try.underlying151 Try.underlying3 rfl _ rfl ?_; intro w4 m4 t4))
    replace H := H.step 1 (T' := tMap mb (del_ (put_ l k (.int .i64 n)) k)) rfl t4 m4 (fun k hk => .inl hk)
    have hX := hXh.out w4 _ (Est.del (v := .int .i64 n) heh.out hk (by rw [hnh.out, h0h.out]) (IMap.once m4)) H
    clear H
    go_wp2_with fail
    exact hX
  · have g0 : (n == 0) = false := by simp [h0]
    have h0h := Lib.hid h0
    clear h0 hnn
    go_wp2_with (at_mapUpdate; refine wp_update (H.map 1 rfl) rfl _ _ _ _ _ _ rfl Try.underlying151 Try.underlying3 rfl _ rfl _ rfl ?_; intro w3 m3 t3; replace H := H.step 1 (T' := tMap mb (put_ l k (.int .i64 n))) rfl t3 m3 (fun k hk => .inl hk); have d0 : w3.cell? ⟨b, 0, none⟩ = some _ := (H.blk 0 rfl).cell 0)
    have hX := hXh.out w3 _ (by have := Est.put (s := s) heh.out hk (by rw [hnh.out]; exact h0h.out) (by rw [hnh.out]; exact IMap.once m3); rw [hnh.out] at this; exact this) H
    clear H
    go_wp2_with fail
    exact hX
theorem once_keys {l : List (Int × Value)} (h : Once l) : (skeys l).Pairwise (· < ·) := by
  unfold skeys
  have h1 := List.pairwise_mergeSort (le := leI) (fun a b c h1 h2 => by simp only [leI, decide_eq_true_eq] at *; omega) (fun a b => by simp only [leI, Bool.or_eq_true, decide_eq_true_eq]; omega) (l.map (·.1))
  have h2 : ((l.map (·.1)).mergeSort leI).Nodup := (List.mergeSort_perm _ _).nodup_iff.2 h
  refine (h1.and h2).imp (fun {a b} h => ?_)
  obtain ⟨h3, h4⟩ := h
  simp only [leI, decide_eq_true_eq] at h3
  omega
theorem mem_keys {l : List (Int × Value)} {NS : List (Int × Int)} (h : Est l NS) (k : Int) : k ∈ skeys l ↔ ofN NS k ≠ 0 := by
  unfold skeys
  rw [List.mem_mergeSort]
  have h1 := h.at_ k
  constructor
  · intro hk
    obtain ⟨p, hp, rfl⟩ := List.mem_map.1 hk
    have := at_some h.once (k := p.1) (v := p.2) hp
    rw [h1] at this
    intro h0
    unfold enc0 at this
    rw [if_pos h0] at this
    cases this
  · intro hk
    unfold enc0 at h1
    rw [if_neg hk] at h1
    unfold at_ at h1
    obtain ⟨p, hp, _⟩ := Option.map_eq_some_iff.1 h1
    have h2 := List.find?_some hp
    exact List.mem_map.2 ⟨p, List.mem_of_find?_eq_some hp, by simpa using h2⟩
theorem keys_is (w : World) (b mb : Nat) (l : List (Int × Value)) (NS : List (Int × Int)) (h : Got (dm b mb l) w) (he : Est l NS) (hn : NS.length ≤ 1000000) : Calls Try.prog 58 #[.pointer (some ⟨b, 0, none⟩)] w
    fun e w' => ∃ v, e = .returned v ∧ OwnS 3 1 w' v (ins (skeys l)) ∧ Turns [] w w' ∧ (∀ k, v.ownBlock = some k → w.heap.size ≤ k) := by
  have M := h.sep.map 1 rfl
  have hlen := he.len
  have hw := he.wf
  have K := Wa.keys_is w (some mb)
  have S := Wa.sorted_is (w.alloc (.cells #[.map (some mb)] 151)) w.heap.size mb l ((Blk.new w #[.map (some mb)] 151).cell 0) (M.alloc _) hw (by omega)
  have Kh := Lib.hid K
  have Sh := Lib.hid S
  have c0 : World.cell? (w) ⟨b, 0, none⟩ = some _ := (h.sep.blk 0 rfl).cell 0
  clear K S hw hlen he M
  go_enter Try.func58, Try.ntmps58
  go_wp2_with fail
  go_at_call 110
  refine Calls.mono (Kh.out) ?_
  rintro e w1 ⟨rfl, rfl⟩
  go_wp2_with fail
  go_at_call 109
  refine Calls.mono (Sh.out) ?_
  rintro e w2 ⟨v, rfl, o, t, hl, _⟩
  obtain ⟨A, c, rfl, _⟩ := o.form
  rw [ins_len] at o hl
  have T := ((Turns.refl [] w).alloc (.cells #[.map (some mb)] 151)).trans t
  go_wp2_with fail
  go_ret
  exact ⟨_, rfl, o, T, fun k hk => by have := hl k hk; simp at this; omega⟩
theorem want_nil (w : World) (k q m : Int) : Calls Try.prog 56 #[.pointer none, .int .i64 k, .int .i64 q, .int .i64 m] w fun e w' => e = .returned (.int .i64 (min (sum [0, q]) (fit m))) ∧ Turns [] w w' := by
  have hS := fun (w : World) => add_is (some ⟨w.heap.size, 0, none⟩) [0, q] 2 (w.alloc (.cells #[.int .i64 0, .int .i64 q] 3)) (IRow.of_blk (Blk.new w #[.int .i64 0, .int .i64 q] 3) rfl (by simp))
  have hF := fun w => fit_is m w
  obtain ⟨s, hs⟩ : ∃ s, sum [0, q] = s := ⟨_, rfl⟩
  obtain ⟨f, hf⟩ : ∃ f, fit m = f := ⟨_, rfl⟩
  rw [hs] at hS ⊢
  rw [hf] at hF ⊢
  have hSh := Lib.hid hS
  have hFh := Lib.hid hF
  clear hs hf hS hF
  go_enter Try.func56, Try.ntmps56
  go_wp2_with fail
  go_at_call 54
  refine Calls.mono (of_nil _ _) ?_
  rintro e w1 ⟨rfl, t1⟩
  go_wp2_with fail
  go_at_call 85
  refine Calls.mono (hSh.out w1) ?_
  rintro e w2 ⟨rfl, t2⟩
  go_wp2_with fail
  go_at_call 104
  refine Calls.mono (hFh.out _) ?_
  rintro e w3 ⟨rfl, t3⟩
  go_wp2_with fail
  go_ret
  exact ⟨rfl, ((t1.alloc _).trans t2).trans t3⟩
theorem want_is (w : World) (b mb : Nat) (l : List (Int × Value)) (NS : List (Int × Int)) (k q m : Int) (h : Got (dm b mb l) w) (he : Est l NS) : Calls Try.prog 56 #[.pointer (some ⟨b, 0, none⟩), .int .i64 k, .int .i64 q, .int .i64 m] w fun e w' => e = .returned (.int .i64 (min (sum [ofN NS k, q]) (fit m))) ∧ Turns [] w w' := by
  have hO := of_is w b mb l NS k h he
  obtain ⟨o, ho⟩ : ∃ o, ofN NS k = o := ⟨_, rfl⟩
  rw [ho] at hO ⊢
  have hS := fun (w : World) => add_is (some ⟨w.heap.size, 0, none⟩) [o, q] 2 (w.alloc (.cells #[.int .i64 o, .int .i64 q] 3)) (IRow.of_blk (Blk.new w #[.int .i64 o, .int .i64 q] 3) rfl (by simp))
  have hF := fun w => fit_is m w
  obtain ⟨s, hs⟩ : ∃ s, sum [o, q] = s := ⟨_, rfl⟩
  obtain ⟨f, hf⟩ : ∃ f, fit m = f := ⟨_, rfl⟩
  rw [hs] at hS ⊢
  rw [hf] at hF ⊢
  have hSh := Lib.hid hS
  have hFh := Lib.hid hF
  have hOh := Lib.hid hO
  clear hs hf hS hF ho hO h he
  go_enter Try.func56, Try.ntmps56
  go_wp2_with fail
  go_at_call 54
  refine Calls.mono (hOh.out) ?_
  rintro e w1 ⟨rfl, t1⟩
  go_wp2_with fail
  go_at_call 85
  refine Calls.mono (hSh.out w1) ?_
  rintro e w2 ⟨rfl, t2⟩
  go_wp2_with fail
  go_at_call 104
  refine Calls.mono (hFh.out _) ?_
  rintro e w3 ⟨rfl, t3⟩
  go_wp2_with fail
  go_ret
  exact ⟨rfl, ((t1.alloc _).trans t2).trans t3⟩
end Go.Proofs.Ytcmaloncfdmpnaa.Wb
