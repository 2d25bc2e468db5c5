/- The walks of annonaref06's disk. -/
import Derived.Test.YtknmjmhiejmjdaaDk
set_option linter.unusedVariables false
set_option linter.unusedSimpArgs false
set_option maxRecDepth 100000
namespace Go.Proofs.Ytknmjmhiejmjdaa.Dr
open Go.RowKit Hm Hs Hr Dk
structure IsR (w : World) (b : Nat) (sv lv : Value) (safe loose : List Int) (room : Int) : Prop where
  blk : Blk w b #[.int .i64 room, sv, lv] 41
  so : OwnS 5 1 w sv (bys safe)
  lo : OwnS 5 1 w lv (bys loose)
def rfoot (b : Nat) (sv lv : Value) : List Nat := b :: (sv.ownBlock.toList ++ lv.ownBlock.toList)
theorem IsR.turns {w w' : World} {b : Nat} {sv lv : Value} {safe loose : List Int} {room : Int} {F : List Nat} (h : IsR w b sv lv safe loose room) (t : Turns F w w') (hF : ∀ k ∈ rfoot b sv lv, k ∉ F) : IsR w' b sv lv safe loose room :=
  ⟨h.blk.turns t (hF b (by simp [rfoot])), h.so.turns t (fun k hk => hF k (by simp [rfoot, hk])), h.lo.turns t (fun k hk => hF k (by simp [rfoot, hk]))⟩
theorem IsR.lt {w : World} {b : Nat} {sv lv : Value} {safe loose : List Int} {room : Int} (h : IsR w b sv lv safe loose room) : ∀ k ∈ rfoot b sv lv, k < w.heap.size := by
  intro k hk
  unfold rfoot at hk
  rcases List.mem_cons.1 hk with rfl | hk
  · exact h.blk.lt
  · rcases List.mem_append.1 hk with hk | hk
    · exact h.so.lt (by simpa using hk)
    · exact h.lo.lt (by simpa using hk)
def RMoved (w : World) (b : Nat) (sv lv sv' lv' : Value) : Prop := ∀ k ∈ rfoot b sv' lv', k ∈ rfoot b sv lv ∨ w.heap.size ≤ k
theorem own_empty (w : World) : OwnS 5 1 (w.alloc (.cells #[] 5)) (.slice (some ⟨w.heap.size, 0, none⟩) 0 0) [] := ⟨World.ownsRow_lit w #[] 0 (Nat.zero_le _) (by decide) rfl, by simp⟩
theorem rwrite_full (w : World) (b : Nat) (sv lv nv : Value) (safe loose news : List Int) (room : Int) (h : IsR w b sv lv safe loose room) (hs : RdS 1 w nv (bys news)) (hl : safe.length + loose.length ≤ 16777216) (hn : news.length ≤ 16777216)
    (hr : decide ((safe.length : Int) + (loose.length : Int) + (news.length : Int) > room) = true) : Calls Try.prog 35 #[.pointer (some ⟨b, 0, none⟩), nv] w fun e w' => e = .returned (.int .i64 3) ∧ Turns [] w w' := by
  have c0 : w.cell? ⟨b, 0, none⟩ = some _ := h.blk.cell 0
  have c1 : w.cell? ⟨b, 1, none⟩ = some _ := h.blk.cell 1
  have c2 : w.cell? ⟨b, 2, none⟩ = some _ := h.blk.cell 2
  obtain ⟨A, c, rfl, _⟩ := h.so.form
  obtain ⟨A', c', rfl, _⟩ := h.lo.form
  obtain ⟨A'', c'', rfl, _⟩ := hs.form
  simp only [bys_len] at *
  go_enter Try.func35, Try.ntmps35
  go_wp2_with fail
  go_quiet (fail)
  go_wp2_with fail
  go_ret
  exact ⟨rfl, (Turns.refl _ _).drewN _⟩
theorem rwrite_ok (w : World) (b : Nat) (sv lv nv : Value) (safe loose news : List Int) (room : Int) (h : IsR w b sv lv safe loose room) (hs : RdS 1 w nv (bys news)) (hl : safe.length + loose.length ≤ 16777216) (hn : news.length ≤ 16777216)
    (hr : decide ((safe.length : Int) + (loose.length : Int) + (news.length : Int) > room) = false) : Calls Try.prog 35 #[.pointer (some ⟨b, 0, none⟩), nv] w
    fun e w' => e = .returned (.int .i64 0) ∧ ∃ lv', IsR w' b sv lv' safe (loose ++ news) room ∧ Turns [b] w w' ∧ RMoved w b sv lv sv lv' := by
  have c0 : w.cell? ⟨b, 0, none⟩ = some _ := h.blk.cell 0
  have c1 : w.cell? ⟨b, 1, none⟩ = some _ := h.blk.cell 1
  have c2 : w.cell? ⟨b, 2, none⟩ = some _ := h.blk.cell 2
  have h0 := h
  have hs0 := hs
  obtain ⟨A, c, hsv, _⟩ := h.so.form
  obtain ⟨A', c', hlv, _⟩ := h.lo.form
  obtain ⟨A'', c'', hnv, _⟩ := hs.form
  subst hsv hlv hnv
  simp only [bys_len] at *
  go_enter Try.func35, Try.ntmps35
  go_wp2_with fail
  go_quiet (fail)
  have hq : Turns [] w (w.drewN nq) := (Turns.refl _ _).drewN _
  replace h0 := h0.turns hq (by simp)
  replace hs0 : RdS 1 (w.drewN nq) _ (bys news) := hs0.mv (fun a u hu => hu)
  generalize w.drewN nq = w1 at *
  have d2 : ∀ o, (w1.alloc o).cell? ⟨b, 2, none⟩ = some _ := fun o => (h0.blk.alloc o).cell 2
  have T1 := hq.alloc (.cells #[] 5)
  have h1 := h0.turns ((Turns.refl [] w1).alloc (.cells #[] 5)) (by simp)
  have hs1 := hs0.mv (fun a u hu => ((Turns.refl [] w1).alloc (.cells #[] 5)).old hu)
  have hz := own_empty w1
  have hb1 := h1.blk
  have hlt := h0.lt
  go_wp2_with (at_builtin; refine stop_ ?_)
  refine Mk_.mk ?_
  refine wp_append hz h1.lo.reads rfl _ _ _ rfl (.int .u8 0) 1 Try.underlying39 info5 rfl (by decide) rfl rfl (bys_one _) (by simp <;> omega) (by simp <;> omega) ?_
  intro v2 w2 ho2 t2 hloc hnil
  obtain ⟨A2, c2', hv2, _⟩ := ho2.form
  simp only [List.nil_append, bys_len] at hv2 ho2
  subst hv2
  have hlo2 : ∀ k, (Value.slice A2 loose.length c2').ownBlock = some k → w1.heap.size ≤ k := fun k hk => by rw [hk] at hloc; simp [Value.ownBlock] at hloc; omega
  have hne1 : ∀ k ∈ rfoot b (.slice A safe.length c) (.slice A' loose.length c'), k ∉ (Value.slice (some ⟨w1.heap.size, 0, none⟩) 0 0).ownBlock.toList := fun k hk => by
    have := hlt k hk
    simp [Value.ownBlock]; omega
  have h2 := h1.turns t2 hne1
  have hs2 : RdS 1 w2 _ (bys news) := hs.mv (fun a u hu => ((T1.then t2 (by simp [Value.ownBlock]; have := hq.size; omega)).old hu))
  have T2 := T1.then t2 (by simp [Value.ownBlock]; have := hq.size; omega)
  have hq1 := hq.size
  have hq2 := t2.size
  simp only [World.size_alloc] at hq2
  clear t2 hloc hnil hz hs1 h1 hb1 d2
  go_wp2_with (at_builtin; refine wp_append ho2 hs2 rfl _ _ _ rfl (.int .u8 0) 1 Try.underlying39 info5 rfl (by decide) rfl rfl (bys_one _) (by simp; omega) (by simp; omega) ?_; intro v3 w3 ho3 t3 hloc hnil; obtain ⟨A3, c3', hv3, _⟩ := ho3.form; simp only [List.length_append, bys_len] at hv3; subst hv3; have h3 := h2.turns t3 (fun k hk hk2 => by have h5 := hlt k hk; have h6 := hlo2 k (by simpa using hk2); omega); have d2 : w3.cell? ⟨b, 2, none⟩ = some _ := h3.blk.cell 2; have f2 := h3.blk.frozen 2)
  rw [← bys_append] at ho3
  have hlo3 : ∀ k, (Value.slice A3 (loose.length + news.length) c3').ownBlock = some k → w1.heap.size ≤ k := fun k hk => by
    rcases hloc with h5 | h5
    · exact hlo2 k (by rw [← h5]; exact hk)
    · rw [hk] at h5; injection h5 with h5; omega
  have T3 := T2.then t3 (fun k hk => .inr (by have := hlo2 k (by simpa using hk); omega))
  have hb4 := h3.blk.set 2 (.slice A3 (loose.length + news.length) c3')
  have hne : ∀ k, (Value.slice A3 (loose.length + news.length) c3').ownBlock = some k → k ≠ b := fun k hk => ho3.ne_blk hk h3.blk (by decide)
  have hnes : ∀ k, (Value.slice A safe.length c).ownBlock = some k → k ≠ b := fun k hk => h3.so.ne_blk hk h3.blk (by decide)
  have ho4 := ho3.turns ((Turns.refl [b] w3).setCell (p := ⟨b, 2, none⟩) (by simp) (.slice A3 (loose.length + news.length) c3')) (fun k hk => by simpa using hne k hk)
  have hs4 := h3.so.turns ((Turns.refl [b] w3).setCell (p := ⟨b, 2, none⟩) (by simp) (.slice A3 (loose.length + news.length) c3')) (fun k hk => by simpa using hnes k hk)
  go_wp2_with fail
  go_ret
  exact ⟨rfl, _, ⟨hb4, hs4, ho4⟩, (T3.mono (by simp)).setCell (by simp) _, fun k hk => by unfold rfoot at hk ⊢; simp only [List.mem_cons, List.mem_append, Option.mem_toList] at hk ⊢; rcases hk with hk | hk | hk; exact .inl (.inl hk); exact .inl (.inr (.inl hk)); exact .inr (by have := hlo3 k hk; omega)⟩
theorem OwnS.ge_of {e : TypeId} {sz : Nat} {w : World} {v : Value} {rows : List (List Value)} {k b : Nat} {cs : Array Value} {t : TypeId} (h : OwnS e sz w v rows) (hk : v.ownBlock = some k) (hb : Blk w b cs t) (ht : e ≠ t) : k ≠ b := h.ne_blk hk hb ht
theorem take_flat : ∀ (rows : List (List Value)) (k : Nat), (∀ r ∈ rows, r.length = 1) → (rows.take k).flatten = rows.flatten.take k
  | [], k, _ => by simp
  | r :: rs, 0, _ => by simp
  | r :: rs, k + 1, h => by
    have hr := h r (by simp)
    rw [List.take_succ_cons, List.flatten_cons, take_flat rs k (fun x hx => h x (by simp [hx])), List.flatten_cons]
    match r, hr with
    | [x], _ => rfl
theorem OwnS.take {e : TypeId} {w : World} {A : Option Addr} {n c k : Nat} {rows : List (List Value)} (h : OwnS e 1 w (.slice A n c) rows) (hk : k ≤ rows.length) : OwnS e 1 w (.slice A k c) (rows.take k) := by
  obtain ⟨⟨h1, h2⟩, h3⟩ := h
  have h3' : ∀ r ∈ rows.take k, r.length = 1 := fun r hr => h3 r (List.mem_of_mem_take hr)
  have hlen : (rows.take k).length = k := by rw [List.length_take]; omega
  refine ⟨⟨flatten_len h3', ?_⟩, h3'⟩
  rcases h2 with ⟨hv, h0⟩ | ⟨g, cap, cur, hv, hg, hh, hl, hm, hs, ht⟩
  · injection hv with e1 e2 e3
    refine .inl ⟨by rw [e1, e3, show k = 0 by omega], by omega⟩
  · injection hv with e1 e2 e3
    subst e1 e3
    refine .inr ⟨g, _, cur, by rw [hlen], hg, hh, by omega, hm, hs, ?_⟩
    rw [take_flat rows k h3, ← ht, hlen, List.take_take]
    congr 1
    omega
theorem rfile_is (w : World) (b : Nat) (sv lv : Value) (safe loose : List Int) (room : Int) (h : IsR w b sv lv safe loose room) (hl : safe.length + loose.length ≤ 16777216) : Calls Try.prog 28 #[.pointer (some ⟨b, 0, none⟩)] w
    fun e w' => ∃ v, e = .returned v ∧ OwnS 5 1 w' v (bys (safe ++ loose)) ∧ Turns [] w w' ∧ ∀ k, v.ownBlock = some k → w.heap.size ≤ k := by
  have c1 : ∀ o, (w.alloc o).cell? ⟨b, 1, none⟩ = some _ := fun o => (h.blk.alloc o).cell 1
  obtain ⟨A, c, hsv, _⟩ := h.so.form
  obtain ⟨A', c', hlv, _⟩ := h.lo.form
  have T0 := (Turns.refl [] w).alloc (.cells #[] 5)
  have h1 := h.turns T0 (by simp)
  have hz := own_empty w
  subst hsv hlv
  simp only [bys_len] at *
  go_enter Try.func28, Try.ntmps28
  go_wp2_with (at_builtin; refine wp_append hz h1.so.reads rfl _ _ _ rfl (.int .u8 0) 1 Try.underlying39 info5 rfl (by decide) rfl rfl (bys_one _) (by simp <;> omega) (by simp <;> omega) ?_; intro v2 w2 ho2 t2 hloc hnil; obtain ⟨A2, c2', hv2, _⟩ := ho2.form; simp only [List.nil_append, bys_len] at hv2 ho2; subst hv2; have T2 := T0.then t2 (by simp [Value.ownBlock]); have h2 := h.turns T2 (by simp); have d2 : w2.cell? ⟨b, 2, none⟩ = some _ := h2.blk.cell 2; refine stop_ ?_)
  refine Mk_.mk ?_
  have hlo2 : ∀ k, (Value.slice A2 safe.length c2').ownBlock = some k → w.heap.size ≤ k := fun k hk => by rw [hk] at hloc; simp [Value.ownBlock] at hloc; omega
  have hq2 := T2.size
  clear hloc hnil
  go_wp2_with (at_builtin; refine wp_append ho2 h2.lo.reads rfl _ _ _ rfl (.int .u8 0) 1 Try.underlying39 info5 rfl (by decide) rfl rfl (bys_one _) (by simp; omega) (by simp; omega) ?_; intro v3 w3 ho3 t3 hloc hnil)
  rw [← bys_append] at ho3
  have hlo3 : ∀ k, v3.ownBlock = some k → w.heap.size ≤ k := fun k hk => by
    rcases hloc with h5 | h5
    · exact hlo2 k (by rw [← h5]; exact hk)
    · rw [hk] at h5; injection h5 with h5; omega
  go_wp2_with fail
  go_ret
  exact ⟨_, rfl, ho3, T2.then t3 (fun k hk => .inr (hlo2 k (by simpa using hk))), hlo3⟩
theorem rsync_is (w : World) (b : Nat) (sv lv : Value) (safe loose : List Int) (room : Int) (h : IsR w b sv lv safe loose room) (hl : safe.length + loose.length ≤ 16777216) : Calls Try.prog 38 #[.pointer (some ⟨b, 0, none⟩)] w
    fun e w' => e = .returned (.int .i64 loose.length) ∧ ∃ sv', IsR w' b sv' (.slice none 0 0) (safe ++ loose) [] room ∧ Turns [b] w w' ∧ RMoved w b sv lv sv' (.slice none 0 0) := by
  have c2 : w.cell? ⟨b, 2, none⟩ = some _ := h.blk.cell 2
  obtain ⟨A', c', hlv, _⟩ := h.lo.form
  have h0 := h
  subst hlv
  simp only [bys_len] at *
  go_enter Try.func38, Try.ntmps38
  go_wp2_with fail
  go_at_call 28
  refine Calls.mono (rfile_is _ b sv _ safe loose room h0 hl) ?_
  rintro e w1 ⟨v, rfl, ho1, t1, hf⟩
  generalize hal : safe ++ loose = all at *
  have h1 := h0.turns t1 (by simp)
  obtain ⟨A2, c2', hv2, _⟩ := ho1.form
  simp only [bys_len] at hv2
  subst hv2
  have f1 := h1.blk.frozen 1
  have f2 := h1.blk.frozen 2
  have d1 : w1.cell? ⟨b, 1, none⟩ = some _ := h1.blk.cell 1
  have d2 : w1.cell? ⟨b, 2, none⟩ = some _ := h1.blk.cell 2
  have hb3 := (h1.blk.set 1 (.slice A2 all.length c2')).set 2 (.slice none 0 0)
  have hne : ∀ k, (Value.slice A2 all.length c2').ownBlock = some k → k ≠ b := fun k hk => ho1.ne_blk hk h1.blk (by decide)
  have ho3 := ho1.turns (((Turns.refl [b] w1).setCell (p := ⟨b, 1, none⟩) (by simp) (.slice A2 all.length c2')).setCell (p := ⟨b, 2, none⟩) (by simp) (.slice none 0 0)) (fun k hk => by simpa using hne k hk)
  have T := ((t1.mono (G := [b]) (by simp)).setCell (p := ⟨b, 1, none⟩) (by simp) (.slice A2 all.length c2')).setCell (p := ⟨b, 2, none⟩) (by simp) (.slice none 0 0)
  go_wp2_with fail
  go_ret
  exact ⟨rfl, _, ⟨hb3, by rw [hal]; exact ho3, OwnS.nil _ _ _⟩, T, fun k hk => by simp only [rfoot, List.mem_cons, List.mem_append, Option.mem_toList] at hk ⊢; rcases hk with hk | hk | hk; exact .inl (.inl hk); exact .inr (hf k hk); simp [Value.ownBlock] at hk⟩
theorem rreplace_full (w : World) (b : Nat) (sv lv nv : Value) (safe loose news : List Int) (room : Int) (h : IsR w b sv lv safe loose room) (hs : RdS 1 w nv (bys news)) (hn : news.length ≤ 16777216)
    (hr : decide ((news.length : Int) > room) = true) : Calls Try.prog 32 #[.pointer (some ⟨b, 0, none⟩), nv] w fun e w' => e = .returned (.int .i64 3) ∧ Turns [] w w' := by
  have c0 : w.cell? ⟨b, 0, none⟩ = some _ := h.blk.cell 0
  obtain ⟨A', c', rfl, _⟩ := hs.form
  simp only [bys_len] at *
  go_enter Try.func32, Try.ntmps32
  go_wp2_with fail
  go_ret
  exact ⟨rfl, Turns.refl _ _⟩
theorem rreplace_ok (w : World) (b : Nat) (sv lv nv : Value) (safe loose news : List Int) (room : Int) (h : IsR w b sv lv safe loose room) (hs : RdS 1 w nv (bys news)) (hn : news.length ≤ 16777216)
    (hr : decide ((news.length : Int) > room) = false) : Calls Try.prog 32 #[.pointer (some ⟨b, 0, none⟩), nv] w
    fun e w' => e = .returned (.int .i64 0) ∧ ∃ sv', IsR w' b sv' (.slice none 0 0) news [] room ∧ Turns [b] w w' ∧ RMoved w b sv lv sv' (.slice none 0 0) := by
  have c0 : w.cell? ⟨b, 0, none⟩ = some _ := h.blk.cell 0
  have T0 := (Turns.refl [] w).alloc (.cells #[] 5)
  have hs1 := hs.mv (fun a u hu => T0.old hu)
  have hz := own_empty w
  have hb := h.blk
  obtain ⟨A', c', hnv, _⟩ := hs.form
  subst hnv
  simp only [bys_len] at *
  go_enter Try.func32, Try.ntmps32
  go_wp2_with (at_builtin; refine wp_append hz hs1 rfl _ _ _ rfl (.int .u8 0) 1 Try.underlying39 info5 rfl (by decide) rfl rfl (bys_one _) (by simp <;> omega) (by simp <;> omega) ?_; intro v2 w2 ho2 t2 hloc hnil; obtain ⟨A2, c2', hv2, _⟩ := ho2.form; simp only [List.nil_append, bys_len] at hv2 ho2; subst hv2; have T2 := T0.then t2 (by simp [Value.ownBlock]); have hb2 := hb.turns T2 (by simp); have d1 : w2.cell? ⟨b, 1, none⟩ = some _ := hb2.cell 1; have f1 := hb2.frozen 1; have d2 : w2.cell? ⟨b, 2, none⟩ = some _ := hb2.cell 2; have f2 := hb2.frozen 2)
  have hlo2 : ∀ k, (Value.slice A2 news.length c2').ownBlock = some k → w.heap.size ≤ k := fun k hk => by rw [hk] at hloc; simp [Value.ownBlock] at hloc; omega
  have hb3 := (hb2.set 1 (.slice A2 news.length c2')).set 2 (.slice none 0 0)
  have hne : ∀ k, (Value.slice A2 news.length c2').ownBlock = some k → k ≠ b := fun k hk => ho2.ne_blk hk hb2 (by decide)
  have ho3 := ho2.turns (((Turns.refl [b] w2).setCell (p := ⟨b, 1, none⟩) (by simp) (.slice A2 news.length c2')).setCell (p := ⟨b, 2, none⟩) (by simp) (.slice none 0 0)) (fun k hk => by simpa using hne k hk)
  have T := ((T2.mono (G := [b]) (by simp)).setCell (p := ⟨b, 1, none⟩) (by simp) (.slice A2 news.length c2')).setCell (p := ⟨b, 2, none⟩) (by simp) (.slice none 0 0)
  go_wp2_with fail
  go_ret
  exact ⟨rfl, _, ⟨hb3, ho3, OwnS.nil _ _ _⟩, T, fun k hk => by simp only [rfoot, List.mem_cons, List.mem_append, Option.mem_toList] at hk ⊢; rcases hk with hk | hk | hk; exact .inl (.inl hk); exact .inr (hlo2 k hk); simp [Value.ownBlock] at hk⟩
set_option maxHeartbeats 400000 in
theorem rcrash_is (w : World) (b : Nat) (sv lv : Value) (safe loose : List Int) (room keep : Int) (m : Nat) (h : IsR w b sv lv safe loose room) (hl : safe.length + loose.length ≤ 16777216) (hm : min (max keep 0) (loose.length : Int) = m) :
    Calls Try.prog 17 #[.pointer (some ⟨b, 0, none⟩), .int .i64 keep] w
    fun e w' => e = .returned (.int .i64 (loose.length - m)) ∧ ∃ sv', IsR w' b sv' (.slice none 0 0) (safe ++ loose.take m) [] room ∧ Turns [b] w w' ∧ RMoved w b sv lv sv' (.slice none 0 0) := by
  have c2 : w.cell? ⟨b, 2, none⟩ = some _ := h.blk.cell 2
  have f2 := h.blk.frozen 2
  obtain ⟨A', c', hlv, _⟩ := h.lo.form
  have h0 := h
  subst hlv
  simp only [bys_len] at *
  have hml : m ≤ loose.length := by omega
  go_enter Try.func17, Try.ntmps17
  go_wp2_with fail
  go_loopw [6] (fun v6 wr => ∃ k : Nat, wr = w ∧ v6 = .int .i64 k ∧ k ≤ m) (fun v6 _ => m - (intOf v6).toNat)
  case atStart => exact ⟨0, rfl, rfl, Nat.zero_le _⟩
  case round =>
    obtain ⟨k, rfl, rfl, hk⟩ := hrel
    by_cases hlt : k < m
    · have g1 : decide ((k : Int) < (loose.length : Int)) = true := by simp; omega
      have g2 : decide ((k : Int) < keep) = true := by simp; omega
      go_wp2_with fail
      go_roundw
      case rel => exact ⟨k + 1, trivial, by go_num, by omega⟩
      case measure => simp [intOf]; omega
    · obtain rfl : k = m := by omega
      have hb4 := h0.blk.set 2 (.slice A' k c')
      have hnes : ∀ j, sv.ownBlock = some j → j ≠ b := fun j hj => h0.so.ne_blk hj h0.blk (by decide)
      have hnel : ∀ j, (Value.slice A' k c').ownBlock = some j → j ≠ b := fun j hj => (OwnS.take h0.lo (k := k) (by simpa using hml)).ne_blk hj h0.blk (by decide)
      have TT := (Turns.refl [b] wr).setCell (p := ⟨b, 2, none⟩) (by simp) (.slice A' k c')
      have hl4 := (OwnS.take h0.lo (k := k) (by simpa using hml)).turns TT (fun j hj => by simpa using hnel j hj)
      have hs4 := h0.so.turns TT (fun j hj => by simpa using hnes j hj)
      have e4 : (bys loose).take k = bys (loose.take k) := by unfold bys; rw [List.map_take]
      rw [e4] at hl4
      have hR : IsR _ b sv (.slice A' k c') safe (loose.take k) room := ⟨hb4, hs4, hl4⟩
      have hkl : decide ((k : Int) ≤ (loose.length : Int)) = true := by simp; omega
      have hlk : (loose.take k).length = k := by rw [List.length_take]; omega
      have hoA : (Value.slice A' k c').ownBlock = (Value.slice A' loose.length c').ownBlock := by cases A' <;> rfl
      have hwr : IntKind.i64.wrap ((loose.length : Int) - (k : Int)) = (loose.length : Int) - k := IntWalk.i64_in _ (by omega)
      by_cases hlt2 : k < loose.length
      · have g1 : decide ((k : Int) < (loose.length : Int)) = true := by simp; omega
        have g2 : decide ((k : Int) < keep) = false := by simp; omega
        go_wp2_with fail
        go_at_call 38
        refine Calls.mono (rsync_is _ b sv _ safe _ room hR (by simp; omega)) ?_
        rintro e w1 ⟨rfl, sv', h5, t5, m5⟩
        clear hR
        rw [hlk] at *
        go_wp2_with fail
        go_ret
        exact ⟨by first | rfl | simp [IntWalk.i64_in, hwr], sv', h5, TT.trans t5, fun j hj => by have := m5 j hj; simp only [rfoot, List.mem_cons, List.mem_append, Option.mem_toList] at this ⊢; rw [hoA] at this; simpa [World.setCell] using this⟩
      · have g1 : decide ((k : Int) < (loose.length : Int)) = false := by simp; omega
        go_wp2_with fail
        go_at_call 38
        refine Calls.mono (rsync_is _ b sv _ safe _ room hR (by simp; omega)) ?_
        rintro e w1 ⟨rfl, sv', h5, t5, m5⟩
        clear hR
        rw [hlk] at *
        go_wp2_with fail
        go_ret
        exact ⟨by first | rfl | simp [IntWalk.i64_in, hwr], sv', h5, TT.trans t5, fun j hj => by have := m5 j hj; simp only [rfoot, List.mem_cons, List.mem_append, Option.mem_toList] at this ⊢; rw [hoA] at this; simpa [World.setCell] using this⟩
end Go.Proofs.Ytknmjmhiejmjdaa.Dr
