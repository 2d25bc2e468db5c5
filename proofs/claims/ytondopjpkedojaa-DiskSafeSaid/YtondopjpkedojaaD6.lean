/- The walks of annonalaw06: alive, Fits, step. -/
import Derived.Test.YtondopjpkedojaaDr
import Derived.Test.YtondopjpkedojaaHb
import Derived.Test.YtondopjpkedojaaHf
import Derived.Deep.LoopGhost
set_option linter.unusedVariables false
set_option linter.unusedSimpArgs false
set_option maxRecDepth 100000
namespace Go.Proofs.Ytondopjpkedojaa.D6
open Go.RowKit Go.MapKept Hm Hs Hr Hb Hf Dk Dr
theorem _root_.Go.Proofs.Ytondopjpkedojaa.Dk.Moved.ge {n : Nat} {w : World} {b : Nat} {fv fv' : Value} (hm : Moved w b fv fv') (h : ∀ k ∈ foot b fv, n ≤ k) (hn : n ≤ w.heap.size) : ∀ k ∈ foot b fv', n ≤ k := fun k hk => by
  rcases hm k hk with h1 | h1
  · exact h k h1
  · omega
theorem up {F : List Nat} {a b c : World} (h : Turns [] a b) (t : Turns F b c) (hF : ∀ k ∈ F, a.heap.size ≤ k) : Turns [] a c := h.then t (fun k hk => .inr (hF k hk))
theorem alive_any (w : World) : Calls Try.prog 45 #[] w fun e w' => e = .returned (.bool true) ∧ Turns [] w w' := by
  go_enter Try.func45, Try.ntmps45
  go_wp2_with fail
  go_at_call 46
  refine (new_ok 9 _ (by decide)).mono ?_
  rintro e w1 ⟨b, rfl, h1, hb, t1⟩
  have kc := fun (w : World) (C : Array Value) (n c : Nat) => Lib.run_convert_bytes_const (P := Try.prog) w 63 5 C n c Try.underlying63 Try.underlying5
  have hs1 : ∀ w, RdS 1 _ _ (bys [97, 98, 99]) := fun w => RdS.of_blk (l := [97, 98, 99]) (heap_alloc w (.cells #[.int .u8 97, .int .u8 98, .int .u8 99] 5 (3, 4))).1 rfl 3 (by decide) (by decide)
  have hs2 : ∀ w, RdS 1 _ _ (bys [100, 101, 102, 103]) := fun w => RdS.of_blk (l := [100, 101, 102, 103]) (heap_alloc w (.cells #[.int .u8 100, .int .u8 101, .int .u8 102, .int .u8 103] 5 (4, 5))).1 rfl 4 (by decide) (by decide)
  have hs3 : ∀ w, RdS 1 _ _ (bys [104, 105, 106]) := fun w => RdS.of_blk (l := [104, 105, 106]) (heap_alloc w (.cells #[.int .u8 104, .int .u8 105, .int .u8 106] 5 (3, 4))).1 rfl 3 (by decide) (by decide)
  have hs4 : ∀ w, RdS 1 _ _ (bys [120, 121]) := fun w => RdS.of_blk (l := [120, 121]) (heap_alloc w (.cells #[.int .u8 120, .int .u8 121] 5 (2, 3))).1 rfl 2 (by decide) (by decide)
  have A0 := (Turns.refl [] w1).alloc (.cells #[.int .u8 97, .int .u8 98, .int .u8 99] 5 (3, 4))
  go_wp2_with fail
  go_at_call 48
  refine (write_ok _ b _ _ [] [97, 98, 99] 0 9 (h1.turns A0 (by simp)) (hs1 _) (by decide) (by decide) (by decide)).mono ?_
  rintro e w2 ⟨rfl, fv2, h2, t2, m2⟩
  go_wp2_with fail
  go_at_call 50
  refine (sync_is _ b _ _ 0 9 h2 (by decide) (by decide)).mono ?_
  rintro e w3 ⟨rfl, h3, t3⟩
  have A1 := (Turns.refl [] w3).alloc (.cells #[.int .u8 100, .int .u8 101, .int .u8 102, .int .u8 103] 5 (4, 5))
  go_wp2_with fail
  go_at_call 48
  refine (write_ok _ b _ _ [97, 98, 99] [100, 101, 102, 103] _ 9 (h3.turns A1 (by simp)) (hs2 _) (by decide) (by decide) (by decide)).mono ?_
  rintro e w4 ⟨rfl, fv4, h4, t4, m4⟩
  have A2 := (Turns.refl [] w4).alloc (.cells #[.int .u8 104, .int .u8 105, .int .u8 106] 5 (3, 4))
  go_wp2_with fail
  go_at_call 48
  refine (write_full _ b _ _ _ [104, 105, 106] _ 9 (h4.turns A2 (by simp)) (hs3 _) (by decide) (by decide) (by decide)).mono ?_
  rintro e w5 ⟨rfl, t5⟩
  have h5 := (h4.turns A2 (by simp)).turns t5 (by simp)
  go_wp2_with fail
  go_at_call 51
  refine (crash_is _ b _ _ 3 9 1 4 h5 (by decide) (by decide) (by decide)).mono ?_
  rintro e w6 ⟨rfl, fv6, h6, t6, m6⟩
  go_wp2_with fail
  go_at_call 53
  refine (file_is _ b _ _ _ _ h6 (by decide)).mono ?_
  rintro e w7 ⟨v7, rfl, o7, t7, n7⟩
  have cv7 := RdS.str (P := Try.prog) (dst := 9) o7.reads Try.underlying63 Try.underlying5 Try.underlying9
  have q7 : strB (([97, 98, 99] ++ [100, 101, 102, 103] : List Int).take 4) = { data := #[97, 98, 99, 100] } := by rfl
  rw [q7] at cv7
  have h7 := h6.turns t7 (by simp)
  have A3 := (Turns.refl [] w7).alloc (.cells #[.int .u8 120, .int .u8 121] 5 (2, 3))
  go_wp2_with fail
  go_at_call 49
  refine (replace_ok _ b _ _ _ [120, 121] _ 9 (h7.turns A3 (by simp)) (hs4 _) (by decide) (by decide)).mono ?_
  rintro e w8 ⟨rfl, fv8, h8, t8, m8⟩
  go_wp2_with fail
  go_at_call 53
  refine (file_is _ b _ _ _ _ h8 (by decide)).mono ?_
  rintro e w9 ⟨v9, rfl, o9, t9, n9⟩
  have cv9 := RdS.str (P := Try.prog) (dst := 9) o9.reads Try.underlying63 Try.underlying5 Try.underlying9
  have q9 : strB [120, 121] = { data := #[120, 121] } := by rfl
  rw [q9] at cv9
  have h9 := h8.turns t9 (by simp)
  go_wp2_with fail
  go_at_call 52
  refine (safe_is _ b _ _ _ _ h9).mono ?_
  rintro e w10 ⟨rfl, t10⟩
  have s1 := t1.size
  have s2 := t2.size
  have s3 := t3.size
  have s4 := t4.size
  have s5 := t5.size
  have s6 := t6.size
  have s7 := t7.size
  have s8 := t8.size
  simp only [World.size_alloc] at s2 s4 s5 s8
  have e1 : ∀ k ∈ foot b (.slice none 0 0), w.heap.size ≤ k := by simp [foot, Value.ownBlock]; omega
  have e2 := m2.ge e1 (by simp; omega)
  have e4 := m4.ge e2 (by simp; omega)
  have e6 := m6.ge e4 (by omega)
  have eb : ∀ k ∈ [b], w.heap.size ≤ k := by simp; omega
  have B2 := up (up t1 A0 (by simp)) t2 e1
  have B4 := up (up (up B2 t3 eb) A1 (by simp)) t4 e2
  have B6 := up (up (up B4 A2 (by simp)) t5 (by simp)) t6 e4
  have B8 := up (up (up B6 t7 (by simp)) A3 (by simp)) t8 e6
  have B10 := up (up B8 t9 (by simp)) t10 (by simp)
  go_wp2_with fail
  go_ret
  exact ⟨by rfl, B10⟩
structure Ac where
  kind : Int
  v : Value
  n : Int
  bs : List Int
def Ac.cells (a : Ac) : List Value := [.int .u8 a.kind, a.v, .int .i64 a.n]
theorem fits_is (w : World) (A : Option Addr) (c : Nat) (acts : List Ac) (hl : FlatRow w A 3 (acts.map Ac.cells)) (hb : ∀ a ∈ acts, RdS 1 w a.v (bys a.bs)) :
    Calls Try.prog 44 #[.slice A acts.length c] w fun e w' => (e = .returned (.bool false) ∨ (e = .returned (.bool true) ∧ acts.length ≤ 60 ∧ ∀ a ∈ acts, a.bs.length ≤ 3000)) ∧ Turns [] w w' := by
  go_enter Try.func44, Try.ntmps44
  go_wp2_with fail
  go_loopw [3, 4] (fun v3 v4 wr => ∃ (k : Nat) (s : Int), k ≤ acts.length ∧ k ≤ 61 ∧ v4 = .int .i64 k ∧ v3 = .int .i64 s ∧ 0 ≤ s ∧ s ≤ 3000 ∧ Turns [] w wr ∧ ∀ a ∈ acts.take k, a.bs.length ≤ 3000) (fun _ v4 _ => acts.length - (intOf v4).toNat)
  case atStart => exact ⟨0, 0, by omega, by omega, rfl, rfl, by omega, by omega, Turns.refl _ _, by simp⟩
  case round =>
    obtain ⟨k, s, hk, hk6, rfl, rfl, hs0, hs1, T, hall⟩ := hrel
    by_cases hlt : k < acts.length
    · have g1 : decide ((k : Int) < (acts.length : Int)) = true := by simp; omega
      by_cases h60 : k ≤ 60
      · have g2 : decide ((k : Int) ≤ 60) = true := by simp; omega
        obtain ⟨a, ha⟩ : ∃ a, acts[k]? = some a := ⟨_, List.getElem?_eq_getElem hlt⟩
        obtain ⟨ad, rfl, _, hc⟩ := hl.at_ (j := k) (c := a.cells) (by rw [List.getElem?_map, ha]; rfl)
        have i1 := T.old (hc 1 _ rfl)
        rw [add_field _ _ _ (by omega)] at i1
        obtain ⟨A', c', hv, hcl, hcm⟩ := (hb a (List.mem_of_getElem? ha)).form
        rw [hv] at i1
        simp only [bys_len] at i1 hcl
        have hal : acts.take (k + 1) = acts.take k ++ [a] := by rw [List.take_add_one, ha]; rfl
        by_cases h3 : (a.bs.length : Int) > 3000
        · have g3 := decide_eq_true h3
          go_wp2_with fail
          go_ret
          exact ⟨.inl rfl, T⟩
        · have g3 := decide_eq_false h3
          by_cases h4 : s + (a.bs.length : Int) > 3000
          · have g4 := decide_eq_true h4
            go_wp2_with fail
            go_ret
            exact ⟨.inl rfl, T⟩
          · have g4 := decide_eq_false h4
            go_wp2_with fail
            go_roundw
            case rel => exact ⟨k + 1, s + (a.bs.length : Int), by omega, by omega, by go_num, rfl, by omega, by omega, T, by rw [hal]; intro x hx; rcases List.mem_append.1 hx with hx | hx; exact hall x hx; simp at hx; subst hx; omega⟩
            case measure => simp [intOf]; omega
      · have g2 : decide ((k : Int) ≤ 60) = false := by simp; omega
        have g3 : decide ((acts.length : Int) ≤ 60) = false := by simp; omega
        go_wp2_with fail
        go_ret
        exact ⟨.inl rfl, T⟩
    · obtain rfl : k = acts.length := by omega
      have g1 : decide ((acts.length : Int) < (acts.length : Int)) = false := by simp
      by_cases h60 : acts.length ≤ 60
      · have g3 : decide ((acts.length : Int) ≤ 60) = true := by simp; omega
        go_wp2_with fail
        go_ret
        exact ⟨.inr ⟨rfl, h60, by simpa using hall⟩, T⟩
      · have g3 : decide ((acts.length : Int) ≤ 60) = false := by simp; omega
        go_wp2_with fail
        go_ret
        exact ⟨.inl rfl, T⟩
/-- two disks apart, both behind block n -/
structure PP (n : Nat) (b : Nat) (fv : Value) (b' : Nat) (sv lv : Value) : Prop where
  a : ∀ k ∈ foot b fv, n ≤ k ∧ k ∉ rfoot b' sv lv
  c : ∀ k ∈ rfoot b' sv lv, n ≤ k
theorem PP.disk {n b b' : Nat} {fv fv' sv lv : Value} {w : World} (h : PP n b fv b' sv lv) (hr : ∀ k ∈ rfoot b' sv lv, k < w.heap.size) (hn : n ≤ w.heap.size) (m : Moved w b fv fv') : PP n b fv' b' sv lv :=
  ⟨fun k hk => by
    rcases m k hk with h1 | h1
    · exact h.a k h1
    · exact ⟨by omega, fun h2 => by have := hr k h2; omega⟩, h.c⟩
theorem PP.ref {n b b' : Nat} {fv sv lv sv' lv' : Value} {w : World} (h : PP n b fv b' sv lv) (hr : ∀ k ∈ foot b fv, k < w.heap.size) (hn : n ≤ w.heap.size) (m : RMoved w b' sv lv sv' lv') : PP n b fv b' sv' lv' :=
  ⟨fun k hk => ⟨(h.a k hk).1, fun h2 => by
    rcases m k h2 with h1 | h1
    · exact (h.a k hk).2 h1
    · have := hr k hk; omega⟩, fun k hk => by
    rcases m k hk with h1 | h1
    · exact h.c k h1
    · omega⟩
/-- a disk and the document's, alike -/
structure Two (n : Nat) (w : World) (b b' : Nat) (room : Int) (fv sv lv : Value) (safe loose : List Int) : Prop where
  d : IsDisk w b fv (safe ++ loose) safe.length room
  r : IsR w b' sv lv safe loose room
  p : PP n b fv b' sv lv
  l : ((safe ++ loose).length : Int) ≤ room
  n : n ≤ w.heap.size
def Pair (n : Nat) (w : World) (b b' : Nat) (room : Int) : Prop := ∃ fv sv lv safe loose, Two n w b b' room fv sv lv safe loose
set_option maxHeartbeats 1000000 in
theorem step_is (n : Nat) (w : World) (b b' : Nat) (room : Int) (a : Ac) (h : Pair n w b b' room) (hrm : 0 ≤ room ∧ room ≤ 16777216) (hb : ∀ w' F, Turns F w w' → (∀ k ∈ F, n ≤ k) → RdS 1 w' a.v (bys a.bs)) (hbl : a.bs.length ≤ 3000) (hk : 0 ≤ a.kind ∧ a.kind ≤ 255) :
    Calls Try.prog 54 #[.pointer (some ⟨b, 0, none⟩), .pointer (some ⟨b', 0, none⟩), .agg #[.int .u8 a.kind, a.v, .int .i64 a.n]] w
    fun e w' => e = .returned (.bool true) ∧ Pair n w' b b' room ∧ ∃ F, Turns F w w' ∧ ∀ k ∈ F, n ≤ k := by
  obtain ⟨fv, sv, lv, safe, loose, h⟩ := h
  have T0 := (Turns.refl [] w).alloc (.cells #[.int .u8 a.kind, a.v, .int .i64 a.n] 70)
  have hB := Blk.new w #[.int .u8 a.kind, a.v, .int .i64 a.n] 70
  have hd1 := h.d.turns T0 (by simp)
  have hr1 := h.r.turns T0 (by simp)
  have hb1 := hb _ _ T0 (by simp)
  have hp := h.p
  have hl := h.l
  have hn : n ≤ (w.alloc (.cells #[.int .u8 a.kind, a.v, .int .i64 a.n] 70)).heap.size := by have := h.n; simp; omega
  have hmod : 0 ≤ a.kind % 5 ∧ a.kind % 5 < 5 := by omega
  have Tn : Turns [] w w := Turns.refl _ _
  go_enter Try.func54, Try.ntmps54
  go_upto_block 0 with fail
  generalize w.alloc (.cells #[.int .u8 a.kind, a.v, .int .i64 a.n] 70) = w1 at *
  have hll : (safe ++ loose).length = safe.length + loose.length := List.length_append
  have hl6 : (safe ++ loose).length ≤ 16777216 := by omega
  have hl7 : safe.length + loose.length ≤ 16777216 := by omega
  have hn6 : a.bs.length ≤ 16777216 := by omega
  have hlr := hr1.lt
  have hld := hd1.lt
  obtain ⟨x, hx⟩ : ∃ x, x = a.kind % 5 := ⟨_, rfl⟩
  rw [← hx] at hmod ⊢
  have hx2 : Hid (x = a.kind % 5) := hx
  clear hx
  have i0 : w1.cell? ⟨w.heap.size, 0, none⟩ = some _ := hB.cell 0
  have i1 : w1.cell? ⟨w.heap.size, 1, none⟩ = some _ := hB.cell 1
  have i2 : w1.cell? ⟨w.heap.size, 2, none⟩ = some _ := hB.cell 2
  have hne : w.heap.size ∉ foot b fv := fun h1 => by have := h.d.lt _ h1; omega
  have hcb : ∀ w2, Turns (foot b fv) w1 w2 → RdS 1 w2 a.v (bys a.bs) := fun w2 t2 => hb _ _ ((T0.mono (by simp)).trans t2) (fun k hk => (hp.a k hk).1)
  go_cut [7] (fun v7 wc => v7 = .bool true ∧ Pair n wc b b' room ∧ ∃ F, Turns F w wc ∧ ∀ k ∈ F, n ≤ k)
  case first =>
    by_cases h01 : x = 0 ∨ x = 1
    · have g01 : ((x == 0) = true) ∨ ((x == 0) = false ∧ (x == 1) = true) := by rcases h01 with rfl | rfl; exact .inl rfl; exact .inr ⟨rfl, rfl⟩
      clear h01 hmod
      by_cases hf : ((safe ++ loose).length : Int) + (a.bs.length : Int) > room
      · have f1 := decide_eq_true hf
        have f2 : decide ((safe.length : Int) + (loose.length : Int) + (a.bs.length : Int) > room) = true := by rw [← f1]; congr 2; omega
        rcases g01 with g0 | ⟨g0, g1⟩
        all_goals
          go_wp2_with fail
          go_at_call 48
          refine (write_full _ b fv _ _ a.bs _ room hd1 hb1 hl6 hn6 f1).mono ?_
          rintro e w2 ⟨rfl, t2⟩
          have i1 : w2.cell? ⟨w.heap.size, 1, none⟩ = some _ := (hB.turns t2 (by simp)).cell 1
          go_wp2_with fail
          go_at_call 91
          refine (rwrite_full _ b' sv lv _ safe loose a.bs room (hr1.turns t2 (by simp)) (hb1.mv (fun a u hu => t2.old hu)) hl7 hn6 f2).mono ?_
          rintro e w3 ⟨rfl, t3⟩
          have s2 := t2.size
          have s3 := t3.size
          go_wp2_with fail
          go_meet
          exact ⟨rfl, ⟨fv, sv, lv, safe, loose, (hd1.turns t2 (by simp)).turns t3 (by simp), (hr1.turns t2 (by simp)).turns t3 (by simp), hp, hl, by omega⟩, [], (T0.trans t2).trans t3, by simp⟩
      · have f1 := decide_eq_false hf
        have f2 : decide ((safe.length : Int) + (loose.length : Int) + (a.bs.length : Int) > room) = false := by rw [← f1]; congr 2; omega
        rcases g01 with g0 | ⟨g0, g1⟩
        all_goals
          go_wp2_with fail
          go_at_call 48
          refine (write_ok _ b fv _ _ a.bs _ room hd1 hb1 hl6 hn6 f1).mono ?_
          rintro e w2 ⟨rfl, fv2, h2, t2, m2⟩
          have hr2 := hr1.turns t2 (fun k hk hk2 => (hp.a k hk2).2 hk)
          have hp2 := hp.disk hlr hn m2
          have hld2 := h2.lt
          have i1 : w2.cell? ⟨w.heap.size, 1, none⟩ = some _ := (hB.turns t2 hne).cell 1
          go_wp2_with fail
          go_at_call 91
          refine (rwrite_ok _ b' sv lv _ safe loose a.bs room hr2 (hcb w2 t2) hl7 hn6 f2).mono ?_
          rintro e w3 ⟨rfl, lv3, h3, t3, m3⟩
          have s2 := t2.size
          have s3 := t3.size
          have hp3 := hp2.ref hld2 (by omega) m3
          have h4 := h2.turns t3 (fun k hk hk2 => (hp2.a k hk).2 (by simp at hk2; subst hk2; simp [rfoot]))
          go_wp2_with fail
          go_meet
          exact ⟨rfl, ⟨fv2, sv, lv3, safe, loose ++ a.bs, by rw [← List.append_assoc]; exact h4, h3, hp3, by rw [← List.append_assoc, List.length_append]; omega, by omega⟩, foot b fv ++ [b'], ((T0.mono (by simp)).trans (t2.mono (by intro k hk; simp_all))).trans (t3.mono (by intro k hk; simp_all)), by intro k hk; rcases List.mem_append.1 hk with hk | hk; exact (hp.a k hk).1; simp at hk; subst hk; exact hp.c _ (by simp [rfoot])⟩
    · have g0 : (x == 0) = false := by simp; omega
      have g1 : (x == 1) = false := by simp; omega
      by_cases h2x : x = 2
      · have g2 : (x == 2) = true := by simp; omega
        clear h01 h2x hmod
        go_wp2_with fail
        go_at_call 50
        refine (sync_is _ b fv _ _ room hd1 hl6 (by omega)).mono ?_
        rintro e w2 ⟨rfl, h2, t2⟩
        have e5 : ((safe ++ loose).length : Int) - (safe.length : Int) = (loose.length : Int) := by omega
        rw [e5]
        clear e5
        have hr2 := hr1.turns t2 (fun k hk hk2 => (hp.a b (by simp [foot])).2 (by simp at hk2; subst hk2; exact hk))
        go_wp2_with fail
        go_at_call 92
        refine (rsync_is _ b' sv lv safe loose room hr2 hl7).mono ?_
        rintro e w3 ⟨rfl, sv3, h3, t3, m3⟩
        have s2 := t2.size
        have s3 := t3.size
        have hp3 := hp.ref h2.lt (by omega) m3
        have h4 := h2.turns t3 (fun k hk hk2 => (hp.a k hk).2 (by simp at hk2; subst hk2; simp [rfoot]))
        go_wp2_with fail
        go_meet
        exact ⟨rfl, ⟨fv, sv3, _, safe ++ loose, [], by rw [List.append_nil]; exact h4, h3, hp3, by rw [List.append_nil]; omega, by omega⟩, [b, b'], ((T0.mono (by simp)).trans (t2.mono (by intro k hk; simp_all))).trans (t3.mono (by intro k hk; simp_all)), by intro k hk; simp at hk; rcases hk with rfl | rfl; exact (hp.a _ (by simp [foot])).1; exact hp.c _ (by simp [rfoot])⟩
      · have g2 : (x == 2) = false := by simp; omega
        by_cases h3x : x = 3
        · have g3 : (x == 3) = true := by simp; omega
          clear h01 h2x h3x hmod
          obtain ⟨m, hm⟩ : ∃ m : Nat, min (max a.n 0) (loose.length : Int) = m := ⟨(min (max a.n 0) (loose.length : Int)).toNat, by omega⟩
          have hm2 : (safe.length : Int) + min (max a.n 0) (((safe ++ loose).length : Int) - safe.length) = ((safe.length + m : Nat) : Int) := by
            rw [show ((safe ++ loose).length : Int) - safe.length = loose.length from by omega, hm]; omega
          have hml : m ≤ loose.length := by omega
          go_wp2_with fail
          go_at_call 51
          refine (crash_is _ b fv _ safe.length room a.n (safe.length + m) hd1 hl6 (by omega) hm2).mono ?_
          rintro e w2 ⟨rfl, fv2, h2, t2, m2⟩
          have hr2 := hr1.turns t2 (fun k hk hk2 => (hp.a k hk2).2 hk)
          have hp2 := hp.disk hlr hn m2
          have hld2 := h2.lt
          have i2 : w2.cell? ⟨w.heap.size, 2, none⟩ = some _ := (hB.turns t2 hne).cell 2
          have e5 : ((safe ++ loose).length : Int) - ((safe.length + m : Nat) : Int) = (loose.length : Int) - m := by omega
          rw [e5]
          clear e5 hm2
          go_wp2_with fail
          go_at_call 93
          refine (rcrash_is _ b' sv lv safe loose room a.n m hr2 hl7 hm).mono ?_
          rintro e w3 ⟨rfl, sv3, h3, t3, m3⟩
          have s2 := t2.size
          have s3 := t3.size
          have hp3 := hp2.ref hld2 (by omega) m3
          have h4 := h2.turns t3 (fun k hk hk2 => (hp2.a k hk).2 (by simp at hk2; subst hk2; simp [rfoot]))
          have e6 : (safe ++ loose).take (safe.length + m) = safe ++ loose.take m := by rw [List.take_append]; simp; rw [List.take_of_length_le (by omega)]
          have e7 : (safe ++ loose.take m).length = safe.length + m := by rw [List.length_append, List.length_take]; omega
          rw [e6, ← e7] at h4
          go_wp2_with fail
          go_meet
          exact ⟨rfl, ⟨fv2, sv3, _, safe ++ loose.take m, [], by rw [List.append_nil]; exact h4, h3, hp3, by rw [List.append_nil, e7]; omega, by omega⟩, foot b fv ++ [b'], ((T0.mono (by simp)).trans (t2.mono (by intro k hk; simp_all))).trans (t3.mono (by intro k hk; simp_all)), by intro k hk; rcases List.mem_append.1 hk with hk | hk; exact (hp.a k hk).1; simp at hk; subst hk; exact hp.c _ (by simp [rfoot])⟩
        · have g3 : (x == 3) = false := by simp; omega
          clear h01 h2x h3x hmod
          by_cases hf : (a.bs.length : Int) > room
          · have f1 := decide_eq_true hf
            go_wp2_with fail
            go_at_call 49
            refine (replace_full _ b fv _ _ a.bs _ room hd1 hb1 hn6 f1).mono ?_
            rintro e w2 ⟨rfl, t2⟩
            have i1 : w2.cell? ⟨w.heap.size, 1, none⟩ = some _ := (hB.turns t2 (by simp)).cell 1
            go_wp2_with fail
            go_at_call 94
            refine (rreplace_full _ b' sv lv _ safe loose a.bs room (hr1.turns t2 (by simp)) (hb1.mv (fun a u hu => t2.old hu)) hn6 f1).mono ?_
            rintro e w3 ⟨rfl, t3⟩
            have s2 := t2.size
            have s3 := t3.size
            go_wp2_with fail
            go_meet
            exact ⟨rfl, ⟨fv, sv, lv, safe, loose, (hd1.turns t2 (by simp)).turns t3 (by simp), (hr1.turns t2 (by simp)).turns t3 (by simp), hp, hl, by omega⟩, [], (T0.trans t2).trans t3, by simp⟩
          · have f1 := decide_eq_false hf
            go_wp2_with fail
            go_at_call 49
            refine (replace_ok _ b fv _ _ a.bs _ room hd1 hb1 hn6 f1).mono ?_
            rintro e w2 ⟨rfl, fv2, h2, t2, m2⟩
            have hr2 := hr1.turns t2 (fun k hk hk2 => (hp.a k hk2).2 hk)
            have hp2 := hp.disk hlr hn m2
            have hld2 := h2.lt
            have i1 : w2.cell? ⟨w.heap.size, 1, none⟩ = some _ := (hB.turns t2 hne).cell 1
            go_wp2_with fail
            go_at_call 94
            refine (rreplace_ok _ b' sv lv _ safe loose a.bs room hr2 (hcb w2 t2) hn6 f1).mono ?_
            rintro e w3 ⟨rfl, sv3, h3, t3, m3⟩
            have s2 := t2.size
            have s3 := t3.size
            have hp3 := hp2.ref hld2 (by omega) m3
            have h4 := h2.turns t3 (fun k hk hk2 => (hp2.a k hk).2 (by simp at hk2; subst hk2; simp [rfoot]))
            go_wp2_with fail
            go_meet
            exact ⟨rfl, ⟨fv2, sv3, _, a.bs, [], by rw [List.append_nil]; exact h4, h3, hp3, by rw [List.append_nil]; omega, by omega⟩, foot b fv ++ [b'], ((T0.mono (by simp)).trans (t2.mono (by intro k hk; simp_all))).trans (t3.mono (by intro k hk; simp_all)), by intro k hk; rcases List.mem_append.1 hk with hk | hk; exact (hp.a k hk).1; simp at hk; subst hk; exact hp.c _ (by simp [rfoot])⟩
  case rest =>
    obtain ⟨rfl, ⟨fv', sv', lv', safe', loose', H⟩, F, T, hF⟩ := hcut
    clear hd1 hr1 hb1 hlr hld hB i0 i1 i2 hcb hne hx2 hll hl6 hl7 hl hp h T0 hn hmod hb
    have hlw : (safe' ++ loose').length = safe'.length + loose'.length := List.length_append
    have hl' := H.l
    have hl6 : (safe' ++ loose').length ≤ 16777216 := by omega
    have hl7 : safe'.length + loose'.length ≤ 16777216 := by omega
    clear hlw hl' hn6 hbl hk
    obtain ⟨A', c', hsv, _⟩ := H.r.so.form
    simp only [bys_len] at hsv
    have hW := fun (W : World) (v : Value) (l : List Int) (h : OwnS 5 1 W v (bys l)) => RdS.str (P := Try.prog) (dst := 9) h.reads Try.underlying63 Try.underlying5 Try.underlying9
    have HD := H.d
    have HR := H.r
    have Hn := H.n
    have Hp := H.p
    have Hl := H.l
    clear H
    go_wp2_with fail
    refine wp_region_flo [(0, true), (1, true), (2, true), (5, true), (3, false), (4, true), (6, false), (7, true), (8, true), (9, true), (10, true), (11, true), (13, true), (14, true), (15, true), (16, true), (17, true), (12, false), (18, true), (19, true), (20, true)] (fun W => True) (by kernel_rfl) rfl (by kernel_rfl) (by intro c d v a w h; cases d <;> first | (simpa [Exit.then, Exit.inBlock, Act.put] using h) | exact h) (trivial) ?_
    have td : Turns [] wc wc.drew := (Turns.refl _ _).drew
    have HD1 := HD.turns td (by simp)
    have HR1 := HR.turns td (by simp)
    generalize wc.drew = w1 at *
    refine flo_read _ rfl (fun K hK => ?_)
    go_simp
    first | (refine hK _ ?_) | (refine ⟨fun W hS => ?_, hK _ ?_⟩; · (skip; try go_simp))
    clear hK K
    refine flo_read _ rfl (fun K hK => ?_)
    go_simp
    first | (refine hK _ ?_) | (refine ⟨fun W hS => ?_, hK _ ?_⟩; · (skip; try go_simp))
    clear hK K
    refine flo_read _ rfl (fun K hK => ?_)
    go_simp
    first | (refine hK _ ?_) | (refine ⟨fun W hS => ?_, hK _ ?_⟩; · (skip; try go_simp))
    clear hK K
    refine flo_read _ rfl (fun K hK => ?_)
    go_simp
    first | (refine hK _ ?_) | (refine ⟨fun W hS => ?_, hK _ ?_⟩; · (skip; try go_simp))
    clear hK K
    refine flo_alone _ rfl ?_
    go_wp2_with fail
    go_at_call 53
    refine (file_is _ b _ _ _ _ HD1 hl6).mono ?_
    rintro e w2 ⟨v2, rfl, ho2, t2, hf2⟩
    go_wp2_with fail
    refine ⟨fun W => OwnS 5 1 W v2 (bys (safe' ++ loose')), fun W _ => trivial, ho2, ?_⟩
    have HD2 := HD1.turns t2 (by simp)
    have HR2 := HR1.turns t2 (by simp)
    have cv2 := hW _ _ _ ho2
    refine flo_read _ rfl (fun K hK => ?_)
    go_simp
    first | (refine hK _ ?_) | (refine ⟨fun W hS => ?_, hK _ ?_⟩; · (have cvW := hW _ _ _ hS; try go_simp))
    clear hK K
    clear cv2
    refine flo_alone _ rfl ?_
    go_wp2_with fail
    go_at_call 95
    refine (rfile_is _ b' _ _ _ _ _ HR2 hl7).mono ?_
    rintro e w3 ⟨v3, rfl, ho3, t3, hf3⟩
    go_wp2_with fail
    refine ⟨fun W => OwnS 5 1 W v2 (bys (safe' ++ loose')) ∧ OwnS 5 1 W v3 (bys (safe' ++ loose')) ∧ IsR W b' sv' lv' safe' loose' room, fun W h => h.1, ⟨ho2.turns t3 (by simp), ho3, HR2.turns t3 (by simp)⟩, ?_⟩
    have HD3 := HD2.turns t3 (by simp)
    have HR3 := HR2.turns t3 (by simp)
    have cv3 := hW _ _ _ ho3
    have d1 : w3.cell? ⟨b', 1, none⟩ = some _ := HR3.blk.cell 1
    simp only [List.getElem?_toArray, List.getElem?_cons_succ, List.getElem?_cons_zero, hsv] at d1
    refine flo_read _ rfl (fun K hK => ?_)
    go_simp
    first | (refine hK _ ?_) | (refine ⟨fun W hS => ?_, hK _ ?_⟩; · (intro hS2 hS3; have cvW := hW _ _ _ hS2; have dW : W.cell? ⟨b', 1, none⟩ = some _ := hS3.blk.cell 1; (first | (rw [cvW]; rfl) | (rw [dW]; rfl) | skip); try go_simp))
    clear hK K
    refine flo_read _ rfl (fun K hK => ?_)
    go_simp
    first | (refine hK _ ?_) | (refine ⟨fun W hS => ?_, hK _ ?_⟩; · (intro hS2 hS3; have cvW := hW _ _ _ hS2; have dW : W.cell? ⟨b', 1, none⟩ = some _ := hS3.blk.cell 1; (first | (rw [cvW]; rfl) | (rw [dW]; rfl) | skip); try go_simp))
    clear hK K
    refine flo_read _ rfl (fun K hK => ?_)
    go_simp
    first | (refine hK _ ?_) | (refine ⟨fun W hS => ?_, hK _ ?_⟩; · (intro hS2 hS3; have cvW := hW _ _ _ hS2; have dW : W.cell? ⟨b', 1, none⟩ = some _ := hS3.blk.cell 1; (first | (rw [cvW]; rfl) | (rw [dW]; rfl) | skip); try go_simp))
    clear hK K
    refine flo_read _ rfl (fun K hK => ?_)
    go_simp
    first | (refine hK _ ?_) | (refine ⟨fun W hS => ?_, hK _ ?_⟩; · (intro hS2 hS3; have cvW := hW _ _ _ hS2; have dW : W.cell? ⟨b', 1, none⟩ = some _ := hS3.blk.cell 1; (first | (rw [cvW]; rfl) | (rw [dW]; rfl) | skip); try go_simp))
    clear hK K
    refine flo_read _ rfl (fun K hK => ?_)
    go_simp
    first | (refine hK _ ?_) | (refine ⟨fun W hS => ?_, hK _ ?_⟩; · (intro hS2 hS3; have cvW := hW _ _ _ hS2; have dW : W.cell? ⟨b', 1, none⟩ = some _ := hS3.blk.cell 1; (first | (rw [cvW]; rfl) | (rw [dW]; rfl) | skip); try go_simp))
    clear hK K
    refine flo_read _ rfl (fun K hK => ?_)
    go_simp
    first | (refine hK _ ?_) | (refine ⟨fun W hS => ?_, hK _ ?_⟩; · (intro hS2 hS3; have cvW := hW _ _ _ hS2; have dW : W.cell? ⟨b', 1, none⟩ = some _ := hS3.blk.cell 1; (first | (rw [cvW]; rfl) | (rw [dW]; rfl) | skip); try go_simp))
    clear hK K
    refine flo_read _ rfl (fun K hK => ?_)
    go_simp
    first | (refine hK _ ?_) | (refine ⟨fun W hS => ?_, hK _ ?_⟩; · (intro hS2 hS3; have cvW := hW _ _ _ hS2; have dW : W.cell? ⟨b', 1, none⟩ = some _ := hS3.blk.cell 1; (first | (rw [cvW]; rfl) | (rw [dW]; rfl) | skip); try go_simp))
    clear hK K
    refine flo_read _ rfl (fun K hK => ?_)
    go_simp
    first | (refine hK _ ?_) | (refine ⟨fun W hS => ?_, hK _ ?_⟩; · (intro hS2 hS3; have cvW := hW _ _ _ hS2; have dW : W.cell? ⟨b', 1, none⟩ = some _ := hS3.blk.cell 1; (first | (rw [cvW]; rfl) | (rw [dW]; rfl) | skip); try go_simp))
    clear hK K
    refine flo_read _ rfl (fun K hK => ?_)
    go_simp
    first | (refine hK _ ?_) | (refine ⟨fun W hS => ?_, hK _ ?_⟩; · (intro hS2 hS3; have cvW := hW _ _ _ hS2; have dW : W.cell? ⟨b', 1, none⟩ = some _ := hS3.blk.cell 1; (first | (rw [cvW]; rfl) | (rw [dW]; rfl) | skip); try go_simp))
    clear hK K
    refine flo_read _ rfl (fun K hK => ?_)
    go_simp
    first | (refine hK _ ?_) | (refine ⟨fun W hS => ?_, hK _ ?_⟩; · (intro hS2 hS3; have cvW := hW _ _ _ hS2; have dW : W.cell? ⟨b', 1, none⟩ = some _ := hS3.blk.cell 1; (first | (rw [cvW]; rfl) | (rw [dW]; rfl) | skip); try go_simp))
    clear hK K
    clear cv3 d1
    refine flo_alone _ rfl ?_
    go_wp2_with fail
    go_at_call 52
    refine (safe_is _ b _ _ _ _ HD3).mono ?_
    rintro e w4 ⟨rfl, t4⟩
    go_wp2_with fail
    refine ⟨fun W => OwnS 5 1 W v2 (bys (safe' ++ loose')) ∧ OwnS 5 1 W v3 (bys (safe' ++ loose')) ∧ IsR W b' sv' lv' safe' loose' room, fun W h => h, ⟨(ho2.turns t3 (by simp)).turns t4 (by simp), ho3.turns t4 (by simp), HR3.turns t4 (by simp)⟩, ?_⟩
    refine flo_read _ rfl (fun K hK => ?_)
    go_simp
    first | (refine hK _ ?_) | (refine ⟨fun W hS => ?_, hK _ ?_⟩; · (intro hS2 hS3; try go_simp))
    clear hK K
    refine flo_read _ rfl (fun K hK => ?_)
    go_simp
    first | (refine hK _ ?_) | (refine ⟨fun W hS => ?_, hK _ ?_⟩; · (intro hS2 hS3; try go_simp))
    clear hK K
    refine flo_read _ rfl (fun K hK => ?_)
    go_simp
    first | (refine hK _ ?_) | (refine ⟨fun W hS => ?_, hK _ ?_⟩; · (intro hS2 hS3; try go_simp))
    clear hK K
    refine flo_end ?_
    have HD4 := HD3.turns t4 (by simp)
    have HR4 := HR3.turns t4 (by simp)
    have z1 := td.size; have z2 := t2.size; have z3 := t3.size; have z4 := t4.size
    go_wp2_with fail
    go_ret
    exact ⟨rfl, ⟨fv', sv', lv', safe', loose', HD4, HR4, Hp, Hl, by omega⟩, F, ((((T.trans (td.mono (by simp))).trans (t2.mono (by simp))).trans (t3.mono (by simp))).trans (t4.mono (by simp))), hF⟩
end Go.Proofs.Ytondopjpkedojaa.D6
