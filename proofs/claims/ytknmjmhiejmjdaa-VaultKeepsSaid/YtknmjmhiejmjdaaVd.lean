/- The walks of vault's bytes and read, and the document's Bytes; four numbers of a reader. -/
import Derived.Test.YtknmjmhiejmjdaaVc
import Derived.Test.YtknmjmhiejmjdaaVk
set_option linter.unusedVariables false
set_option linter.unusedSimpArgs false
set_option maxRecDepth 100000
namespace Go.Proofs.Ytknmjmhiejmjdaa.Vd
open Go.RowKit Go.MapKept Go.ChangeShapes Go.WideShapes Hm Hs Hr Hb Hf Hg Hv Ho Kw Kn Kr Ks Va Vb Vc Vk
/-- a state's record -/
def recB (s : V4) : List Int := putR (s.list.map u64)
theorem recB_len (s : V4) : (recB s).length = 32 := by unfold recB; rw [putR_len]; rfl
theorem ok1_in {x : Int} (h : ok1 x = true) : 0 ≤ x ∧ x ≤ 1099511627776 := by unfold ok1 at h; simp at h; omega
theorem ok_in {s : V4} (h : s.ok = true) : (0 ≤ s.p ∧ s.p ≤ 1099511627776) ∧ (0 ≤ s.g ∧ s.g ≤ 1099511627776) ∧ (0 ≤ s.h ∧ s.h ≤ 1099511627776) ∧ (0 ≤ s.r ∧ s.r ≤ 1099511627776) := by
  unfold V4.ok at h
  simp only [Bool.and_eq_true] at h
  exact ⟨ok1_in h.1.1.1, ok1_in h.1.1.2, ok1_in h.1.2, ok1_in h.2⟩
theorem ok_list {s : V4} (h : s.ok = true) : ∀ x ∈ s.list, 0 ≤ x ∧ x ≤ 1099511627776 := by
  obtain ⟨h1, h2, h3, h4⟩ := ok_in h
  intro x hx
  simp only [V4.list, List.mem_cons, List.not_mem_nil, or_false] at hx
  rcases hx with rfl | rfl | rfl | rfl <;> assumption
theorem ok_nums {s : V4} (h : s.ok = true) : s.list.all okNum = true := by
  rw [List.all_eq_true]
  intro x hx
  have := ok_list h x hx
  exact decide_eq_true (by omega)
theorem fourI {w : World} {p : Nat} {s : V4} (h : Blk w p #[.int .i64 s.p, .int .i64 s.g, .int .i64 s.h, .int .i64 s.r] 3) : RdS 1 w (.slice (some ⟨p, 0, none⟩) 4 4) (ins s.list) :=
  RdS.of_cells (rows := ins s.list) h rfl (by simp [ins, V4.list]) 4 (by simp [ins, V4.list]) (by decide)
theorem bytes_is (w : World) (v : Value) (s : V4) (hs : s.ok = true) : Calls Try.prog 34 #[v, .agg #[.int .i64 s.p, .int .i64 s.g, .int .i64 s.h, .int .i64 s.r]] w
    fun e w' => ∃ v, e = .returned v ∧ OwnS 5 1 w' v (bys (recB s)) ∧ Turns [] w w' ∧ ∀ k, v.ownBlock = some k → w.heap.size ≤ k := by
  have T0 := (Turns.refl [] w).alloc (.cells #[.int .i64 s.p, .int .i64 s.g, .int .i64 s.h, .int .i64 s.r] 25)
  have T1 := T0.alloc (.cells #[.slice none 0 0, .bool false] 89)
  have B1 := Blk.new (w.alloc (.cells #[.int .i64 s.p, .int .i64 s.g, .int .i64 s.h, .int .i64 s.r] 25)) #[.slice none 0 0, .bool false] 89
  have T2 := T1.alloc (.cells #[.int .i64 s.p, .int .i64 s.g, .int .i64 s.h, .int .i64 s.r] 3)
  have B2 := B1.alloc (.cells #[.int .i64 s.p, .int .i64 s.g, .int .i64 s.h, .int .i64 s.r] 3)
  have R2 := Blk.new ((w.alloc (.cells #[.int .i64 s.p, .int .i64 s.g, .int .i64 s.h, .int .i64 s.r] 25)).alloc (.cells #[.slice none 0 0, .bool false] 89)) #[.int .i64 s.p, .int .i64 s.g, .int .i64 s.h, .int .i64 s.r] 3
  simp only [World.size_alloc] at R2 B2
  have hsz : (((w.alloc (.cells #[.int .i64 s.p, .int .i64 s.g, .int .i64 s.h, .int .i64 s.r] 25)).alloc (.cells #[.slice none 0 0, .bool false] 89)).alloc (.cells #[.int .i64 s.p, .int .i64 s.g, .int .i64 s.h, .int .i64 s.r] 3)).heap.size = w.heap.size + 1 + 1 + 1 := by simp only [World.size_alloc]
  have hQ : IsQ w.heap.size (w.heap.size + 1 + 1) (((w.alloc (.cells #[.int .i64 s.p, .int .i64 s.g, .int .i64 s.h, .int .i64 s.r] 25)).alloc (.cells #[.slice none 0 0, .bool false] 89)).alloc (.cells #[.int .i64 s.p, .int .i64 s.g, .int .i64 s.h, .int .i64 s.r] 3)) (w.heap.size + 1) (.slice none 0 0) [] false :=
    ⟨B2, OwnS.nil _ _ _, by omega, by simp [Value.ownBlock], by omega, by omega, by simp [Value.ownBlock], by omega⟩
  have e0 : (false || !(s.list.all okNum)) = false := by rw [ok_nums hs]; rfl
  have hbd : ∀ x ∈ s.list, -9223372036854775808 ≤ x ∧ x ≤ 9223372036854775807 := fun x hx => by have := ok_list hs x hx; omega
  have hQh : Hid _ := hQ
  have R2h : Hid _ := R2
  have T2h : Hid _ := T2
  have e0h : Hid _ := e0
  have hbdh : Hid _ := hbd
  clear hs T0 T1 B1 T2 B2 R2 hsz hQ e0 hbd
  go_enter Try.func34, Try.ntmps34
  go_wp2_with fail
  go_at_call 44
  refine Calls.mono (Vk.num_is w.heap.size (w.heap.size + 1 + 1) _ (w.heap.size + 1) _ [] false hQh.out _ s.list (fourI R2h.out) (fun w' hw => fourI (hw.trans R2h.out)) (by simp [V4.list]) hbdh.out) ?_
  rintro e w2 ⟨rfl, ⟨bv2, h2⟩, l2⟩
  rw [e0h.out, List.nil_append] at h2
  have h2 := h2.toW
  have T3 := T2h.out.below l2.lo (Nat.le_refl _)
  go_wp2_with fail
  go_at_call 45
  refine Calls.mono (done_ok w.heap.size _ _ bv2 _ h2 (by rw [putR_len]; simp [V4.list])) ?_
  rintro e w4 ⟨v, rfl, ho, t4, hf⟩
  have T4 := T3.trans t4
  obtain ⟨A, c, rfl, _⟩ := ho.form
  have hs3 := T3.size
  rw [show putR (s.list.map u64) = recB s from rfl] at *
  go_wp2_with fail
  go_ret
  exact ⟨_, rfl, ho, T4, fun k hk => by have := hf k hk; omega⟩
theorem dbytes_is (w : World) (s : V4) (hs : s.ok = true) : Calls Try.prog 36 #[.agg #[.int .i64 s.p, .int .i64 s.g, .int .i64 s.h, .int .i64 s.r]] w
    fun e w' => ∃ v, e = .returned v ∧ OwnS 5 1 w' v (bys (recB s)) ∧ Turns [] w w' ∧ ∀ k, v.ownBlock = some k → w.heap.size ≤ k := by
  have T0 := (Turns.refl [] w).alloc (.cells #[.int .i64 s.p, .int .i64 s.g, .int .i64 s.h, .int .i64 s.r] 47)
  have T1 := T0.alloc (.cells #[.int .i64 s.p, .int .i64 s.g, .int .i64 s.h, .int .i64 s.r] 3)
  have B1 := Blk.new (w.alloc (.cells #[.int .i64 s.p, .int .i64 s.g, .int .i64 s.h, .int .i64 s.r] 47)) #[.int .i64 s.p, .int .i64 s.g, .int .i64 s.h, .int .i64 s.r] 3
  simp only [World.size_alloc] at B1
  have hbd : ∀ x ∈ s.list, -9223372036854775808 ≤ x ∧ x ≤ 9223372036854775807 := fun x hx => by have := ok_list hs x hx; omega
  have hn := ok_nums hs
  have B1h : Hid _ := B1
  have T1h : Hid _ := T1
  have hbdh : Hid _ := hbd
  have hnh : Hid _ := hn
  clear hs T0 T1 B1 hbd hn
  go_enter Try.func36, Try.ntmps36
  go_wp2_with fail
  go_at_call 46
  refine Calls.mono (Kp.put_bad _ _ s.list (fourI B1h.out) (by simp [V4.list]) hbdh.out) ?_
  rintro e w2 ⟨hp, t2⟩
  rcases hp with ⟨hp, _⟩ | ⟨_, v, rfl, ho, hf⟩
  · rw [hnh.out] at hp; cases hp
  have T2 := T1h.out.trans t2
  have hs3 := T1h.out.size
  obtain ⟨A, c, rfl, _⟩ := ho.form
  rw [show putR (s.list.map u64) = recB s from rfl] at *
  go_wp2_with fail
  go_ret
  exact ⟨_, rfl, ho, T2, fun k hk => by have := hf k hk; omega⟩
/-- the state that a record's bytes say -/
def decV (l : List Int) : V4 := ⟨val8 (l.take 8), val8 ((l.drop 8).take 8), val8 ((l.drop 16).take 8), val8 ((l.drop 24).take 8)⟩
def M62 : Int := 4611686018427387904
theorem upto_ok {l : List Int} (hl : 8 ≤ l.length) (hb : Byt l) (hx : val8 (l.take 8) ≤ M62) : (⟨l, false⟩ : St).upto M62 = (val8 (l.take 8), ⟨l.drop 8, false⟩) := by
  have h1 := bits_ok (s := ⟨l, false⟩) rfl hl
  rw [Kt.upto_3 (by rw [h1]) (by rw [h1]; dsimp only; unfold M62 at *; omega), h1]
theorem upto_big {l : List Int} (hl : 8 ≤ l.length) (hb : Byt l) (hx : ¬ val8 (l.take 8) ≤ M62) : (⟨l, false⟩ : St).upto M62 = (0, ⟨l.drop 8, true⟩) := by
  have h1 := bits_ok (s := ⟨l, false⟩) rfl hl
  rw [Kt.upto_2 (by rw [h1]) (by rw [h1]; dsimp only; unfold M62 at *; omega), h1]
theorem upto_fail (l : List Int) : (⟨l, true⟩ : St).upto M62 = (0, ⟨l, true⟩) := by
  have h1 := bits_bad (s := ⟨l, true⟩) (.inl rfl)
  rw [Kt.upto_1 (by rw [h1]), h1]
/-- four numbers are read -/
def quad (s : St) : V4 × St := (⟨(s.upto M62).1, ((s.upto M62).2.upto M62).1, (((s.upto M62).2.upto M62).2.upto M62).1, ((((s.upto M62).2.upto M62).2.upto M62).2.upto M62).1⟩, ((((s.upto M62).2.upto M62).2.upto M62).2.upto M62).2)
theorem not_ok_of {x : Int} (h : ¬ x ≤ M62) : ok1 x = false := ok1_2 (by unfold M62 at h; omega)
theorem quad_is {l : List Int} (hl : 32 ≤ l.length) (hb : Byt l) : (quad ⟨l, false⟩ = (decV l, ⟨l.drop 32, false⟩)) ∨ ((quad ⟨l, false⟩).2.failed = true ∧ (decV l).ok = false) := by
  have l1 : 8 ≤ (l.drop 8).length := by rw [List.length_drop]; omega
  have l2 : 8 ≤ (l.drop 16).length := by rw [List.length_drop]; omega
  have l3 : 8 ≤ (l.drop 24).length := by rw [List.length_drop]; omega
  have d1 : (l.drop 8).drop 8 = l.drop 16 := by rw [List.drop_drop]
  have d2 : (l.drop 16).drop 8 = l.drop 24 := by rw [List.drop_drop]
  have d3 : (l.drop 24).drop 8 = l.drop 32 := by rw [List.drop_drop]
  by_cases x0 : val8 (l.take 8) ≤ M62
  · by_cases x1 : val8 ((l.drop 8).take 8) ≤ M62
    · by_cases x2 : val8 ((l.drop 16).take 8) ≤ M62
      · by_cases x3 : val8 ((l.drop 24).take 8) ≤ M62
        · left
          unfold quad
          rw [upto_ok (by omega) hb x0, upto_ok l1 (hb.drop 8) x1, d1, upto_ok l2 (hb.drop 16) x2, d2, upto_ok l3 (hb.drop 24) x3, d3]
          rfl
        · right
          unfold quad
          rw [upto_ok (by omega) hb x0, upto_ok l1 (hb.drop 8) x1, d1, upto_ok l2 (hb.drop 16) x2, d2, upto_big l3 (hb.drop 24) x3]
          exact ⟨rfl, ok_none (.inr (.inr (.inr (not_ok_of x3))))⟩
      · right
        unfold quad
        rw [upto_ok (by omega) hb x0, upto_ok l1 (hb.drop 8) x1, d1, upto_big l2 (hb.drop 16) x2, upto_fail]
        exact ⟨rfl, ok_none (.inr (.inr (.inl (not_ok_of x2))))⟩
    · right
      unfold quad
      rw [upto_ok (by omega) hb x0, upto_big l1 (hb.drop 8) x1, upto_fail, upto_fail]
      exact ⟨rfl, ok_none (.inr (.inl (not_ok_of x1)))⟩
  · right
    unfold quad
    rw [upto_big (by omega) hb x0, upto_fail, upto_fail, upto_fail]
    exact ⟨rfl, ok_none (.inl (not_ok_of x0))⟩
end Go.Proofs.Ytknmjmhiejmjdaa.Vd
