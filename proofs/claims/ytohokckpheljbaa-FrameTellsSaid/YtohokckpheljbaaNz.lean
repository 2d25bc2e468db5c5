/- Frames and bytes, plainly: what is read of bytes; there and back. No program in sight. -/
import Derived.Test.YtohokckpheljbaaNb
import Derived.Test.YtohokckpheljbaaFj
import Derived.Test.YtohokckpheljbaaKt
set_option linter.unusedVariables false
set_option linter.unusedSimpArgs false
set_option maxRecDepth 100000
namespace Go.Proofs.Ytohokckpheljbaa.Nz
open Go.RowKit Fa Fb Fg Fi Fj Kw Kr Ks Kt Nb
def numP (s : St) : Int × St := s.upto 4611686018427387904
def lsP : Nat → St → List (Int × Int) × St
  | 0, s => ([], s)
  | n + 1, s => ((lsP n s).1 ++ [((numP (lsP n s).2).1, (numP (numP (lsP n s).2).2).1)], (numP (numP (lsP n s).2).2).2)
def rowP (s : St) : Row × St :=
  let k := numP s; let a := numP k.2; let m := numP a.2; let n := m.2.upto 64; let l := lsP n.1.toNat n.2
  (⟨k.1, a.1, m.1, l.1⟩, l.2)
def rowsP : Nat → St → List Row × St
  | 0, s => ([], s)
  | n + 1, s => ((rowsP n s).1 ++ [(rowP (rowsP n s).2).1], (rowP (rowsP n s).2).2)
def stP : Nat → St → List Int × St
  | 0, s => ([], s)
  | n + 1, s => ((stP n s).1 ++ [(numP (stP n s).2).1 - 1], (numP (stP n s).2).2)
def tokP (s : St) : Tok × St :=
  let g := numP s; let h := numP g.2; let n := h.2.upto 64; let l := stP n.1.toNat n.2; let b := numP l.2; let r := b.2.upto 16; let q := rowsP r.1.toNat r.2
  (⟨g.1, h.1, l.1, b.1, q.1⟩, q.2)
def frP (s : St) : Fr × St :=
  let k := numP s; let f := numP k.2; let t := numP f.2
  if k.1 = 0 then (⟨k.1, f.1, t.1, 0, 0, 0, (tokP t.2).1⟩, (tokP t.2).2)
  else if k.1 = 1 then (⟨k.1, f.1, t.1, (numP t.2).1, (numP (numP t.2).2).1, 0, Tok.zero⟩, (numP (numP t.2).2).2)
  else if k.1 = 2 then (⟨k.1, f.1, t.1, (numP t.2).1, 0, (numP t.2).2.bits.1, Tok.zero⟩, (numP t.2).2.bits.2)
  else (⟨k.1, f.1, t.1, 0, 0, 0, Tok.zero⟩, t.2)
/-- what is decoded: the error, the frame -/
def zeroFr : Fr := ⟨0, 0, 0, 0, 0, 0, Tok.zero⟩
def decP (l : List Int) : Int × Fr := if (frP ⟨l, false⟩).2.done ≠ 0 ∨ rightB (frP ⟨l, false⟩).1 = false then (2, zeroFr) else (0, (frP ⟨l, false⟩).1)
def encN (f : Fr) : List Int := if f.kind = 0 then tokN f.tok else if f.kind = 1 then [f.gen, f.hop] else if f.kind = 2 then [f.gen] else []
def encT (f : Fr) : List Int := if f.kind = 2 then be8 f.bits else []
/-- a frame's bytes -/
def encB (f : Fr) : List Int := putR ([f.kind, f.frm, f.to] ++ encN f) ++ encT f
-- bytes
theorem be8_val8 {l : List Int} (h : Byt l) (hl : l.length = 8) : be8 (val8 l) = l := by
  match l, hl with
  | [a, b, c, d, e, f, g, i], _ =>
    have h0 := h a (by simp)
    have h1 := h b (by simp)
    have h2 := h c (by simp)
    have h3 := h d (by simp)
    have h4 := h e (by simp)
    have h5 := h f (by simp)
    have h6 := h g (by simp)
    have h7 := h i (by simp)
    simp only [be8, show List.range 8 = [0, 1, 2, 3, 4, 5, 6, 7] from rfl, List.map_cons, List.map_nil, val8, List.foldl_cons, List.foldl_nil]
    simp only [show (8 * (7 - 0) : Nat) = 56 from rfl, show (8 * (7 - 1) : Nat) = 48 from rfl, show (8 * (7 - 2) : Nat) = 40 from rfl, show (8 * (7 - 3) : Nat) = 32 from rfl, show (8 * (7 - 4) : Nat) = 24 from rfl, show (8 * (7 - 5) : Nat) = 16 from rfl, show (8 * (7 - 6) : Nat) = 8 from rfl, show (8 * (7 - 7) : Nat) = 0 from rfl, show (2 : Int) ^ 56 = 72057594037927936 from rfl, show (2 : Int) ^ 48 = 281474976710656 from rfl, show (2 : Int) ^ 40 = 1099511627776 from rfl, show (2 : Int) ^ 32 = 4294967296 from rfl, show (2 : Int) ^ 24 = 16777216 from rfl, show (2 : Int) ^ 16 = 65536 from rfl, show (2 : Int) ^ 8 = 256 from rfl, show (2 : Int) ^ 0 = 1 from rfl]
    simp only [List.cons.injEq, and_true]
    refine ⟨?_, ?_, ?_, ?_, ?_, ?_, ?_, ?_⟩ <;> omega
theorem byt_app {l m : List Int} (h : Byt (l ++ m)) : Byt m := fun c hc => h c (List.mem_append_right _ hc)
theorem bits_byt {s : St} (h : Byt s.bytes) : Byt s.bits.2.bytes := by
  unfold St.bits
  split
  · exact h
  · exact h.drop 8
theorem upto_byt {s : St} {m : Int} (h : Byt s.bytes) : Byt (s.upto m).2.bytes := by
  unfold St.upto
  split
  · exact bits_byt h
  · split
    · exact bits_byt h
    · exact bits_byt h
theorem num_byt {s : St} (h : Byt s.bytes) : Byt (numP s).2.bytes := upto_byt h
theorem ls_byt : ∀ (n : Nat) {s : St}, Byt s.bytes → Byt (lsP n s).2.bytes
  | 0, _, h => h
  | n + 1, _, h => num_byt (num_byt (ls_byt n h))
theorem row_byt {s : St} (h : Byt s.bytes) : Byt (rowP s).2.bytes := ls_byt _ (upto_byt (num_byt (num_byt (num_byt h))))
theorem rows_byt : ∀ (n : Nat) {s : St}, Byt s.bytes → Byt (rowsP n s).2.bytes
  | 0, _, h => h
  | n + 1, _, h => row_byt (rows_byt n h)
theorem st_byt : ∀ (n : Nat) {s : St}, Byt s.bytes → Byt (stP n s).2.bytes
  | 0, _, h => h
  | n + 1, _, h => num_byt (st_byt n h)
theorem tok_byt {s : St} (h : Byt s.bytes) : Byt (tokP s).2.bytes := rows_byt _ (upto_byt (num_byt (st_byt _ (upto_byt (num_byt (num_byt h))))))
-- there
theorem bits_there {x : Int} (hx : 0 ≤ x ∧ x < 18446744073709551616) (r : List Int) : St.bits ⟨be8 x ++ r, false⟩ = (x, ⟨r, false⟩) := by
  have h8 := be8_len x
  unfold St.bits
  rw [if_neg (by simp [h8])]
  simp only
  rw [List.take_left' h8, List.drop_left' h8, val8_be8 hx]
theorem upto_there {x m : Int} (hx : 0 ≤ x ∧ x ≤ m) (hm : m ≤ 4611686018427387904) (r : List Int) : St.upto ⟨be8 x ++ r, false⟩ m = (x, ⟨r, false⟩) := by
  unfold St.upto
  rw [bits_there ⟨hx.1, by omega⟩ r]
  simp only
  rw [if_neg (by simp), if_neg (by omega)]
theorem put_cons (x : Int) (l r : List Int) : putR (x :: l) ++ r = be8 x ++ (putR l ++ r) := by unfold putR; rw [List.map_cons, List.flatten_cons, List.append_assoc]
theorem ok_iff {x : Int} : okNum x = true ↔ 0 ≤ x ∧ x ≤ 4611686018427387904 := by unfold okNum; simp
theorem num_there {x : Int} (hx : okNum x = true) (l r : List Int) : numP ⟨putR (x :: l) ++ r, false⟩ = (x, ⟨putR l ++ r, false⟩) := by
  rw [put_cons]
  exact upto_there (ok_iff.1 hx) (by omega) _
theorem up_there {x m : Int} (hx : 0 ≤ x ∧ x ≤ m) (hm : m ≤ 4611686018427387904) (l r : List Int) : St.upto ⟨putR (x :: l) ++ r, false⟩ m = (x, ⟨putR l ++ r, false⟩) := by
  rw [put_cons]
  exact upto_there hx hm _
theorem snoc_ex {α : Type} {l : List α} {n : Nat} (h : l.length = n + 1) : ∃ l' x, l = l' ++ [x] ∧ l'.length = n := by
  have hne : l ≠ [] := by intro e; rw [e] at h; simp at h
  refine ⟨l.dropLast, l.getLast hne, (List.dropLast_concat_getLast hne).symm, by simp; omega⟩
theorem ls_there : ∀ (n : Nat) (l : List (Int × Int)), l.length = n → ((l.flatMap fun p => [p.1, p.2]).all okNum = true) → ∀ r, lsP n ⟨putR (l.flatMap fun p => [p.1, p.2]) ++ r, false⟩ = (l, ⟨r, false⟩)
  | 0, l, hl, _, r => by
    obtain rfl := List.eq_nil_of_length_eq_zero hl
    rfl
  | n + 1, l, hl, ho, r => by
    obtain ⟨l', x, rfl, hl'⟩ := snoc_ex hl
    rw [List.flatMap_append, ok_app] at ho
    obtain ⟨o1, o2⟩ := ho
    simp only [List.flatMap_cons, List.flatMap_nil, List.append_nil, List.all_cons, List.all_nil, Bool.and_true, Bool.and_eq_true] at o2
    have ih := ls_there n l' hl' o1 (putR [x.1, x.2] ++ r)
    rw [List.flatMap_append, putR_append, List.append_assoc]
    unfold lsP
    rw [show putR (List.flatMap (fun p : Int × Int => [p.1, p.2]) [x]) = putR [x.1, x.2] from rfl, ih]
    simp only
    rw [num_there o2.1, num_there o2.2]
    rfl
theorem st_there : ∀ (n : Nat) (l : List Int), l.length = n → ((l.map (· + 1)).all okNum = true) → ∀ r, stP n ⟨putR (l.map (· + 1)) ++ r, false⟩ = (l, ⟨r, false⟩)
  | 0, l, hl, _, r => by
    obtain rfl := List.eq_nil_of_length_eq_zero hl
    rfl
  | n + 1, l, hl, ho, r => by
    obtain ⟨l', x, rfl, hl'⟩ := snoc_ex hl
    rw [List.map_append, ok_app] at ho
    obtain ⟨o1, o2⟩ := ho
    simp only [List.map_cons, List.map_nil, List.all_cons, List.all_nil, Bool.and_true] at o2
    have ih := st_there n l' hl' o1 (putR [x + 1] ++ r)
    rw [List.map_append, putR_append, List.append_assoc]
    unfold stP
    rw [show putR (List.map (fun x : Int => x + 1) [x]) = putR [x + 1] from rfl, ih]
    simp only
    rw [num_there o2]
    simp only [Int.add_sub_cancel]
    rfl
theorem row_there (x : Row) (hl : x.out.length ≤ 64) (ho : (rowN x).all okNum = true) (r : List Int) : rowP ⟨putR (rowN x) ++ r, false⟩ = (x, ⟨r, false⟩) := by
  unfold rowN at ho ⊢
  rw [ok_app] at ho
  obtain ⟨o1, o2⟩ := ho
  simp only [List.all_cons, List.all_nil, Bool.and_true, Bool.and_eq_true] at o1
  obtain ⟨h1, h2, h3, h4⟩ := o1
  unfold rowP
  simp only [List.cons_append, List.nil_append]
  rw [num_there h1, num_there h2, num_there h3, up_there (by omega) (by omega)]
  simp only [Int.toNat_natCast]
  rw [ls_there _ _ rfl o2]
theorem rows_there : ∀ (n : Nat) (l : List Row), l.length = n → (∀ x ∈ l, x.out.length ≤ 64) → ((l.flatMap rowN).all okNum = true) → ∀ r, rowsP n ⟨putR (l.flatMap rowN) ++ r, false⟩ = (l, ⟨r, false⟩)
  | 0, l, hl, _, _, r => by
    obtain rfl := List.eq_nil_of_length_eq_zero hl
    rfl
  | n + 1, l, hl, hx, ho, r => by
    obtain ⟨l', x, rfl, hl'⟩ := snoc_ex hl
    rw [List.flatMap_append, ok_app] at ho
    obtain ⟨o1, o2⟩ := ho
    simp only [List.flatMap_cons, List.flatMap_nil, List.append_nil] at o2
    have ih := rows_there n l' hl' (fun y hy => hx y (by simp [hy])) o1 (putR (rowN x) ++ r)
    rw [List.flatMap_append, putR_append, List.append_assoc]
    unfold rowsP
    rw [show List.flatMap rowN [x] = rowN x by simp, ih]
    simp only
    rw [row_there x (hx x (by simp)) o2]
theorem tok_there (t : Tok) (h1 : t.st.length ≤ 64) (h2 : t.rows.length ≤ 16) (h3 : ∀ x ∈ t.rows, x.out.length ≤ 64) (ho : (tokN t).all okNum = true) (r : List Int) : tokP ⟨putR (tokN t) ++ r, false⟩ = (t, ⟨r, false⟩) := by
  unfold tokN at ho ⊢
  rw [ok_app, ok_app, ok_app] at ho
  obtain ⟨o1, o2, o3, o4⟩ := ho
  simp only [List.all_cons, List.all_nil, Bool.and_true, Bool.and_eq_true] at o1 o3
  obtain ⟨a1, a2, a3⟩ := o1
  obtain ⟨b1, b2⟩ := o3
  unfold tokP
  simp only [List.cons_append, List.nil_append]
  rw [num_there a1, num_there a2, up_there (by omega) (by omega)]
  simp only [Int.toNat_natCast]
  rw [putR_append, List.append_assoc, st_there _ _ rfl o2]
  simp only
  rw [num_there b1]
  simp only
  rw [up_there (by omega) (by omega)]
  simp only [Int.toNat_natCast]
  rw [rows_there _ _ rfl h3 o4]
-- back
/-- these numbers were read -/
structure Took (s s' : St) (ns : List Int) : Prop where
  f0 : s.failed = false
  f1 : s'.failed = false
  eq : s.bytes = putR ns ++ s'.bytes
  ok : ns.all okNum = true
theorem Took.trans {a b c : St} {l m : List Int} (h : Took a b l) (k : Took b c m) : Took a c (l ++ m) :=
  ⟨h.f0, k.f1, by rw [h.eq, k.eq, putR_append, List.append_assoc], ok_app.2 ⟨h.ok, k.ok⟩⟩
theorem Took.nil {s : St} (h : s.failed = false) : Took s s [] := ⟨h, h, rfl, rfl⟩
theorem bits_back {s : St} (hb : Byt s.bytes) (h : s.bits.2.failed = false) : s.failed = false ∧ s.bytes = be8 s.bits.1 ++ s.bits.2.bytes ∧ 0 ≤ s.bits.1 ∧ s.bits.1 < 18446744073709551616 := by
  have hbd := bits_bd hb
  unfold St.bits at h hbd ⊢
  split at h
  · cases h
  · rename_i h1
    rw [if_neg h1] at hbd ⊢
    have hf : s.failed = false := by cases hs : s.failed with | false => rfl | true => exact absurd (.inl hs) h1
    have hl : 8 ≤ s.bytes.length := by
      rcases Nat.lt_or_ge s.bytes.length 8 with h2 | h2
      · exact absurd (.inr h2) h1
      · exact h2
    refine ⟨hf, ?_, hbd⟩
    simp only
    rw [be8_val8 (hb.take 8) (by rw [List.length_take]; omega), List.take_append_drop]
theorem upto_back {s : St} {m : Int} (hb : Byt s.bytes) (h : (s.upto m).2.failed = false) : Took s (s.upto m).2 [(s.upto m).1] ∧ 0 ≤ (s.upto m).1 ∧ (s.upto m).1 ≤ m := by
  by_cases h1 : s.bits.2.failed = true
  · rw [upto_1 h1] at h; cases h
  · have h1' : s.bits.2.failed = false := by cases hs : s.bits.2.failed with | false => rfl | true => exact absurd hs h1
    by_cases h2 : m < 0 ∨ s.bits.1 > 4611686018427387904 ∨ s.bits.1 > m
    · rw [upto_2 h1' h2] at h; cases h
    · rw [upto_3 h1' h2]
      obtain ⟨b1, b2, b3, b4⟩ := bits_back hb h1'
      refine ⟨⟨b1, rfl, ?_, ?_⟩, b3, by omega⟩
      · simp only
        rw [b2]
        unfold putR
        simp
      · simp only [List.all_cons, List.all_nil, Bool.and_true]
        exact ok_iff.2 ⟨b3, by omega⟩
theorem num_back {s : St} (hb : Byt s.bytes) (h : (numP s).2.failed = false) : Took s (numP s).2 [(numP s).1] := (upto_back hb h).1
theorem ls_back : ∀ (n : Nat) {s : St}, Byt s.bytes → (lsP n s).2.failed = false → Took s (lsP n s).2 ((lsP n s).1.flatMap fun p => [p.1, p.2]) ∧ (lsP n s).1.length = n
  | 0, s, _, h => ⟨Took.nil h, rfl⟩
  | n + 1, s, hb, h => by
    have t2 := num_back (num_byt (ls_byt n hb)) h
    have t1 := num_back (ls_byt n hb) t2.f0
    obtain ⟨t0, hl⟩ := ls_back n hb t1.f0
    refine ⟨?_, by simp [lsP, hl]⟩
    have := (t0.trans t1).trans t2
    simpa [lsP, List.flatMap_append] using this
theorem st_back : ∀ (n : Nat) {s : St}, Byt s.bytes → (stP n s).2.failed = false → Took s (stP n s).2 ((stP n s).1.map (· + 1)) ∧ (stP n s).1.length = n
  | 0, s, _, h => ⟨Took.nil h, rfl⟩
  | n + 1, s, hb, h => by
    have t1 := num_back (st_byt n hb) h
    obtain ⟨t0, hl⟩ := st_back n hb t1.f0
    refine ⟨?_, by simp [stP, hl]⟩
    have := t0.trans t1
    simpa [stP, List.map_append, Int.sub_add_cancel] using this
theorem row_back {s : St} (hb : Byt s.bytes) (h : (rowP s).2.failed = false) : Took s (rowP s).2 (rowN (rowP s).1) := by
  have b1 := num_byt hb
  have b2 := num_byt b1
  have b3 := num_byt b2
  have b4 : Byt ((numP (numP (numP s).2).2).2.upto 64).2.bytes := upto_byt b3
  obtain ⟨t5, hl⟩ := ls_back _ b4 h
  obtain ⟨t4, n0, _⟩ := upto_back b3 t5.f0
  have t3 := num_back b2 t4.f0
  have t2 := num_back b1 t3.f0
  have t1 := num_back hb t2.f0
  have := ((t1.trans t2).trans t3).trans (t4.trans t5)
  unfold rowN
  have e : ((rowP s).1.out.length : Int) = ((numP (numP (numP s).2).2).2.upto 64).1 := by
    show ((lsP _ _).1.length : Int) = _
    rw [hl]
    omega
  rw [e]
  simpa [rowP] using this
theorem rows_back : ∀ (n : Nat) {s : St}, Byt s.bytes → (rowsP n s).2.failed = false → Took s (rowsP n s).2 ((rowsP n s).1.flatMap rowN) ∧ (rowsP n s).1.length = n
  | 0, s, _, h => ⟨Took.nil h, rfl⟩
  | n + 1, s, hb, h => by
    have t1 := row_back (rows_byt n hb) h
    obtain ⟨t0, hl⟩ := rows_back n hb t1.f0
    refine ⟨?_, by simp [rowsP, hl]⟩
    have := t0.trans t1
    simpa [rowsP, List.flatMap_append] using this
theorem tok_back {s : St} (hb : Byt s.bytes) (h : (tokP s).2.failed = false) : Took s (tokP s).2 (tokN (tokP s).1) := by
  have b1 := num_byt hb
  have b2 := num_byt b1
  have b3 : Byt ((numP (numP s).2).2.upto 64).2.bytes := upto_byt b2
  have b4 := st_byt ((numP (numP s).2).2.upto 64).1.toNat b3
  have b5 := num_byt b4
  have b6 : Byt ((numP (stP ((numP (numP s).2).2.upto 64).1.toNat ((numP (numP s).2).2.upto 64).2).2).2.upto 16).2.bytes := upto_byt b5
  obtain ⟨t7, hl7⟩ := rows_back _ b6 h
  obtain ⟨t6, n6, _⟩ := upto_back b5 t7.f0
  have t5 := num_back b4 t6.f0
  obtain ⟨t4, hl4⟩ := st_back _ b3 t5.f0
  obtain ⟨t3, n3, _⟩ := upto_back b2 t4.f0
  have t2 := num_back b1 t3.f0
  have t1 := num_back hb t2.f0
  have := ((t1.trans t2).trans t3).trans (t4.trans ((t5.trans t6).trans t7))
  unfold tokN
  have e1 : ((tokP s).1.st.length : Int) = ((numP (numP s).2).2.upto 64).1 := by
    show ((stP _ _).1.length : Int) = _
    rw [hl4]
    omega
  have e2 : ((tokP s).1.rows.length : Int) = ((numP (stP ((numP (numP s).2).2.upto 64).1.toNat ((numP (numP s).2).2.upto 64).2).2).2.upto 16).1 := by
    show ((rowsP _ _).1.length : Int) = _
    rw [hl7]
    omega
  rw [e1, e2]
  simpa [tokP] using this
theorem fr_back {s : St} (hb : Byt s.bytes) (h : (frP s).2.failed = false) : s.failed = false ∧ s.bytes = encB (frP s).1 ++ (frP s).2.bytes := by
  have b1 := num_byt hb
  have b2 := num_byt b1
  have b3 := num_byt b2
  have head : ∀ {s' : St} {ns : List Int}, Took (numP (numP (numP s).2).2).2 s' ns → Took s s' ([(numP s).1, (numP (numP s).2).1, (numP (numP (numP s).2).2).1] ++ ns) := fun {s'} {ns} t => by
    have t3 := num_back b2 t.f0
    have t2 := num_back b1 t3.f0
    have t1 := num_back hb t2.f0
    simpa using (t1.trans t2).trans (t3.trans t)
  unfold frP at h ⊢
  simp only at h ⊢
  by_cases h0 : (numP s).1 = 0
  · rw [if_pos h0] at h ⊢
    have t := head (tok_back b3 h)
    refine ⟨t.f0, ?_⟩
    rw [t.eq]
    unfold encB encN encT
    simp [h0]
  · rw [if_neg h0] at h ⊢
    by_cases h1 : (numP s).1 = 1
    · rw [if_pos h1] at h ⊢
      have t5 := num_back (num_byt b3) h
      have t4 := num_back b3 t5.f0
      have t := head (t4.trans t5)
      refine ⟨t.f0, ?_⟩
      rw [t.eq]
      unfold encB encN encT
      simp [h1]
    · rw [if_neg h1] at h ⊢
      by_cases h2 : (numP s).1 = 2
      · rw [if_pos h2] at h ⊢
        obtain ⟨f5, e5, _⟩ := bits_back (num_byt b3) h
        have t4 := num_back b3 f5
        have t := head t4
        refine ⟨t.f0, ?_⟩
        rw [t.eq, e5]
        unfold encB encN encT
        simp [h2]
      · rw [if_neg h2] at h ⊢
        have t := head (Took.nil h)
        refine ⟨t.f0, ?_⟩
        rw [t.eq]
        unfold encB encN encT
        simp [h0, h1, h2]
/-- a frame that may be: its numbers may be; few -/
theorem inB_iff {x a b : Int} : inB x a b = true ↔ a ≤ x ∧ x ≤ b := by unfold inB; simp
theorem okLs_ok : ∀ (l : List (Int × Int)) (p : Option (Int × Int)), okLs p l = true → (l.flatMap fun p => [p.1, p.2]).all okNum = true
  | [], _, _ => rfl
  | x :: r, p, h => by
    unfold okLs at h
    simp only [Bool.and_eq_true] at h
    obtain ⟨h1, h2, _, h4⟩ := h
    have h1 := inB_iff.1 h1
    have h2 := inB_iff.1 h2
    rw [List.flatMap_cons, ok_app]
    refine ⟨?_, okLs_ok r _ h4⟩
    simp only [List.all_cons, List.all_nil, Bool.and_true, Bool.and_eq_true]
    exact ⟨ok_iff.2 (by omega), ok_iff.2 (by omega)⟩
theorem flat_len : ∀ (l : List (Int × Int)), (l.flatMap fun p => [p.1, p.2]).length = 2 * l.length
  | [] => rfl
  | x :: r => by rw [List.flatMap_cons, List.length_append, flat_len r]; simp; omega
theorem row_ok {start : Int} (hs : 0 ≤ start) {r : Row} (h : rowB start r = true) : (rowN r).all okNum = true ∧ r.out.length ≤ 64 ∧ (rowN r).length ≤ 132 := by
  unfold rowB lsB at h
  simp only [Bool.and_eq_true] at h
  obtain ⟨h1, h2, h3, h4, h5⟩ := h
  have h5 := of_decide_eq_true h5
  unfold keyB at h1
  have h1 := of_decide_eq_true h1
  have h2 := inB_iff.1 h2
  have h3 := inB_iff.1 h3
  unfold rowN
  refine ⟨?_, by omega, ?_⟩
  · rw [ok_app]
    refine ⟨?_, okLs_ok _ _ h4⟩
    simp only [List.all_cons, List.all_nil, Bool.and_true, Bool.and_eq_true]
    exact ⟨ok_iff.2 (by omega), ok_iff.2 (by omega), ok_iff.2 (by omega), ok_iff.2 (by omega)⟩
  · rw [List.length_append, flat_len]
    simp only [List.length_cons, List.length_nil]
    omega
theorem okRows_all {start : Int} : ∀ (R : List Row) (p : Option Row), okRows start p R = true → ∀ r ∈ R, rowB start r = true
  | [], _, _, r, hr => by simp at hr
  | x :: R, p, h, r, hr => by
    unfold okRows at h
    simp only [Bool.and_eq_true] at h
    rcases List.mem_cons.1 hr with rfl | hr
    · exact h.1
    · exact okRows_all R _ h.2.2 r hr
theorem rowsN_ok : ∀ (R : List Row), (∀ r ∈ R, (rowN r).all okNum = true ∧ r.out.length ≤ 64 ∧ (rowN r).length ≤ 132) → (R.flatMap rowN).all okNum = true ∧ (R.flatMap rowN).length ≤ 132 * R.length
  | [], _ => ⟨rfl, by simp⟩
  | x :: R, h => by
    obtain ⟨h1, h2⟩ := rowsN_ok R (fun r hr => h r (by simp [hr]))
    obtain ⟨h3, _, h4⟩ := h x (by simp)
    rw [List.flatMap_cons, ok_app, List.length_append, List.length_cons]
    exact ⟨⟨h3, h1⟩, by omega⟩
theorem tok_ok {t : Tok} (h : tokenB t = true) : (tokN t).all okNum = true ∧ t.st.length ≤ 64 ∧ t.rows.length ≤ 16 ∧ (∀ r ∈ t.rows, r.out.length ≤ 64) ∧ (tokN t).length ≤ 2200 := by
  unfold tokenB tableB at h
  simp only [Bool.and_eq_true] at h
  obtain ⟨h1, h2, h3, h4, h5, h6, h7⟩ := h
  have h1 := inB_iff.1 h1
  have h2 := inB_iff.1 h2
  have h3 := inB_iff.1 h3
  have h6 := inB_iff.1 h6
  have h7 := of_decide_eq_true h7
  have hr := fun r hr => row_ok h6.1 (okRows_all _ _ h5 r hr)
  obtain ⟨q1, q2⟩ := rowsN_ok t.rows hr
  refine ⟨?_, by omega, by omega, fun r hm => (hr r hm).2.1, ?_⟩
  · unfold tokN
    rw [ok_app, ok_app, ok_app]
    refine ⟨?_, ?_, ?_, q1⟩
    · simp only [List.all_cons, List.all_nil, Bool.and_true, Bool.and_eq_true]
      exact ⟨ok_iff.2 (by omega), ok_iff.2 (by omega), ok_iff.2 (by omega)⟩
    · rw [List.all_map, List.all_eq_true]
      intro x hx
      have := List.all_eq_true.1 h4 x hx
      unfold stampB at this
      have := inB_iff.1 this
      show okNum (x + 1) = true
      exact ok_iff.2 (by omega)
    · simp only [List.all_cons, List.all_nil, Bool.and_true, Bool.and_eq_true]
      exact ⟨ok_iff.2 (by omega), ok_iff.2 (by omega)⟩
  · unfold tokN
    simp only [List.length_append, List.length_map, List.length_cons, List.length_nil]
    omega
/-- the frames that may be -/
theorem right_cases {f : Fr} (h : rightB f = true) : (0 ≤ f.frm ∧ f.frm ≤ 63) ∧ (0 ≤ f.to ∧ f.to ≤ 63) ∧
    ((f.kind = 0 ∧ f.gen = 0 ∧ f.hop = 0 ∧ f.bits = 0 ∧ tokenB f.tok = true) ∨ (f.kind = 1 ∧ f.tok = Tok.zero ∧ (1 ≤ f.gen ∧ f.gen ≤ 1099511627776) ∧ (0 ≤ f.hop ∧ f.hop ≤ 1099511627776) ∧ f.bits = 0)
      ∨ (f.kind = 2 ∧ f.tok = Tok.zero ∧ (1 ≤ f.gen ∧ f.gen ≤ 1099511627776) ∧ f.hop = 0) ∨ (f.kind = 3 ∧ f.tok = Tok.zero ∧ f.gen = 0 ∧ f.hop = 0 ∧ f.bits = 0)) := by
  unfold rightB at h
  simp only [Bool.and_eq_true] at h
  obtain ⟨h1, h2, h3⟩ := h
  refine ⟨inB_iff.1 h1, inB_iff.1 h2, ?_⟩
  unfold kindB bareB genB hopB at h3
  split at h3
  · rename_i hk
    simp only [Bool.and_eq_true, beq_iff_eq] at h3
    exact .inl ⟨hk, h3.1.1, h3.1.2.1, h3.1.2.2, h3.2⟩
  · split at h3
    · rename_i hk
      simp only [Bool.and_eq_true, beq_iff_eq, decide_eq_true_eq] at h3
      exact .inr (.inl ⟨hk, h3.1, inB_iff.1 h3.2.1, inB_iff.1 h3.2.2.1, h3.2.2.2⟩)
    · split at h3
      · rename_i hk
        simp only [Bool.and_eq_true, beq_iff_eq, decide_eq_true_eq] at h3
        exact .inr (.inr (.inl ⟨hk, h3.1, inB_iff.1 h3.2.1, h3.2.2⟩))
      · split at h3
        · rename_i hk
          simp only [Bool.and_eq_true, beq_iff_eq, decide_eq_true_eq] at h3
          exact .inr (.inr (.inr ⟨hk, h3.1, h3.2.1, h3.2.2.1, h3.2.2.2⟩))
        · cases h3
theorem fr_there {f : Fr} (h : rightB f = true) (hb : 0 ≤ f.bits ∧ f.bits < 18446744073709551616) (r : List Int) : frP ⟨encB f ++ r, false⟩ = (f, ⟨r, false⟩) := by
  obtain ⟨hf, ht, hc⟩ := right_cases h
  obtain ⟨k, fr, tt, g, ho, bi, t⟩ := f
  simp only at hf ht hc hb
  have of_ : okNum fr = true := ok_iff.2 (by omega)
  have ot : okNum tt = true := ok_iff.2 (by omega)
  unfold encB encN encT
  rcases hc with ⟨rfl, rfl, rfl, rfl, h5⟩ | ⟨rfl, rfl, h3, h4, rfl⟩ | ⟨rfl, rfl, h3, rfl⟩ | ⟨rfl, rfl, rfl, rfl, rfl⟩
  · obtain ⟨q1, q2, q3, q4, _⟩ := tok_ok h5
    simp only [↓reduceIte, Int.reduceEq, List.append_nil, List.cons_append, List.nil_append]
    unfold frP
    simp only
    rw [num_there (by decide), num_there of_, num_there ot]
    simp only [↓reduceIte]
    rw [tok_there t q2 q3 q4 q1]
  · have og : okNum g = true := ok_iff.2 (by omega)
    have oh : okNum ho = true := ok_iff.2 (by omega)
    simp only [↓reduceIte, Int.reduceEq, List.append_nil, List.cons_append, List.nil_append]
    unfold frP
    simp only
    rw [num_there (by decide), num_there of_, num_there ot]
    simp only [↓reduceIte, Int.reduceEq]
    rw [num_there og, num_there oh]
    rfl
  · have og : okNum g = true := ok_iff.2 (by omega)
    simp only [↓reduceIte, Int.reduceEq, List.append_assoc, List.cons_append, List.nil_append]
    unfold frP
    simp only
    rw [num_there (by decide), num_there of_, num_there ot]
    simp only [↓reduceIte, Int.reduceEq]
    rw [num_there og]
    simp only
    rw [show putR [] ++ (be8 bi ++ r) = be8 bi ++ r from rfl, bits_there hb]
  · simp only [↓reduceIte, Int.reduceEq, List.append_nil, List.cons_append, List.nil_append]
    unfold frP
    simp only
    rw [num_there (by decide), num_there of_, num_there ot]
    simp only [↓reduceIte, Int.reduceEq]
    rfl
theorem done_zero {s : St} : s.done = 0 ↔ s.failed = false ∧ s.bytes = [] := by
  unfold St.done
  split
  · rename_i h
    constructor
    · intro h2; cases h2
    · rintro ⟨h1, h2⟩
      rcases h with h | h
      · rw [h1] at h; cases h
      · exact absurd h2 h
  · rename_i h
    constructor
    · intro _
      refine ⟨by cases hs : s.failed with | false => rfl | true => exact absurd (.inl hs) h, ?_⟩
      cases hb : s.bytes with
      | nil => rfl
      | cons x l => exact absurd (.inr (by rw [hb]; simp)) h
    · intro _; rfl
/-- it is decoded from its bytes -/
theorem dec_enc {f : Fr} (h : rightB f = true) (hb : 0 ≤ f.bits ∧ f.bits < 18446744073709551616) : decP (encB f) = (0, f) := by
  have := fr_there h hb []
  rw [List.append_nil] at this
  unfold decP
  rw [this]
  simp only
  rw [if_neg]
  rintro (h1 | h1)
  · exact h1 (done_zero.2 ⟨rfl, rfl⟩)
  · rw [h] at h1; cases h1
theorem dec_cases (l : List Int) : (decP l = (2, zeroFr)) ∨ (∃ f, decP l = (0, f) ∧ rightB f = true ∧ (frP ⟨l, false⟩).1 = f ∧ (frP ⟨l, false⟩).2.done = 0) := by
  unfold decP
  by_cases h : (frP ⟨l, false⟩).2.done ≠ 0 ∨ rightB (frP ⟨l, false⟩).1 = false
  · rw [if_pos h]; exact .inl rfl
  · rw [if_neg h]
    refine .inr ⟨_, rfl, ?_, rfl, ?_⟩
    · cases hr : rightB (frP ⟨l, false⟩).1 with
      | true => rfl
      | false => exact absurd (.inr hr) h
    · exact Decidable.byContradiction fun h2 => h (.inl h2)
/-- what is decoded has these bytes -/
theorem enc_dec {l : List Int} (hl : Byt l) {f : Fr} (h : decP l = (0, f)) : rightB f = true ∧ encB f = l := by
  rcases dec_cases l with h1 | ⟨g, h1, h2, h3, h4⟩
  · rw [h1] at h; cases h
  · rw [h1] at h
    injection h with _ h
    subst h
    obtain ⟨d1, d2⟩ := done_zero.1 h4
    obtain ⟨_, e⟩ := fr_back (s := ⟨l, false⟩) hl d1
    rw [d2, List.append_nil, h3] at e
    exact ⟨h2, e.symm⟩
theorem bits_ok {l : List Int} (hl : Byt l) : 0 ≤ (frP ⟨l, false⟩).1.bits ∧ (frP ⟨l, false⟩).1.bits < 18446744073709551616 := by
  unfold frP
  simp only
  have b3 := num_byt (num_byt (num_byt (s := ⟨l, false⟩) hl))
  split
  · simp
  · split
    · simp
    · split
      · exact bits_bd (num_byt b3)
      · simp
/-- a part of them, from the beginning, is none's -/
theorem dec_cut {l : List Int} (hl : Byt l) {f : Fr} (h : decP l = (0, f)) (k : Nat) (hk : k < l.length) : decP (l.take k) = (2, zeroFr) := by
  rcases dec_cases (l.take k) with h1 | ⟨g, h1, h2, h3, h4⟩
  · exact h1
  · obtain ⟨_, e⟩ := enc_dec (hl.take k) h1
    have hb := bits_ok (hl.take k)
    rw [h3] at hb
    have := fr_there h2 hb (l.drop k)
    rw [e, List.take_append_drop] at this
    rcases dec_cases l with q1 | ⟨f', q1, q2, q3, q4⟩
    · rw [q1] at h; cases h
    · rw [this] at q4
      obtain ⟨_, hd⟩ := done_zero.1 q4
      have hd : l.drop k = [] := hd
      have : (l.drop k).length = 0 := by rw [hd]; rfl
      rw [List.length_drop] at this
      omega
theorem encN_ok {f : Fr} (h : rightB f = true) : ([f.kind, f.frm, f.to] ++ encN f).all okNum = true ∧ ([f.kind, f.frm, f.to] ++ encN f).length ≤ 2203 := by
  obtain ⟨hf, ht, hc⟩ := right_cases h
  obtain ⟨k, fr, tt, g, ho, bi, t⟩ := f
  simp only at hf ht hc
  have of_ : okNum fr = true := ok_iff.2 (by omega)
  have ot : okNum tt = true := ok_iff.2 (by omega)
  have h3 : ∀ k : Int, okNum k = true → [k, fr, tt].all okNum = true := fun k hk => by simp [hk, of_, ot]
  unfold encN
  rw [ok_app, List.length_append]
  rcases hc with ⟨rfl, rfl, rfl, rfl, h5⟩ | ⟨rfl, rfl, hg, hh, rfl⟩ | ⟨rfl, rfl, hg, rfl⟩ | ⟨rfl, rfl, rfl, rfl, rfl⟩
  · obtain ⟨q1, q2, q3, q4, q5⟩ := tok_ok h5
    rw [if_pos rfl]
    exact ⟨⟨h3 0 (by decide), q1⟩, by simp; omega⟩
  · rw [if_neg (by simp), if_pos rfl]
    refine ⟨⟨h3 1 (by decide), ?_⟩, by simp⟩
    simp only [List.all_cons, List.all_nil, Bool.and_true, Bool.and_eq_true]
    exact ⟨ok_iff.2 (by omega), ok_iff.2 (by omega)⟩
  · rw [if_neg (by simp), if_neg (by simp), if_pos rfl]
    refine ⟨⟨h3 2 (by decide), ?_⟩, by simp⟩
    simp only [List.all_cons, List.all_nil, Bool.and_true]
    exact ok_iff.2 (by omega)
  · rw [if_neg (by simp), if_neg (by simp), if_neg (by simp)]
    exact ⟨⟨h3 3 (by decide), rfl⟩, by simp⟩
end Go.Proofs.Ytohokckpheljbaa.Nz
