/- slices.Clone of a []int; slices.Repeat of one number; copy within a slice of one's own. -/
import Derived.Test.YtmaielpfeajelaaMu
import Derived.Test.YtmaielpfeajelaaHg
import Derived.Test.YtmaielpfeajelaaHv
import Derived.Test.YtmaielpfeajelaaHy
import Derived.Test.YtmaielpfeajelaaHz
import Derived.Lib.Hide
import Derived.Lib.SliceRun
import Derived.KernelRfl
set_option linter.unusedVariables false
set_option linter.unusedSimpArgs false
set_option maxRecDepth 100000
namespace Go.Proofs.Ytmaielpfeajelaa.Ya
open Go.RowKit Go.MapKept Hm Hs Hg Hv Hx Hy Sm Sat Mu
theorem infoI : (Try.prog.info? 3).map (fun i => (i.zero, i.size, i.bytes)) = some (some (.int .i64 0), 1, 8) := by kernel_rfl
set_option maxHeartbeats 1000000 in
theorem cloneI_is (w : World) (v : Value) (l : List Int) (h : RdS 1 w v (ins l)) (hn : l.length ≤ 100000) : Calls Try.prog 57 #[v] w fun e w' => ∃ u, e = .returned u ∧ OwnS 3 1 w' u (ins l) ∧ Turns [] w w' ∧ (∀ k, u.ownBlock = some k → w.heap.size ≤ k) := by
  obtain ⟨A, c, rfl, hc, hcm⟩ := h.form
  rw [ins_len] at hc ⊢
  have hh := Lib.hid h
  have q37 : ∀ (w : World) (a : Option Addr) (n c n' c' : Nat), (binOp .eql 33 (.slice a n c) (.slice none n' c')).run Try.prog w = .ok (.bool a.isNone) w := fun w a n c n' c' => Lib.run_eql_slice_nil w _ _ a n c n' c' Try.underlying33
  clear h
  cases A with
  | none =>
    obtain ⟨A2, c2, hv2, _, _, hnil, _⟩ := hh.out
    injection hv2 with e1 e2 e3
    subst e1
    have hc0 : c = 0 := by rw [e3]; exact hnil rfl
    subst hc0
    obtain rfl : l = [] := List.eq_nil_of_length_eq_zero (by omega)
    clear hh hnil e2 e3
    go_enter Try.func57, Try.ntmps57
    go_wp2_with fail
    go_ret
    exact ⟨_, rfl, OwnS.nil _ _ _, Turns.refl _ _, by simp [Value.ownBlock]⟩
  | some ad =>
    have H := (Sep.start w).newSlice ((Turns.refl [] w).alloc (.cells #[] 3)) (own_nil_lit w 3 1) (by simp [Value.ownBlock])
    have hs0 := hh.out.mv (w' := w.alloc (.cells #[] 3)) (fun a u => ((Turns.refl [] w).alloc (.cells #[] 3)).old)
    rw [ins_len] at hs0
    have hs1 := Lib.hid hs0
    clear hs0
    go_enter Try.func57, Try.ntmps57
    go_wp2_with (at_builtin; refine stop_ ?_)
    refine Mk_.mk ?_
    refine H.append 0 rfl hs1.out l.length (by simp) (ins l) (by simp) rfl _ _ _ rfl (.int .i64 0) 8 Try.underlying33 infoI rfl (by decide) rfl rfl (ins_one _) (by omega) (by omega) ?_
    clear H hs1
    intro A1 c1 w3 H t3 _
    have O := H.own 0 rfl
    have T := H.t
    have Mi := mine_own H 0 rfl
    clear H t3
    go_wp2_with fail
    go_ret
    exact ⟨_, rfl, O, T, fun q hq => by simpa using Mi q hq⟩
theorem copy_list {α : Type} (L : List α) (N k m : Nat) (cs : List α) (hk : k + m ≤ N) (hN : N ≤ L.length) (hcs : cs.length = m) : (L.take k ++ (cs ++ L.drop (k + m))).take N = (L.take N).take k ++ (cs ++ (L.take N).drop (k + m)) := by
  have a1 : (L.take k).length = k := by rw [List.length_take]; omega
  rw [List.take_append, a1, List.take_of_length_le (l := L.take k) (by omega), List.take_append, hcs, List.take_of_length_le (l := cs) (by omega), List.take_take, List.drop_take]
  rw [Nat.min_eq_left (by omega), show N - k - m = N - (k + m) from by omega]
section
variable {P : Program} {w : World} {ops : Array Oper} {rest : List Oper} {o : Oper} {a : Act} {Q : Exit → Act → World → Prop}
/-- copy(s[k:], s[:k]) upon a slice of one's own, elements of one cell -/
theorem wp_copy_tail {e : TypeId} {ad : Addr} {N c : Nat} {rows : List (List Value)} (hown : OwnS e 1 w (.slice (some ad) N c) rows) (hgd : o.guard = none) (d s : Operand) (dT sT : TypeId)
    (ho : o.op = .call { callee := .builtin .copy, args := #[d, s], argTypes := #[dT, sT] }) (hu : P.underlying dT = some (.slice e)) (hsz : (P.info? e).map (·.size) = some 1) (k m : Nat) (hk : k ≤ N) (hm : m = min k (N - k)) (c1 c2 : Nat)
    (hd : a.eval d = .slice (some (ad.add k)) (N - k) c1) (hs : a.eval s = .slice (some ad) k c2) (h1 : ∀ r ∈ rows, ∀ u ∈ r, u.oneCell' = true)
    (h : ∀ w', OwnS e 1 w' (.slice (some ad) N c) (rows.take k ++ (rows.take m ++ rows.drop (k + m))) → Turns [ad.block] w w' → wpList P ops Q rest (a.put o.dst (.int .i64 m)) w') :
    wpList P ops Q (o :: rest) a w := by
  have hrd := hown.reads
  obtain ⟨⟨g1, g2⟩, g3⟩ := hown
  rcases g2 with ⟨hv, _⟩ | ⟨g, cap, cur, hv, hg, hh, hl, hcm, hsize, htake⟩
  · cases hv
  · injection hv with e1 e2 e3
    injection e1 with e1
    subst e1 e2 e3
    rw [add_zero_] at hd
    have hcl : (rows.take m).flatten.length = m := by
      rw [flatten_len (sz := 1) (fun r hr => g3 r (List.mem_of_mem_take hr)), List.length_take, Nat.mul_one]; omega
    have hR : rows.flatten.length = rows.length := by rw [flatten_len (sz := 1) g3, Nat.mul_one]
    refine wpList_copy_own hgd d s dT sT ho e hu hsz g k (rows.length - k) c1 ⟨g, 0, none⟩ k c2 hd hs cur e hh (rows.take m).flatten (by rw [hcl, hm]) (fun j u hj => ?_) (by rw [hcl, hsize]; omega) (fun u hu2 => ?_) ?_
    · refine hrd.cells (by decide) _ _ c rfl j u ?_
      have hp : (rows.take m).flatten <+: rows.flatten := by
        conv => rhs; rw [← List.take_append_drop m rows, List.flatten_append]
        exact List.prefix_append _ _
      obtain ⟨t, ht⟩ := hp
      rw [← ht, List.getElem?_append_left (List.getElem?_eq_some_iff.1 hj).1]
      exact hj
    · obtain ⟨r, hr, hur⟩ := List.mem_flatten.1 hu2
      exact h1 r (List.mem_of_mem_take hr) u hur
    · rw [hcl]
      have hlen : (rows.take k ++ (rows.take m ++ rows.drop (k + m))).length = rows.length := by
        simp only [List.length_append, List.length_take, List.length_drop]; omega
      have hfl : (rows.take k ++ (rows.take m ++ rows.drop (k + m))).flatten = rows.flatten.take k ++ ((rows.take m).flatten ++ rows.flatten.drop (k + m)) := by
        rw [List.flatten_append, List.flatten_append, drop_flat rows (k + m) g3, Hz.flatten_take rows k g3, Nat.mul_one]
      have hrm : ∀ r ∈ rows.take k ++ (rows.take m ++ rows.drop (k + m)), r.length = 1 := fun r hr => by
        rcases List.mem_append.1 hr with hr | hr
        · exact g3 r (List.mem_of_mem_take hr)
        · rcases List.mem_append.1 hr with hr | hr
          · exact g3 r (List.mem_of_mem_take hr)
          · exact g3 r (List.mem_of_mem_drop hr)
      refine h _ ⟨⟨flatten_len hrm, .inr ⟨g, c, _, by rw [hlen], hg, setRow_heap w g cur _ e (0, 0) hh, by rw [hlen]; exact hl, hcm, ?_, ?_⟩⟩, hrm⟩ (setRow_turns w g _)
      · simp only [List.size_toArray, List.length_append, List.length_take, List.length_drop, Array.length_toList, hcl, hsize]
        omega
      · rw [hlen, hfl, ← htake]
        simp only [Nat.mul_one]
        have := copy_list cur.toList rows.length k m (rows.take m).flatten (by omega) (by rw [Array.length_toList (xs := cur), hsize]; omega) hcl
        simpa using this
end
theorem mul_one (n : Nat) (hn : n ≤ 64) (w : World) : Calls Try.prog 48 #[.int .u64 1, .int .u64 n] w fun e w' => e = .returned (.tuple #[.int .u64 0, .int .u64 n]) ∧ Turns [] w w' := by
  have h := mul64_is 1 (n : Int) (by omega) (by omega) (by omega) (by omega)
  have Mh := Lib.hid (fun w => mul64_calls 1 (n : Int) w)
  rw [h] at Mh
  rw [show (1 : Int) * (n : Int) / 18446744073709551616 = 0 from by omega, show (1 : Int) * (n : Int) % 18446744073709551616 = (n : Int) from by omega] at Mh
  clear h
  go_enter Try.func48, Try.ntmps48
  go_wp2_with fail
  go_at_call 47
  refine Calls.mono (Mh.out _) ?_
  rintro e w1 ⟨rfl, t1⟩
  go_wp2_with fail
  go_ret2
  exact ⟨rfl, t1⟩
theorem rep_rows (k N : Nat) (x : Int) (m : Nat) (hm : m = min k (N - k)) (hk : k ≤ N) : (ins (List.replicate k x ++ List.replicate (N - k) 0)).take k ++ ((ins (List.replicate k x ++ List.replicate (N - k) 0)).take m ++ (ins (List.replicate k x ++ List.replicate (N - k) 0)).drop (k + m)) = ins (List.replicate (k + m) x ++ List.replicate (N - (k + m)) 0) := by
  unfold ins
  rw [List.map_append, List.map_replicate, List.map_replicate, List.map_append, List.map_replicate, List.map_replicate]
  generalize ([Value.int .i64 x]) = p
  generalize ([Value.int .i64 0]) = q
  have a1 : (List.replicate k p ++ List.replicate (N - k) q).take k = List.replicate k p := by rw [List.take_append_of_le_length (by simp), List.take_of_length_le (by simp)]
  have a2 : (List.replicate k p ++ List.replicate (N - k) q).take m = List.replicate m p := by
    rw [List.take_append_of_le_length (by simp; omega), List.take_replicate, Nat.min_eq_left (by omega)]
  have a3 : (List.replicate k p ++ List.replicate (N - k) q).drop (k + m) = List.replicate (N - (k + m)) q := by
    rw [List.drop_append, List.drop_of_length_le (by simp), List.nil_append, List.length_replicate, List.drop_replicate]
    congr 1; omega
  rw [a1, a2, a3, ← List.append_assoc, List.replicate_append_replicate]
set_option maxHeartbeats 2000000 in
theorem repeat_is (w : World) (v : Value) (x : Int) (n : Nat) (h : RdS 1 w v (ins [x])) (h1 : 1 ≤ n) (h2 : n ≤ 64) : Calls Try.prog 31 #[v, .int .i64 n] w fun e w' => ∃ u, e = .returned u ∧ OwnS 3 1 w' u (ins (List.replicate n x)) ∧ Turns [] w w' ∧ (∀ k, u.ownBlock = some k → w.heap.size ≤ k) := by
  have hh := Lib.hid h
  obtain ⟨A, c, rfl, _⟩ := h.form
  rw [ins_len, show [x].length = 1 from rfl] at hh ⊢
  have g1 : decide ((n : Int) < 0) = false := decide_eq_false (by omega)
  have g2 : IntKind.u64.wrap (n : Int) = (n : Int) := by rw [IntKind.wrap_u64]; omega
  have g3 : IntKind.u64.wrap 1 = 1 := by decide
  have g4 : IntKind.i64.wrap (n : Int) = (n : Int) := IntWalk.i64_in _ (by omega)
  have g5 : decide ((n : Int) > 9223372036854775807) = false := decide_eq_false (by omega)
  have Mh := Lib.hid (fun w => mul_one n h2 w)
  obtain ⟨X, hX⟩ : ∃ X : Ending → World → Prop, X = fun e w' => ∃ u, e = .returned u ∧ OwnS 3 1 w' u (ins (List.replicate n x)) ∧ Turns [] w w' ∧ (∀ k, u.ownBlock = some k → w.heap.size ≤ k) := ⟨_, rfl⟩
  rw [← hX]
  have hXh : Hid (∀ w' u, OwnS 3 1 w' u (ins (List.replicate n x)) → Turns [] w w' → (∀ k, u.ownBlock = some k → w.heap.size ≤ k) → X (.returned u) w') := Lib.hid (fun w' u a b c => by rw [hX]; exact ⟨u, rfl, a, b, c⟩)
  clear h hX
  go_enter Try.func31, Try.ntmps31
  go_wp2_with fail
  go_at_call 48
  refine Calls.mono (Mh.out _) ?_
  rintro e w1 ⟨rfl, t1⟩
  have Rd1 := Lib.hid (hh.out.mv (fun a u => t1.old))
  clear hh Mh
  have hmin : Hid (1 = min (ins [x]).length (ins (List.replicate n 0)).length) := Lib.hid (by rw [ins_len, ins_len, List.length_replicate]; show 1 = min 1 n; omega)
  have eq0 : Hid (List.replicate n [Value.int .i64 0] = ins (List.replicate n 0)) := Lib.hid (by unfold ins; rw [List.map_replicate])
  have hin : Hid (n * 8 ≤ 281474976710656) := Lib.hid (by omega)
  go_wp2_with (first | (at_make; refine wp_make rfl _ _ _ rfl (.int .i64 0) 8 Try.underlying33 infoI rfl .i64 .i64 n n n rfl rfl rfl rfl (by omega) (by omega) ?_; intro w2 o2 t2; have Rd2 := Lib.hid (Rd1.out.mv (fun a u => t2.old)); rw [eq0.out] at o2; have ob := Lib.hid o2; clear o2) | (refine wp_copy ob.out Rd2.out rfl _ _ _ _ rfl Try.underlying33 (by rfl) rfl rfl (ins_one _) 1 hmin.out ?_; intro w3 o3 t3; refine stop_ ?_))
  refine Mk_.mk ?_
  have hbw := Lib.hid (show ∀ k, (Value.slice (some ⟨w1.heap.size, 0, none⟩) n n).ownBlock = some k → w.heap.size ≤ k from fun k hk => by
    have : w1.heap.size = k := by simpa [Value.ownBlock] using hk
    have := t1.size
    omega)
  have T2 := t1.trans t2
  generalize w1.heap.size = g at *
  have T3 := T2.then t3 (fun k hk => .inr (hbw.out k (by simpa using hk)))
  have eq1 : (ins [x]).take 1 ++ (ins (List.replicate n 0)).drop 1 = ins (List.replicate 1 x ++ List.replicate (n - 1) 0) := by
    unfold ins
    simp
  rw [eq1] at o3
  have o3h := Lib.hid o3
  clear o3 t3 eq1 ob Rd2 T2 hmin Rd1 t1 t2 eq0
  go_wp2_with fail
  go_loopw [8] (fun v8 wr => ∃ (k : Nat), 1 ≤ k ∧ k ≤ n ∧ v8 = .int .i64 k ∧ OwnS 3 1 wr (.slice (some ⟨g, 0, none⟩) n n) (ins (List.replicate k x ++ List.replicate (n - k) 0)) ∧ Turns [] w wr) (fun v8 _ => n - (RowKit.intOf v8).toNat)
  case atStart => exact ⟨1, by omega, h1, rfl, o3h.out, T3⟩
  case round =>
    clear T3 o3h
    obtain ⟨k, hk1, hk, rfl, o, T⟩ := hrel
    by_cases hlt : k < n
    · have g6 : decide ((k : Int) < (n : Int)) = true := decide_eq_true (by omega)
      have g6b : decide (k < n) = true := decide_eq_true hlt
      have g7 : (k : Int) ≤ (n : Int) := by omega
      have g8 : ¬ n = k := by omega
      have g8c : ¬ k = 0 := by omega
      have g8b : ¬ (n : Int) = (k : Int) := by omega
      obtain ⟨m, hm⟩ : ∃ m, min k (n - k) = m := ⟨_, rfl⟩
      have hml : k + m ≤ n := by omega
      have hm1 : 1 ≤ m := by omega
      have rr := Lib.hid (rep_rows k n x m hm.symm hk)
      have gw : IntKind.i64.wrap ((k : Int) + (m : Int)) = ((k + m : Nat) : Int) := by rw [IntWalk.i64_in _ (by omega)]; omega
      have oh := Lib.hid o
      have Th := Lib.hid T
      have hmh := Lib.hid hm
      have e0 : (⟨g, 0, none⟩ : Addr).add k = ⟨g, k, none⟩ := add_zero_ g k
      clear o T hm
      go_wp2_with fail
      go_wp2_with fail
      refine wp_region_flo2 [(0, true, [7]), (1, true, [7]), (2, true, [7]), (3, true, []), (4, true, [7]), (5, true, [7]), (6, true, []), (7, false, []), (8, true, []), (9, true, [])] (fun j W => True) (by kernel_rfl) rfl (by kernel_rfl) (by intro c d v a w h; cases d <;> first | (simpa [Exit.then, Exit.inBlock, Act.put] using h) | exact h) ?_
      have od : OwnS 3 1 wr.drew (.slice (some ⟨g, 0, none⟩) n n) (ins (List.replicate k x ++ List.replicate (n - k) 0)) := oh.out.turns ((Turns.refl [] wr).drew) (by simp)
      have Td := Lib.hid Th.out.drew
      have odh := Lib.hid od
      clear od oh Th
      generalize wr.drew = w5 at *
      first
        | (refine flo2_read _ rfl (fun _ => True) trivial (fun _ _ _ _ => trivial) (fun K hK => ?_); go_simp; first | (refine hK _ ?_) | (refine ⟨fun W _ => ?_, hK _ ?_⟩; · (go_simp)) | (refine ⟨fun W => ?_, hK _ ?_⟩; · (go_simp)))
        | (refine flo2_read _ rfl (fun W => W = _) rfl (by simp) (fun K hK => ?_); go_simp; first | (refine hK _ ?_) | (refine ⟨fun W hS => ?_, hK _ ?_⟩; · (subst hS; go_simp)) | (refine ⟨?_, hK _ ?_⟩; · (go_simp)))
      clear hK K
      first
        | (refine flo2_read _ rfl (fun _ => True) trivial (fun _ _ _ _ => trivial) (fun K hK => ?_); go_simp; first | (refine hK _ ?_) | (refine ⟨fun W _ => ?_, hK _ ?_⟩; · (go_simp)) | (refine ⟨fun W => ?_, hK _ ?_⟩; · (go_simp)))
        | (refine flo2_read _ rfl (fun W => W = _) rfl (by simp) (fun K hK => ?_); go_simp; first | (refine hK _ ?_) | (refine ⟨fun W hS => ?_, hK _ ?_⟩; · (subst hS; go_simp)) | (refine ⟨?_, hK _ ?_⟩; · (go_simp)))
      clear hK K
      first
        | (refine flo2_read _ rfl (fun _ => True) trivial (fun _ _ _ _ => trivial) (fun K hK => ?_); go_simp; first | (refine hK _ ?_) | (refine ⟨fun W _ => ?_, hK _ ?_⟩; · (go_simp)) | (refine ⟨fun W => ?_, hK _ ?_⟩; · (go_simp)))
        | (refine flo2_read _ rfl (fun W => W = _) rfl (by simp) (fun K hK => ?_); go_simp; first | (refine hK _ ?_) | (refine ⟨fun W hS => ?_, hK _ ?_⟩; · (subst hS; go_simp)) | (refine ⟨?_, hK _ ?_⟩; · (go_simp)))
      clear hK K
      first
        | (refine flo2_read _ rfl (fun _ => True) trivial (fun _ _ _ _ => trivial) (fun K hK => ?_); go_simp; first | (refine hK _ ?_) | (refine ⟨fun W _ => ?_, hK _ ?_⟩; · (go_simp)) | (refine ⟨fun W => ?_, hK _ ?_⟩; · (go_simp)))
        | (refine flo2_read _ rfl (fun W => W = _) rfl (by simp) (fun K hK => ?_); go_simp; first | (refine hK _ ?_) | (refine ⟨fun W hS => ?_, hK _ ?_⟩; · (subst hS; go_simp)) | (refine ⟨?_, hK _ ?_⟩; · (go_simp)))
      clear hK K
      first
        | (refine flo2_read _ rfl (fun _ => True) trivial (fun _ _ _ _ => trivial) (fun K hK => ?_); go_simp; first | (refine hK _ ?_) | (refine ⟨fun W _ => ?_, hK _ ?_⟩; · (go_simp)) | (refine ⟨fun W => ?_, hK _ ?_⟩; · (go_simp)))
        | (refine flo2_read _ rfl (fun W => W = _) rfl (by simp) (fun K hK => ?_); go_simp; first | (refine hK _ ?_) | (refine ⟨fun W hS => ?_, hK _ ?_⟩; · (subst hS; go_simp)) | (refine ⟨?_, hK _ ?_⟩; · (go_simp)))
      clear hK K
      first
        | (refine flo2_read _ rfl (fun _ => True) trivial (fun _ _ _ _ => trivial) (fun K hK => ?_); go_simp; first | (refine hK _ ?_) | (refine ⟨fun W _ => ?_, hK _ ?_⟩; · (go_simp)) | (refine ⟨fun W => ?_, hK _ ?_⟩; · (go_simp)))
        | (refine flo2_read _ rfl (fun W => W = _) rfl (by simp) (fun K hK => ?_); go_simp; first | (refine hK _ ?_) | (refine ⟨fun W hS => ?_, hK _ ?_⟩; · (subst hS; go_simp)) | (refine ⟨?_, hK _ ?_⟩; · (go_simp)))
      clear hK K
      first
        | (refine flo2_read _ rfl (fun _ => True) trivial (fun _ _ _ _ => trivial) (fun K hK => ?_); go_simp; first | (refine hK _ ?_) | (refine ⟨fun W _ => ?_, hK _ ?_⟩; · (go_simp)) | (refine ⟨fun W => ?_, hK _ ?_⟩; · (go_simp)))
        | (refine flo2_read _ rfl (fun W => W = _) rfl (by simp) (fun K hK => ?_); go_simp; first | (refine hK _ ?_) | (refine ⟨fun W hS => ?_, hK _ ?_⟩; · (subst hS; go_simp)) | (refine ⟨?_, hK _ ?_⟩; · (go_simp)))
      clear hK K
      refine flo2_alone _ rfl ?_
      refine wp_copy_tail odh.out rfl _ _ _ _ rfl Try.underlying33 (by rfl) k m hk hmh.out.symm (n - k) n (by rw [e0]; rfl) rfl (ins_one _) ?_
      intro w6 o6 t6
      rw [rr.out] at o6
      have T6 := Td.out.then t6 (fun q hq => .inr (hbw.out q (by simp [Value.ownBlock] at hq ⊢; exact hq.symm)))
      go_wp2_with fail
      refine ⟨trivial, _, fun _ _ h => h, ?_⟩
      first
        | (refine flo2_read _ rfl (fun _ => True) trivial (fun _ _ _ _ => trivial) (fun K hK => ?_); go_simp; first | (refine hK _ ?_) | (refine ⟨fun W _ => ?_, hK _ ?_⟩; · (go_simp)) | (refine ⟨fun W => ?_, hK _ ?_⟩; · (go_simp)))
        | (refine flo2_read _ rfl (fun W => W = _) rfl (by simp) (fun K hK => ?_); go_simp; first | (refine hK _ ?_) | (refine ⟨fun W hS => ?_, hK _ ?_⟩; · (subst hS; go_simp)) | (refine ⟨?_, hK _ ?_⟩; · (go_simp)))
      clear hK K
      first
        | (refine flo2_read _ rfl (fun _ => True) trivial (fun _ _ _ _ => trivial) (fun K hK => ?_); go_simp; first | (refine hK _ ?_) | (refine ⟨fun W _ => ?_, hK _ ?_⟩; · (go_simp)) | (refine ⟨fun W => ?_, hK _ ?_⟩; · (go_simp)))
        | (refine flo2_read _ rfl (fun W => W = _) rfl (by simp) (fun K hK => ?_); go_simp; first | (refine hK _ ?_) | (refine ⟨fun W hS => ?_, hK _ ?_⟩; · (subst hS; go_simp)) | (refine ⟨?_, hK _ ?_⟩; · (go_simp)))
      clear hK K
      refine flo2_end ?_
      go_wp2_with fail
      go_roundw
      case rel => exact ⟨k + m, by omega, hml, rfl, o6, T6⟩
      case measure => simp [RowKit.intOf]; omega
    · obtain rfl : k = n := by omega
      have g6 : decide ((k : Int) < (k : Int)) = false := by simp
      rw [Nat.sub_self, List.replicate_zero, List.append_nil] at o
      have hX := hXh.out wr _ o T hbw.out
      clear o
      go_wp2_with fail
      exact hX
end Go.Proofs.Ytmaielpfeajelaa.Ya
