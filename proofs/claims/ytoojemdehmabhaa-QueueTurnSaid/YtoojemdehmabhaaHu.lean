/- Words of this work: append onto the head of a slice of one's own, where there is room: the block stays. No program in sight. -/
import Derived.Test.YtoojemdehmabhaaHz
set_option linter.unusedVariables false
set_option linter.unusedSimpArgs false
namespace Go.Proofs.Ytoojemdehmabhaa.Hu
open Go.RowKit Hm Hs Hx Hy Hz
theorem flatten_drop {sz : Nat} : ∀ (rows : List (List Value)) (q : Nat), (∀ r ∈ rows, r.length = sz) → (rows.drop q).flatten = rows.flatten.drop (q * sz)
  | [], q, _ => by simp
  | r :: rs, 0, _ => by simp
  | r :: rs, q + 1, h => by
    have hr := h r (by simp)
    rw [List.drop_succ_cons, List.flatten_cons, flatten_drop rs q (fun x hx => h x (by simp [hx])), Nat.succ_mul, List.drop_append]
    rw [hr, show q * sz + sz - sz = q * sz from by omega, List.drop_of_length_le (l := r) (by omega), List.nil_append]
section
variable {P : Program} {w : World} {ops : Array Oper} {rest : List Oper} {o : Oper} {a : Act} {Q : Exit → Act → World → Prop}
theorem run_append_cut {e t ty : TypeId} {sz : Nat} {ad : Addr} {N c : Nat} {rows news : List (List Value)} (h : OwnS e sz w (.slice (some ad) N c) rows) (i0 : TypeInfo) (ht : P.underlying t = some (.slice e)) (hi : P.info? e = some i0) (hsz : i0.size = sz)
    (i : Nat) (hin : i + news.length ≤ N) (b : Addr) (c2 : Nat) (hl : ∀ r ∈ news, r.length = sz) (hnews : ∀ j u, news.flatten[j]? = some u → w.cell? (b.add j) = some u) (h1 : ∀ u ∈ news.flatten, u.oneCell' = true) :
    ∃ w', (Builtin.append_ #[t, t] ty #[.slice (some ad) i c, .slice (some b) news.length c2]).run P w = .ok (.slice (some ad) (i + news.length) c) w' ∧ OwnS e sz w' (.slice (some ad) N c) (rows.take i ++ news ++ rows.drop (i + news.length)) ∧ Turns [ad.block] w w' := by
  obtain ⟨⟨h1', h2⟩, h3⟩ := h
  rcases h2 with ⟨hv, _⟩ | ⟨g, cap, cur, hv, hg, hh, hl', hm, hs, htk⟩
  · cases hv
  · injection hv with e1 e2 e3
    injection e1 with e1
    subst e1 e2 e3
    have hnl := flatten_len hl
    have hsum : (i + news.length) * sz ≤ rows.length * sz := Nat.mul_le_mul_right _ hin
    have hle : rows.length * sz ≤ c * sz := Nat.mul_le_mul_right _ hl'
    rw [Nat.add_mul] at hsum
    have hr := run_append_room (P := P) w t ty e i0 ht hi g i c cur hh b news.length c2 news.flatten (by rw [hsz]; exact hnl) hnews h1 (by omega) (by rw [hnl, hsz]; omega)
    refine ⟨_, hr, ⟨⟨?_, .inr ⟨g, c, _, ?_, hg, setRow_heap w g cur _ e (0, 0) hh, ?_, hm, ?_, ?_⟩⟩, ?_⟩, (setRow_turns w g _).mono (by simp)⟩
    · refine flatten_len (fun r hr => ?_)
      rcases List.mem_append.1 hr with hr | hr
      · rcases List.mem_append.1 hr with hr | hr
        · exact h3 r (List.mem_of_mem_take hr)
        · exact hl r hr
      · exact h3 r (List.mem_of_mem_drop hr)
    · rw [List.length_append, List.length_append, List.length_take, List.length_drop]
      congr 1
      omega
    · rw [List.length_append, List.length_append, List.length_take, List.length_drop]
      omega
    · rw [hsz]
      simp only [List.size_toArray, List.length_append, List.length_take, List.length_drop, Array.length_toList, hnl, hs]
      omega
    · have hlen : (rows.take i ++ news ++ rows.drop (i + news.length)).length = rows.length := by
        rw [List.length_append, List.length_append, List.length_take, List.length_drop]
        omega
      have hfl : rows.flatten.length = rows.length * sz := flatten_len h3
      rw [hlen, hsz, List.flatten_append, List.flatten_append, flatten_take rows i h3, flatten_drop rows _ h3, ← htk]
      simp only [hnl]
      rw [Nat.add_mul, List.take_take, Nat.min_eq_left (by omega)]
      have hcl : cur.toList.length = c * sz := by rw [Array.length_toList, hs]
      have hA : (cur.toList.take (i * sz) ++ news.flatten).length = i * sz + news.length * sz := by rw [List.length_append, List.length_take, hcl, hnl]; omega
      rw [List.take_append, hA, List.take_of_length_le (by omega), List.drop_take]
    · intro r hr
      rcases List.mem_append.1 hr with hr | hr
      · rcases List.mem_append.1 hr with hr | hr
        · exact h3 r (List.mem_of_mem_take hr)
        · exact hl r hr
      · exact h3 r (List.mem_of_mem_drop hr)
/-- append(s[:i], x...), where s has room for all of it -/
theorem wp_append_cut {e t : TypeId} {sz : Nat} {ad : Addr} {N c : Nat} {rows news : List (List Value)} (h : OwnS e sz w (.slice (some ad) N c) rows) (hgd : o.guard = none) (s x : Operand)
    (ho : o.op = .call { callee := .builtin .append, args := #[s, x], argTypes := #[t, t] }) (z : Value) (bytes : Nat) (ht : P.underlying t = some (.slice e)) (hinfo : (P.info? e).map (fun i => (i.zero, i.size, i.bytes)) = some (some z, sz, bytes))
    (i : Nat) (hin : i + news.length ≤ N) (b : Addr) (c2 : Nat) (hs : a.eval s = .slice (some ad) i c) (hx : a.eval x = .slice (some b) news.length c2) (hl : ∀ r ∈ news, r.length = sz) (hnews : ∀ j u, news.flatten[j]? = some u → w.cell? (b.add j) = some u) (h1 : ∀ r ∈ news, ∀ u ∈ r, u.oneCell' = true)
    (hK : ∀ w', OwnS e sz w' (.slice (some ad) N c) (rows.take i ++ news ++ rows.drop (i + news.length)) → Turns [ad.block] w w' → wpList P ops Q rest (a.put o.dst (.slice (some ad) (i + news.length) c)) w') : wpList P ops Q (o :: rest) a w := by
  refine wpList_plain hgd fun K' hK' => ?_
  obtain ⟨i0, hi, hzz⟩ := Option.map_eq_some_iff.1 hinfo
  simp only [Prod.mk.injEq] at hzz
  obtain ⟨w', hrun, r1, r2⟩ := run_append_cut (P := P) (t := t) (ty := o.type) h i0 ht hi hzz.2.1 i hin b c2 hl hnews (fun u hu => by
    obtain ⟨r, hr, hu⟩ := List.mem_flatten.1 hu
    exact h1 r hr u hu)
  unfold Oper.wp
  simp [execOp, ho, resolve, invoke, builtin, hs, hx, hrun, Result.andThen]
  exact hK' _ _ (hK w' r1 r2)
end
end Go.Proofs.Ytoojemdehmabhaa.Hu
