/- Walks of package lease. -/
import Derived.Test.YtcmaloncfdmpnaaProg
import Derived.Test.YtcmaloncfdmpnaaHm
import Derived.KernelRfl
import Derived.StillTailTactics
import Derived.BigQuiet
import Derived.Deep.QuietTactic
set_option linter.unusedVariables false
set_option linter.unusedSimpArgs false
set_option maxRecDepth 100000
namespace Go.Proofs.Ytcmaloncfdmpnaa.Lw
open Go.RowKit Hm

/-- A lease's value. -/
structure Lea where
  key : Int
  gen : Int
  amount : Int
  spent : Int
  until_ : Int
def Lea.v (l : Lea) : Value := .agg #[.int .i64 l.key, .int .i64 l.gen, .int .i64 l.amount, .int .i64 l.spent, .int .i64 l.until_]
def Lea.zero : Lea := ⟨0, 0, 0, 0, 0⟩
attribute [local go_sem] Lea.v Lea.zero
def enc (l : List Lea) : List (Int × Value) := l.map fun x => (x.key, x.v)
theorem zeroLease (w : World) : (zeroValue 109).run Try.prog w = .ok Lea.zero.v w := by kernel_rfl

/-- A wallet: its block, and its map's. -/
structure IsWallet (w : World) (b m : Nat) (l : List Lea) : Prop where
  blk : Blk w b #[.map (some m)] 160
  map : IMap w m (enc l)

theorem left_nil (k now : Int) (w : World) : Calls Try.prog 67 #[.pointer none, .int .i64 k, .int .i64 now] w fun e w' => e = .returned (.int .i64 0) ∧ Turns [] w w' := by
  go_enter Try.func67, Try.ntmps67
  go_wp2
  go_ret
  exact ⟨rfl, Turns.refl _ _⟩
theorem left_none (k now : Int) (w : World) (b m : Nat) (l : List Lea) (h : IsWallet w b m l) (hat : at_ (enc l) k = none) : Calls Try.prog 67 #[.pointer (some ⟨b, 0, none⟩), .int .i64 k, .int .i64 now] w fun e w' => e = .returned (.int .i64 0) ∧ Turns [] w w' := by
  have c0 : w.cell? ⟨b, 0, none⟩ = some (.map (some m)) := h.blk.cell 0
  go_enter Try.func67, Try.ntmps67
  go_wp2_with (at_lookup; refine wp_lookup_ok_none h.map rfl _ _ _ _ _ rfl Try.underlying158 Try.underlying3 _ (zeroLease _) rfl _ rfl hat ?_)
  go_ret
  exact ⟨rfl, (Turns.refl _ _).alloc _⟩
theorem left_late (k now : Int) (w : World) (b m : Nat) (l : List Lea) (h : IsWallet w b m l) (x : Lea) (hat : at_ (enc l) k = some x.v) (hn : decide (now ≥ x.until_) = true) : Calls Try.prog 67 #[.pointer (some ⟨b, 0, none⟩), .int .i64 k, .int .i64 now] w fun e w' => e = .returned (.int .i64 0) ∧ Turns [] w w' := by
  have c0 : w.cell? ⟨b, 0, none⟩ = some (.map (some m)) := h.blk.cell 0
  go_enter Try.func67, Try.ntmps67
  go_wp2_with (at_lookup; refine wp_lookup_ok_some h.map rfl _ _ _ _ _ rfl Try.underlying158 Try.underlying3 _ (zeroLease _) rfl _ rfl _ hat ?_)
  go_ret
  exact ⟨rfl, (Turns.refl _ _).alloc _⟩
theorem left_some (k now : Int) (w : World) (b m : Nat) (l : List Lea) (h : IsWallet w b m l) (x : Lea) (hat : at_ (enc l) k = some x.v) (hn : decide (now ≥ x.until_) = false) : Calls Try.prog 67 #[.pointer (some ⟨b, 0, none⟩), .int .i64 k, .int .i64 now] w fun e w' => e = .returned (.int .i64 (wrap64 (x.amount - x.spent))) ∧ Turns [] w w' := by
  have c0 : w.cell? ⟨b, 0, none⟩ = some (.map (some m)) := h.blk.cell 0
  go_enter Try.func67, Try.ntmps67
  go_wp2_with (at_lookup; refine wp_lookup_ok_some h.map rfl _ _ _ _ _ rfl Try.underlying158 Try.underlying3 _ (zeroLease _) rfl _ rfl _ hat ?_)
  go_ret
  exact ⟨rfl, (Turns.refl _ _).alloc _⟩

theorem at_enc (l : List Lea) (k : Int) : at_ (enc l) k = (l.find? (fun x => x.key == k)).map Lea.v := by
  unfold at_ enc
  rw [List.find?_map]
  simp only [Function.comp_def, Option.map_map]
theorem IsWallet.turns {w w' : World} {b m : Nat} {l : List Lea} (h : IsWallet w b m l) {F : List Nat} (t : Turns F w w') (hb : b ∉ F) (hm : m ∉ F) : IsWallet w' b m l := ⟨h.blk.turns t hb, h.map.turns t hm⟩
def find (l : List Lea) (k : Int) : Option Lea := l.find? (fun x => x.key == k)
def left (l : List Lea) (k now : Int) : Int :=
  match find l k with
  | none => 0
  | some x => if now ≥ x.until_ then 0 else wrap64 (x.amount - x.spent)
theorem left_any (k now : Int) (w : World) (b m : Nat) (l : List Lea) (h : IsWallet w b m l) : Calls Try.prog 67 #[.pointer (some ⟨b, 0, none⟩), .int .i64 k, .int .i64 now] w fun e w' => e = .returned (.int .i64 (left l k now)) ∧ Turns [] w w' := by
  cases hf : find l k with
  | none =>
    have hat : at_ (enc l) k = none := by rw [at_enc]; unfold find at hf; rw [hf]; rfl
    have e : left l k now = 0 := by unfold left; rw [hf]
    rw [e]; exact left_none k now w b m l h hat
  | some x =>
    have hat : at_ (enc l) k = some x.v := by rw [at_enc]; unfold find at hf; rw [hf]; rfl
    by_cases hn : now ≥ x.until_
    · have e : left l k now = 0 := by unfold left; rw [hf]; simp [hn]
      rw [e]; exact left_late k now w b m l h x hat (decide_eq_true hn)
    · have e : left l k now = wrap64 (x.amount - x.spent) := by unfold left; rw [hf]; simp only []; rw [if_neg hn]
      rw [e]; exact left_some k now w b m l h x hat (decide_eq_false hn)
theorem spend_low (k cost now : Int) (w : World) (v : Value) (hc : decide (cost < 1) = true) :
    Calls Try.prog 69 #[v, .int .i64 k, .int .i64 cost, .int .i64 now] w fun e w' => e = .returned (.tuple #[.int .i64 0, .bool false]) ∧ Turns [] w w' := by
  go_enter Try.func69, Try.ntmps69
  go_wp2
  go_ret2
  exact ⟨rfl, Turns.refl _ _⟩
theorem spend_high (k cost now : Int) (w : World) (b m : Nat) (l : List Lea) (h : IsWallet w b m l) (hc : decide (cost < 1) = false) (hc2 : decide (cost > left l k now) = true) :
    Calls Try.prog 69 #[.pointer (some ⟨b, 0, none⟩), .int .i64 k, .int .i64 cost, .int .i64 now] w fun e w' => e = .returned (.tuple #[.int .i64 0, .bool false]) ∧ Turns [] w w' := by
  go_enter Try.func69, Try.ntmps69
  go_wp2_with (go_at_call 67; refine (left_any k now _ b m l h).mono ?_; rintro e w1 ⟨rfl, t1⟩)
  go_ret2
  exact ⟨rfl, t1⟩
theorem spend_does (k cost now : Int) (w : World) (b m : Nat) (l : List Lea) (h : IsWallet w b m l) (x : Lea) (hat : at_ (enc l) k = some x.v) (hc : decide (cost < 1) = false) (hc2 : decide (cost > left l k now) = false) :
    Calls Try.prog 69 #[.pointer (some ⟨b, 0, none⟩), .int .i64 k, .int .i64 cost, .int .i64 now] w fun e w' =>
      e = .returned (.tuple #[.int .i64 x.gen, .bool true]) ∧ IMap w' m (put_ (enc l) k (Lea.v { x with spent := wrap64 (x.spent + cost) })) ∧ Blk w' b #[.map (some m)] 160 ∧ Turns [m] w w' := by
  go_enter Try.func69, Try.ntmps69
  go_wp2_with (first | (go_at_call 67; refine (left_any k now _ b m l h).mono ?_; rintro e w1 ⟨rfl, t1⟩; have h1 := h.turns t1 (by simp) (by simp); have c1 : w1.cell? ⟨b, 0, none⟩ = some (.map (some m)) := h1.blk.cell 0) | (at_lookup; refine wp_lookup_some h1.map rfl _ _ _ _ _ rfl Try.underlying158 Try.underlying3 _ (zeroLease _) rfl _ rfl _ hat ?_))
  generalize hW : World.alloc w1 _ = W
  have hB : Blk W w1.heap.size #[.int .i64 x.key, .int .i64 x.gen, .int .i64 x.amount, .int .i64 (wrap64 (x.spent + cost)), .int .i64 x.until_] 109 := hW ▸ Blk.new _ _ _
  have tW : Turns [] w W := hW ▸ t1.alloc _
  have h2 : IsWallet W b m l := h.turns tW (by simp) (by simp)
  have hn := hB.lt
  have hbn : b ≠ w1.heap.size := fun e => by have := h1.blk.lt; omega
  generalize hN : w1.heap.size = n at *
  clear hW hN
  have c2 : W.cell? ⟨b, 0, none⟩ = some (.map (some m)) := h2.blk.cell 0
  have d0 : W.cell? ⟨n, 0, none⟩ = some _ := hB.cell 0
  have d1 : W.cell? ⟨n, 1, none⟩ = some _ := hB.cell 1
  have d2 : W.cell? ⟨n, 2, none⟩ = some _ := hB.cell 2
  have d3 : W.cell? ⟨n, 3, none⟩ = some _ := hB.cell 3
  have d4 : W.cell? ⟨n, 4, none⟩ = some _ := hB.cell 4
  go_still_tail 6, (by kernel_rfl)
  change wpList _ _ _ _ _ W.drew
  have hBm : n ≠ m := hB.ne_map h2.map
  have h3 : IsWallet W.drew b m l := ⟨h2.blk, h2.map⟩
  have hbm : b ≠ m := h2.blk.ne_map h2.map
  have hB3 : Blk W.drew n _ _ := hB
  have tD : Turns [] w W.drew := tW.drew
  generalize W.drew = W2 at *
  go_wp2_with (at_mapUpdate; refine wp_update h3.map rfl _ _ _ _ _ _ rfl Try.underlying158 Try.underlying3 rfl _ rfl _ rfl ?_; intro w4 hm4 t4; have e1 : w4.cell? ⟨n, 1, none⟩ = some _ := (hB3.turns t4 (by simpa using hBm)).cell 1)
  go_ret2
  exact ⟨rfl, hm4, h3.blk.turns t4 (by simpa using hbm), (tD.mono (by simp)).then t4 (by simp)⟩

theorem run_look_none {w : World} {m : Nat} {l : List Lea} {k : Int} (h : IMap w m (enc l)) (hat : at_ (enc l) k = none) :
    (Instr.lookup 158 (.map (some m)) (.int .i64 k) true).run Try.prog w = .ok (.tuple #[Lea.zero.v, .bool false]) w := by
  have := run_lookup h Try.underlying158 Try.underlying3 k (zeroLease w) true
  simpa [hat] using this
theorem run_look_some {w : World} {m : Nat} {l : List Lea} {k : Int} {v : Value} (h : IMap w m (enc l)) (hat : at_ (enc l) k = some v) :
    (Instr.lookup 158 (.map (some m)) (.int .i64 k) true).run Try.prog w = .ok (.tuple #[v, .bool true]) w := by
  have := run_lookup h Try.underlying158 Try.underlying3 k (zeroLease w) true
  simpa [hat] using this
theorem new_any (w : World) : Calls Try.prog 61 #[] w fun e w' => ∃ b m, e = .returned (.pointer (some ⟨b, 0, none⟩)) ∧ IsWallet w' b m [] ∧ w.heap.size ≤ b ∧ w.heap.size ≤ m ∧ Turns [] w w' := by
  have hmm := @run_makeMap Try.prog
  go_enter Try.func61, Try.ntmps61
  go_wp2
  go_ret
  refine ⟨_, w.heap.size, rfl, ⟨?_, ?_⟩, by simp, by omega, ((Turns.refl _ _).alloc _).alloc _⟩
  · simpa using Blk.new (w.alloc (.map #[] 0)) _ _
  · exact (IMap.new w).alloc _
def badB (x : Lea) : Bool := decide (x.gen < 1) || decide (x.amount < 1) || x.spent != 0 || decide (x.until_ < 0)
theorem put_nil (x : Lea) (w : World) : Calls Try.prog 70 #[.pointer none, x.v] w fun e w' => e = .returned (.int .i64 1) ∧ Turns [] w w' := by
  unfold Lea.v
  go_enter Try.func70, Try.ntmps70
  go_wp2
  go_ret
  exact ⟨rfl, (Turns.refl _ _).alloc _⟩
theorem put_bad (x : Lea) (w : World) (b : Nat) (hx : badB x = true) : Calls Try.prog 70 #[.pointer (some ⟨b, 0, none⟩), x.v] w fun e w' => e = .returned (.int .i64 1) ∧ Turns [] w w' := by
  unfold Lea.v
  unfold badB at hx
  by_cases h1 : x.gen < 1
  · have h1' := decide_eq_true h1
    clear hx h1
    go_enter Try.func70, Try.ntmps70
    go_wp2
    go_ret
    exact ⟨rfl, (Turns.refl _ _).alloc _⟩
  · have h1' := decide_eq_false h1
    by_cases h2 : x.amount < 1
    · have h2' := decide_eq_true h2
      clear hx h1 h2
      go_enter Try.func70, Try.ntmps70
      go_wp2
      go_ret
      exact ⟨rfl, (Turns.refl _ _).alloc _⟩
    · have h2' := decide_eq_false h2
      by_cases h3 : x.spent = 0
      · by_cases h4 : x.until_ < 0
        · have h4' := decide_eq_true h4
          have h3' : (x.spent != 0) = false := by simp [h3]
          clear hx h1 h2 h3 h4
          go_enter Try.func70, Try.ntmps70
          go_wp2
          go_ret
          exact ⟨rfl, (Turns.refl _ _).alloc _⟩
        · simp [h1, h2, h3, h4] at hx
      · have h3' : (x.spent != 0) = true := by simp [h3]
        clear hx h1 h2 h3
        go_enter Try.func70, Try.ntmps70
        go_wp2
        go_ret
        exact ⟨rfl, (Turns.refl _ _).alloc _⟩
theorem put_twice (x y : Lea) (w : World) (b m : Nat) (l : List Lea) (h : IsWallet w b m l) (h1 : decide (x.gen < 1) = false) (h2 : decide (x.amount < 1) = false) (h3 : (x.spent != 0) = false) (h4 : decide (x.until_ < 0) = false)
    (hat : at_ (enc l) x.key = some y.v) : Calls Try.prog 70 #[.pointer (some ⟨b, 0, none⟩), x.v] w fun e w' => e = .returned (.int .i64 5) ∧ Turns [] w w' := by
  unfold Lea.v
  have c0 : ∀ o, (w.alloc o).cell? ⟨b, 0, none⟩ = some (.map (some m)) := fun o => (h.blk.alloc o).cell 0
  have c1 : ∀ o o', ((w.alloc o).alloc o').cell? ⟨b, 0, none⟩ = some (.map (some m)) := fun o o' => ((h.blk.alloc o).alloc o').cell 0
  have l0 : ∀ o, _ := fun o => run_look_some ((h.map.alloc o).drew) hat
  have l1 : ∀ o o', _ := fun o o' => run_look_some (((h.map.alloc o).alloc o').drew) hat
  unfold Lea.v at l0 l1
  go_enter Try.func70, Try.ntmps70
  go_wp2
  go_region
  all_goals go_wp2
  all_goals (go_ret; exact ⟨rfl, (((Turns.refl _ _).alloc _).alloc _).drew⟩)
theorem put_ok (x : Lea) (w : World) (b m : Nat) (l : List Lea) (h : IsWallet w b m l) (h1 : decide (x.gen < 1) = false) (h2 : decide (x.amount < 1) = false) (h3 : (x.spent != 0) = false) (h4 : decide (x.until_ < 0) = false)
    (hat : at_ (enc l) x.key = none) : Calls Try.prog 70 #[.pointer (some ⟨b, 0, none⟩), x.v] w fun e w' => e = .returned (.int .i64 0) ∧ IMap w' m (put_ (enc l) x.key x.v) ∧ Blk w' b #[.map (some m)] 160 ∧ Turns [m] w w' := by
  unfold Lea.v
  have c0 : ∀ o, (w.alloc o).cell? ⟨b, 0, none⟩ = some (.map (some m)) := fun o => (h.blk.alloc o).cell 0
  have c1 : ∀ o o', ((w.alloc o).alloc o').cell? ⟨b, 0, none⟩ = some (.map (some m)) := fun o o' => ((h.blk.alloc o).alloc o').cell 0
  have l0 : ∀ o, _ := fun o => run_look_none ((h.map.alloc o).drew) hat
  have l1 : ∀ o o', _ := fun o o' => run_look_none (((h.map.alloc o).alloc o').drew) hat
  unfold Lea.v Lea.zero at l0 l1
  go_enter Try.func70, Try.ntmps70
  go_wp2
  go_region
  go_wp2
  clear c0 c1 l0 l1
  have hB0 : Blk (w.alloc (.cells #[.int .i64 x.key, .int .i64 x.gen, .int .i64 x.amount, .int .i64 x.spent, .int .i64 x.until_] 109)) w.heap.size _ _ := Blk.new _ _ _
  replace hB0 := (hB0.alloc (.cells #[.int .i64 0, .int .i64 0, .int .i64 0, .int .i64 0, .int .i64 0] 109)).drew
  have tW := (((Turns.refl [m] w).alloc (.cells #[.int .i64 x.key, .int .i64 x.gen, .int .i64 x.amount, .int .i64 x.spent, .int .i64 x.until_] 109)).alloc (.cells #[.int .i64 0, .int .i64 0, .int .i64 0, .int .i64 0, .int .i64 0] 109)).drew
  have h2 : IsWallet _ b m l := ⟨((h.blk.alloc (.cells #[.int .i64 x.key, .int .i64 x.gen, .int .i64 x.amount, .int .i64 x.spent, .int .i64 x.until_] 109)).alloc (.cells #[.int .i64 0, .int .i64 0, .int .i64 0, .int .i64 0, .int .i64 0] 109)).drew, ((h.map.alloc (.cells #[.int .i64 x.key, .int .i64 x.gen, .int .i64 x.amount, .int .i64 x.spent, .int .i64 x.until_] 109)).alloc (.cells #[.int .i64 0, .int .i64 0, .int .i64 0, .int .i64 0, .int .i64 0] 109)).drew⟩
  generalize World.drew _ = W at *
  generalize w.heap.size = n at hB0 ⊢
  have c2 : W.cell? ⟨b, 0, none⟩ = some (.map (some m)) := h2.blk.cell 0
  have d0 : W.cell? ⟨n, 0, none⟩ = some _ := hB0.cell 0
  have d1 : W.cell? ⟨n, 1, none⟩ = some _ := hB0.cell 1
  have d2 : W.cell? ⟨n, 2, none⟩ = some _ := hB0.cell 2
  have d3 : W.cell? ⟨n, 3, none⟩ = some _ := hB0.cell 3
  have d4 : W.cell? ⟨n, 4, none⟩ = some _ := hB0.cell 4
  go_still_tail 7, (by kernel_rfl)
  change wpList _ _ _ _ _ W.drew
  have h3 : IsWallet W.drew b m l := ⟨h2.blk, h2.map⟩
  have hbm : b ≠ m := h2.blk.ne_map h2.map
  have tD : Turns [m] w W.drew := tW.drew
  generalize W.drew = W2 at *
  go_wp2_with (at_mapUpdate; refine wp_update h3.map rfl _ _ _ _ _ _ rfl Try.underlying158 Try.underlying3 rfl _ rfl _ rfl ?_; intro w4 hm4 t4)
  go_ret
  exact ⟨rfl, hm4, h3.blk.turns t4 (by simpa using hbm), tD.trans t4⟩
theorem close_nil (k g : Int) (w : World) : Calls Try.prog 72 #[.pointer none, .int .i64 k, .int .i64 g] w fun e w' => e = .returned (.int .i64 (-1)) ∧ Turns [] w w' := by
  go_enter Try.func72, Try.ntmps72
  go_wp2
  go_ret
  exact ⟨rfl, Turns.refl _ _⟩
theorem close_none (k g : Int) (w : World) (b m : Nat) (l : List Lea) (h : IsWallet w b m l) (hat : at_ (enc l) k = none) : Calls Try.prog 72 #[.pointer (some ⟨b, 0, none⟩), .int .i64 k, .int .i64 g] w
    fun e w' => e = .returned (.int .i64 (-1)) ∧ IMap w' m (del_ (enc l) k) ∧ Blk w' b #[.map (some m)] 160 ∧ Turns [m] w w' := by
  have c0 : w.cell? ⟨b, 0, none⟩ = some (.map (some m)) := h.blk.cell 0
  have c1 : ∀ o, (w.alloc o).cell? ⟨b, 0, none⟩ = some (.map (some m)) := fun o => (h.blk.alloc o).cell 0
  have hbm : b ≠ m := h.blk.ne_map h.map
  go_enter Try.func72, Try.ntmps72
  go_wp2_with (first | (at_lookup; refine wp_lookup_ok_none h.map rfl _ _ _ _ _ rfl Try.underlying158 Try.underlying3 _ (zeroLease _) rfl _ rfl hat ?_) | (at_delete; refine wp_delete (h.map.alloc _) rfl _ _ _ _ _ _ rfl Try.underlying158 Try.underlying3 rfl _ rfl ?_; intro w4 hm4 t4))
  go_ret
  exact ⟨rfl, hm4, (h.blk.alloc _).turns t4 (by simpa using hbm), ((Turns.refl _ _).alloc _).trans t4⟩
theorem close_some (k g : Int) (w : World) (b m : Nat) (l : List Lea) (h : IsWallet w b m l) (x : Lea) (hat : at_ (enc l) k = some x.v) : Calls Try.prog 72 #[.pointer (some ⟨b, 0, none⟩), .int .i64 k, .int .i64 g] w
    fun e w' => e = .returned (.int .i64 (if x.gen = g then x.spent else -1)) ∧ IMap w' m (del_ (enc l) k) ∧ Blk w' b #[.map (some m)] 160 ∧ Turns [m] w w' := by
  have c0 : w.cell? ⟨b, 0, none⟩ = some (.map (some m)) := h.blk.cell 0
  have c1 : ∀ o, (w.alloc o).cell? ⟨b, 0, none⟩ = some (.map (some m)) := fun o => (h.blk.alloc o).cell 0
  have hbm : b ≠ m := h.blk.ne_map h.map
  have hb0 := Blk.new w #[.int .i64 x.key, .int .i64 x.gen, .int .i64 x.amount, .int .i64 x.spent, .int .i64 x.until_] 109
  have hbm2 : w.heap.size ≠ m := hb0.ne_map (h.map.alloc _)
  by_cases hg : x.gen = g
  · have hg' : (x.gen != g) = false := by simp [hg]
    rw [if_pos hg]
    clear hg
    go_enter Try.func72, Try.ntmps72
    go_wp2_with (first | (at_lookup; refine wp_lookup_ok_some h.map rfl _ _ _ _ _ rfl Try.underlying158 Try.underlying3 _ (zeroLease _) rfl _ rfl _ hat ?_) | (at_delete; refine wp_delete (h.map.alloc _) rfl _ _ _ _ _ _ rfl Try.underlying158 Try.underlying3 rfl _ rfl ?_; intro w4 hm4 t4; have d1 : w4.cell? ⟨w.heap.size, 1, none⟩ = some _ := (hb0.turns t4 (by simpa using hbm2)).cell 1; have d3 : w4.cell? ⟨w.heap.size, 3, none⟩ = some _ := (hb0.turns t4 (by simpa using hbm2)).cell 3))
    go_ret
    exact ⟨rfl, hm4, (h.blk.alloc _).turns t4 (by simpa using hbm), ((Turns.refl _ _).alloc _).trans t4⟩
  · have hg' : (x.gen != g) = true := by simp [hg]
    rw [if_neg hg]
    clear hg
    go_enter Try.func72, Try.ntmps72
    go_wp2_with (first | (at_lookup; refine wp_lookup_ok_some h.map rfl _ _ _ _ _ rfl Try.underlying158 Try.underlying3 _ (zeroLease _) rfl _ rfl _ hat ?_) | (at_delete; refine wp_delete (h.map.alloc _) rfl _ _ _ _ _ _ rfl Try.underlying158 Try.underlying3 rfl _ rfl ?_; intro w4 hm4 t4; have d1 : w4.cell? ⟨w.heap.size, 1, none⟩ = some _ := (hb0.turns t4 (by simpa using hbm2)).cell 1; have d3 : w4.cell? ⟨w.heap.size, 3, none⟩ = some _ := (hb0.turns t4 (by simpa using hbm2)).cell 3))
    go_ret
    exact ⟨rfl, hm4, (h.blk.alloc _).turns t4 (by simpa using hbm), ((Turns.refl _ _).alloc _).trans t4⟩

/-! ### the wallet as a list of leases -/
def setL (l : List Lea) (k s : Int) : List Lea := l.map fun y => if y.key == k then { y with spent := s } else y
def delL (l : List Lea) (k : Int) : List Lea := l.filter fun y => !(y.key == k)
theorem find_key {l : List Lea} {k : Int} {x : Lea} (h : find l k = some x) : x.key = k := by
  unfold find at h
  simpa using List.find?_some h
theorem find_mem {l : List Lea} {k : Int} {x : Lea} (h : find l k = some x) : x ∈ l := List.mem_of_find?_eq_some h
theorem at_find (l : List Lea) (k : Int) : at_ (enc l) k = (find l k).map Lea.v := at_enc l k
theorem put_new {l : List Lea} {x : Lea} (h : find l x.key = none) : put_ (enc l) x.key x.v = enc (l ++ [x]) := by
  rw [put_none]
  · simp [enc]
  · intro p hp
    obtain ⟨y, hy, rfl⟩ := List.mem_map.1 hp
    unfold find at h
    have := List.find?_eq_none.1 h y hy
    simpa using this
def KeyOnce (l : List Lea) : Prop := (l.map Lea.key).Nodup
theorem IsWallet.once {w : World} {b m : Nat} {l : List Lea} (h : IsWallet w b m l) : KeyOnce l := by
  have := h.map.once
  unfold Once enc at this
  rw [List.map_map] at this
  exact this
theorem same_of_key : ∀ {l : List Lea}, KeyOnce l → ∀ {x y : Lea}, x ∈ l → y ∈ l → x.key = y.key → x = y := by
  intro l
  induction l with
  | nil => intro _ x y hx; cases hx
  | cons z r ih =>
    intro h x y hx hy e
    unfold KeyOnce at h
    rw [List.map_cons, List.nodup_cons] at h
    rcases List.mem_cons.1 hx with rfl | hx1 <;> rcases List.mem_cons.1 hy with rfl | hy1
    · rfl
    · exact absurd (show _ ∈ List.map Lea.key r from List.mem_map.2 ⟨y, hy1, e.symm⟩) h.1
    · exact absurd (show _ ∈ List.map Lea.key r from List.mem_map.2 ⟨x, hx1, e⟩) h.1
    · exact ih h.2 hx1 hy1 e
theorem put_set {l : List Lea} (ho : KeyOnce l) {k s : Int} {x : Lea} (h : find l k = some x) : put_ (enc l) k (Lea.v { x with spent := s }) = enc (setL l k s) := by
  have hk := find_key h
  unfold put_
  rw [if_pos]
  · unfold enc setL
    rw [List.map_map, List.map_map]
    refine List.map_congr_left (fun y hy => ?_)
    simp only [Function.comp]
    by_cases e : y.key = k
    · have : y = x := same_of_key ho hy (find_mem h) (by rw [e, hk])
      subst this
      simp [e]
    · simp [e]
  · simp only [List.any_eq_true, beq_iff_eq]
    exact ⟨(x.key, x.v), List.mem_map.2 ⟨x, find_mem h, rfl⟩, hk⟩
theorem del_enc (l : List Lea) (k : Int) : del_ (enc l) k = enc (delL l k) := by
  unfold del_ enc delL
  rw [List.filter_map]
  rfl
def putR (l : List Lea) (x : Lea) : Int × List Lea :=
  if badB x then (1, l) else match find l x.key with | some _ => (5, l) | none => (0, l ++ [x])
theorem bad_no {x : Lea} (h : badB x = false) : decide (x.gen < 1) = false ∧ decide (x.amount < 1) = false ∧ (x.spent != 0) = false ∧ decide (x.until_ < 0) = false := by
  unfold badB at h
  simp only [Bool.or_eq_false_iff] at h
  exact ⟨h.1.1.1, h.1.1.2, h.1.2, h.2⟩
theorem put_any (x : Lea) (w : World) (b m : Nat) (l : List Lea) (h : IsWallet w b m l) (n : Int) (l' : List Lea) (hR : putR l x = (n, l')) :
    Calls Try.prog 70 #[.pointer (some ⟨b, 0, none⟩), x.v] w fun e w' => e = .returned (.int .i64 n) ∧ IsWallet w' b m l' ∧ Turns [m] w w' := by
  unfold putR at hR
  by_cases hb : badB x = true
  · rw [if_pos hb] at hR
    obtain ⟨rfl, rfl⟩ := Prod.mk.inj hR
    refine (put_bad x w b hb).mono ?_
    rintro e w' ⟨rfl, t⟩
    exact ⟨rfl, h.turns t (by simp) (by simp), t.mono (by simp)⟩
  · rw [if_neg hb] at hR
    obtain ⟨h1, h2, h3, h4⟩ := bad_no (by simpa using hb)
    cases hf : find l x.key with
    | none =>
      rw [hf] at hR
      obtain ⟨rfl, rfl⟩ := Prod.mk.inj hR
      refine (put_ok x w b m l h h1 h2 h3 h4 (by rw [at_find, hf]; rfl)).mono ?_
      rintro e w' ⟨rfl, hm, hb, t⟩
      rw [put_new hf] at hm
      exact ⟨rfl, ⟨hb, hm⟩, t⟩
    | some y =>
      rw [hf] at hR
      obtain ⟨rfl, rfl⟩ := Prod.mk.inj hR
      refine (put_twice x y w b m l h h1 h2 h3 h4 (by rw [at_find, hf]; rfl)).mono ?_
      rintro e w' ⟨rfl, t⟩
      exact ⟨rfl, h.turns t (by simp) (by simp), t.mono (by simp)⟩
def spendR (l : List Lea) (k cost now : Int) : Int × Bool × List Lea :=
  if cost < 1 then (0, false, l) else if cost > left l k now then (0, false, l) else
    match find l k with | none => (0, false, l) | some x => (x.gen, true, setL l k (wrap64 (x.spent + cost)))
theorem spend_any (k cost now : Int) (w : World) (b m : Nat) (l : List Lea) (h : IsWallet w b m l) (g : Int) (ok : Bool) (l' : List Lea) (hR : spendR l k cost now = (g, ok, l')) :
    Calls Try.prog 69 #[.pointer (some ⟨b, 0, none⟩), .int .i64 k, .int .i64 cost, .int .i64 now] w fun e w' => e = .returned (.tuple #[.int .i64 g, .bool ok]) ∧ IsWallet w' b m l' ∧ Turns [m] w w' := by
  unfold spendR at hR
  by_cases h1 : cost < 1
  · rw [if_pos h1] at hR
    simp only [Prod.mk.injEq] at hR
    obtain ⟨rfl, rfl, rfl⟩ := hR
    refine (spend_low k cost now w _ (decide_eq_true h1)).mono ?_
    rintro e w' ⟨rfl, t⟩
    exact ⟨rfl, h.turns t (by simp) (by simp), t.mono (by simp)⟩
  · rw [if_neg h1] at hR
    by_cases h2 : cost > left l k now
    · rw [if_pos h2] at hR
      simp only [Prod.mk.injEq] at hR
      obtain ⟨rfl, rfl, rfl⟩ := hR
      refine (spend_high k cost now w b m l h (decide_eq_false h1) (decide_eq_true h2)).mono ?_
      rintro e w' ⟨rfl, t⟩
      exact ⟨rfl, h.turns t (by simp) (by simp), t.mono (by simp)⟩
    · rw [if_neg h2] at hR
      cases hf : find l k with
      | none =>
        have : left l k now = 0 := by unfold left; rw [hf]
        omega
      | some x =>
        rw [hf] at hR
        simp only [Prod.mk.injEq] at hR
        obtain ⟨rfl, rfl, rfl⟩ := hR
        refine (spend_does k cost now w b m l h x (by rw [at_find, hf]; rfl) (decide_eq_false h1) (decide_eq_false h2)).mono ?_
        rintro e w' ⟨rfl, hm, hb, t⟩
        rw [put_set h.once hf] at hm
        exact ⟨rfl, ⟨hb, hm⟩, t⟩
def closeR (l : List Lea) (k g : Int) : Int := match find l k with | none => -1 | some x => if x.gen = g then x.spent else -1
theorem close_any (k g : Int) (w : World) (b m : Nat) (l : List Lea) (h : IsWallet w b m l) (n : Int) (hR : closeR l k g = n) :
    Calls Try.prog 72 #[.pointer (some ⟨b, 0, none⟩), .int .i64 k, .int .i64 g] w fun e w' => e = .returned (.int .i64 n) ∧ IsWallet w' b m (delL l k) ∧ Turns [m] w w' := by
  subst hR
  unfold closeR
  cases hf : find l k with
  | none =>
    refine (close_none k g w b m l h (by rw [at_find, hf]; rfl)).mono ?_
    rintro e w' ⟨rfl, hm, hb, t⟩
    rw [del_enc] at hm
    exact ⟨rfl, ⟨hb, hm⟩, t⟩
  | some x =>
    refine (close_some k g w b m l h x (by rw [at_find, hf]; rfl)).mono ?_
    rintro e w' ⟨rfl, hm, hb, t⟩
    rw [del_enc] at hm
    exact ⟨rfl, ⟨hb, hm⟩, t⟩
theorem left_is (k now : Int) (w : World) (b m : Nat) (l : List Lea) (h : IsWallet w b m l) (n : Int) (hR : left l k now = n) :
    Calls Try.prog 67 #[.pointer (some ⟨b, 0, none⟩), .int .i64 k, .int .i64 now] w fun e w' => e = .returned (.int .i64 n) ∧ IsWallet w' b m l ∧ Turns [m] w w' := by
  subst hR
  refine (left_any k now w b m l h).mono ?_
  rintro e w' ⟨rfl, t⟩
  exact ⟨rfl, h.turns t (by simp) (by simp), t.mono (by simp)⟩
end Go.Proofs.Ytcmaloncfdmpnaa.Lw
