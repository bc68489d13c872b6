/- A ring in which one link at most is cut: a frame reaches every node. -/
import Derived.Test.YtimnepfdpehdmaaTA
import Derived.Test.YtimnepfdpehdmaaTR
import Derived.RangeFuncNested
import Derived.RangeFuncBound
import Derived.RangeFuncCalls
import Derived.RangeFuncLeaves
import Derived.Shelf.Abstract
import Derived.Shelf.RegionOpen
import Derived.WalkKit
import Derived.OwnWalkIn
import Derived.TacticsInMore
import Derived.LoopNIn
import Derived.LoopIn
import Derived.Laws.EntriesVeiled
namespace Go.Proofs.Ytimnepfdpehdmaa
open Go.RowKit Go.Shelf

section
attribute [local go_sem ↓] Go.wp_at_zero Go.wp_at_succ
theorem ringCheck_any (a : Option Addr) (n c : Nat) (w : World) (h3 : 3 ≤ n) (hn : n ≤ 40) : Calls Try.prog 58 #[.agg #[.slice a n c]] w fun e w' => e = .returned (.int .i64 0) ∧ Ext w w' := by
  have h1 : ¬ ((n : Int) < 3) := by omega
  have h2 : ¬ ((40 : Int) < n) := by omega
  go_enter Try.func58, Try.ntmps58
  go_wp2_with fail
  go_ret
  exact ⟨rfl, (Ext.refl w).alloc _⟩
theorem ringHas_any (a : Option Addr) (n c f : Nat) (w : World) (h3 : 3 ≤ n) (hn : n ≤ 40) (hf : f < n) : Calls Try.prog 34 #[.agg #[.slice a n c], .int .i64 (f : Int)] w fun e w' => e = .returned (.bool true) ∧ Ext w w' := by
  have HC := Lib.hid (fun w1 => ringCheck_any a n c w1 h3 hn)
  have h1 : (0 : Int) ≤ f := by omega
  have h2 : (f : Int) < n := by omega
  have q0 := (Bk.new w #[.slice a n c] 65 w.heap.size rfl).cell
  have HQ := Lib.hid (fun w' (he : Ext (w.alloc (.cells #[.slice a n c] 65)) w') => ((Bk.new w #[.slice a n c] 65 w.heap.size rfl).ext he).cell)
  go_enter Try.func34, Try.ntmps34
  go_wp2_with (go_at_call 58; (with_reducible refine (HC.out _).mono ?_); rintro e w4 ⟨rfl, x4⟩; have q4 := HQ.out _ x4)
  go_ret
  exact ⟨rfl, ((Ext.refl w).alloc _).trans x4⟩
theorem directions_any (w : World) : Calls Try.prog 35 #[] w fun e w' => e = .returned (.agg #[.func (.func 59) #[] #[], .func (.func 60) #[] #[]]) ∧ Ext w w' := by
  go_enter Try.func35, Try.ntmps35
  go_wp2_with fail
  exact bodyPost_ret (v := .agg #[.func (.func 59) #[] #[], .func (.func 60) #[] #[]]) (by simp [results, Try.results35, go_sem]) rfl ⟨rfl, (Ext.refl w).alloc _⟩
theorem asc_any (a : Option Addr) (n c f : Nat) (w : World) : Calls Try.prog 59 #[.agg #[.slice a n c], .int .i64 (f : Int)] w fun e w' => e = .returned (.func (.func 71) #[] #[.pointer (some ⟨w.heap.size, 0, none⟩), .pointer (some ⟨w.heap.size + 1, 0, none⟩)]) ∧ w' = (w.alloc (.cells #[.slice a n c] 65)).alloc (.cells #[.int .i64 (f : Int)] 3) := by
  go_enter Try.func59, Try.ntmps59
  go_wp2_with fail
  go_ret
  exact ⟨rfl, rfl⟩
theorem desc_any (a : Option Addr) (n c f : Nat) (w : World) : Calls Try.prog 60 #[.agg #[.slice a n c], .int .i64 (f : Int)] w fun e w' => e = .returned (.func (.func 72) #[] #[.pointer (some ⟨w.heap.size, 0, none⟩), .pointer (some ⟨w.heap.size + 1, 0, none⟩)]) ∧ w' = (w.alloc (.cells #[.slice a n c] 65)).alloc (.cells #[.int .i64 (f : Int)] 3) := by
  go_enter Try.func60, Try.ntmps60
  go_wp2_with fail
  go_ret
  exact ⟨rfl, rfl⟩
end

section
attribute [local go_sem] Oper.semAt_some
def uptoN {α : Type} (f : Nat → α) (k : Nat) : List α := (List.range k).map f
theorem uptoN_succ {α : Type} (f : Nat → α) (k : Nat) : uptoN f (k + 1) = uptoN f k ++ [f k] := by simp [uptoN, List.range_succ]
theorem uptoN_length {α : Type} (f : Nat → α) (k : Nat) : (uptoN f k).length = k := by simp [uptoN]
/-- A node of a ring of n nodes, and its hops. -/
abbrev Nod (n : Nat) : Type := { x : Nat × Nat // x.1 < n }
/-- The k-th node in direction 0, and its hops. -/
def ascN {n : Nat} (h : 3 ≤ n) (fr i : Nat) : Nod n := ⟨((fr + 1 + i) % n, i + 1), Nat.mod_lt _ (by omega)⟩
def descN {n : Nat} (h : 3 ≤ n) (fr i : Nat) : Nod n := ⟨((fr + n * 2 - 1 - i) % n, i + 1), Nat.mod_lt _ (by omega)⟩
def nodeE {n : Nat} (x : Nod n) : Array Value := #[.int .i64 (x.1.1 : Int), .int .i64 (x.1.2 : Int)]
theorem mod_up {fr n k : Nat} (hn : 3 ≤ n) (h40 : n ≤ 40) : (IntKind.i64.wrap (((fr + k) % n : Nat) + 1)).tmod (n : Int) = ((fr + 1 + k) % n : Nat) := by
  have h : (fr + k) % n < n := Nat.mod_lt _ (by omega)
  rw [IntWalk.i64_in _ (by omega), Int.tmod_eq_emod_of_nonneg (by omega)]
  have : ((((fr + k) % n : Nat) : Int) + 1) = (((fr + k) % n + 1 : Nat) : Int) := by omega
  rw [this, ← Int.natCast_emod, Nat.mod_add_mod, show fr + k + 1 = fr + 1 + k by omega]
theorem mod_dn {fr n k : Nat} (hn : 3 ≤ n) (hk : k ≤ n) : ((((fr + n * 2 - k) % n : Nat) : Int) + n - 1) % n = ((fr + n * 2 - 1 - k) % n : Nat) := by
  have : ((((fr + n * 2 - k) % n : Nat) : Int) + n - 1) = (((fr + n * 2 - k) % n + (n - 1) : Nat) : Int) := by omega
  rw [this, ← Int.natCast_emod, Nat.mod_add_mod, show fr + n * 2 - k + (n - 1) = fr + n * 2 - 1 - k + n by omega, Nat.add_mod_right]
/-- What a round keeps for the iterator: all that lay below n0, and the ring's variable. -/
def KpR (n0 BR : Nat) (W W' : World) : Prop := Below n0 W W' ∧ ∀ v, W.cell? ⟨BR, 0, none⟩ = some v → W'.cell? ⟨BR, 0, none⟩ = some v
theorem KpR.refl (n0 BR : Nat) (W : World) : KpR n0 BR W W := ⟨Below.refl _ _, fun _ h => h⟩
theorem KpR.trans {n0 BR : Nat} {A B C : World} (h : KpR n0 BR A B) (k : KpR n0 BR B C) : KpR n0 BR A C := ⟨h.1.trans k.1, fun v hv => k.2 v (h.2 v hv)⟩
theorem KpR.turn {n0 BR : Nat} {w : World} (hn : n0 ≤ w.heap.size) (W : World) (l : Nat) (o o' : Obj) (hl : w.heap.size ≤ l) (h : W.heap[l]? = some o) (ho : o.isCells = false) (hw : o.isWalk = false) : KpR n0 BR W (W.putObj l o') :=
  ⟨belowK_b hn W l o o' hl h ho hw, fun v hv => cell_kept hv (grownBy_putObj' W l o') (fun r e => by cases e; exact ⟨o, h, ho⟩)⟩
set_option maxRecDepth 100000 in
set_option maxHeartbeats 2000000 in
theorem asc1_in (n0 l BR BF b off c n fr A : Nat) (bs : List Bool) (hn : 3 ≤ n) (h40 : n ≤ 40) (hl : bs.length = n) (hfr : fr < n) (hA : A ≤ n - 1) (hA1 : ∀ i, i < A → bs[(fr + i) % n]? = some false) (hA2 : A < n - 1 → bs[(fr + A) % n]? = some true)
    (hb : b < n0) (J Jx : List (Nod n) → World → Prop)
    (hY : ∀ pre (x : Nod n) W, J pre W → pre.length < n → YieldAt Fence.wide 0 Try.prog l (nodeE x) W fun e W' =>
      (e = .returned (.bool true) ∧ J (pre ++ [x]) W' ∧ KpR n0 BR W W') ∨ (e = .returned (.bool false) ∧ Jx (pre ++ [x]) W'))
    (W : World) (hR : W.cell? ⟨BR, 0, none⟩ = some (.slice (some ⟨b, off, none⟩) n c)) (hF : W.cell? ⟨BF, 0, none⟩ = some (.int .i64 (fr : Int))) (hc : ∀ j x, bs[j]? = some x → W.cell? ⟨b, off + j, none⟩ = some (.bool x)) (h0 : J [] W) :
    CallsIn Fence.wide 1 Try.prog 71 #[.func (.yield l) #[] #[], .pointer (some ⟨BR, 0, none⟩), .pointer (some ⟨BF, 0, none⟩)] W fun e W' => (∃ v, e = .returned v) ∧
      ((∃ ys, ys = uptoN (ascN hn fr) A ∧ J ys W') ∨ (∃ pre, (∃ k, k ≤ A ∧ pre = uptoN (ascN hn fr) k) ∧ Jx pre W')) := by
  refine callsIn_of_wp Try.func71 rfl trivial ?_ rfl
  simp only [Try.ntmps71, List.size_toArray, List.length_cons, List.length_nil, Nat.reduceAdd, Nat.reduceSub, Array.replicate_succ, Array.replicate_zero, List.push_toArray, List.append_toArray, List.nil_append, List.cons_append]
  have HC := Lib.hid hc
  have HR := Lib.hid hR
  clear hc
  gi_wp2
  clear hR hF
  gi_loopw [5, 6] (fun nd hp wr => ∃ k : Nat, k ≤ A ∧ nd = .int .i64 (((fr + k) % n : Nat) : Int) ∧ hp = .int .i64 ((k + 1 : Nat) : Int) ∧ J (uptoN (ascN hn fr) k) wr ∧ KpR n0 BR W wr) (fun _ i _ => n - (intOf i).toNat)
  case atStart => exact ⟨0, Nat.zero_le _, by rw [Nat.add_zero, Nat.mod_eq_of_lt hfr], rfl, h0, KpR.refl _ _ _⟩
  case round =>
    obtain ⟨k, hk, rfl, rfl, hJs, hnx⟩ := hrel
    have hR' := hnx.2 _ HR.out
    have hm1 : (fr + k) % n < n := Nat.mod_lt _ (by omega)
    have HCX := Lib.hid (fun x (h : bs[(fr + k) % n]? = some x) => (hnx.1.cell (p := ⟨b, off + (fr + k) % n, none⟩) hb).trans (HC.out _ x h))
    have hk0 : (0 : Int) ≤ ((fr + k) % n : Nat) := by omega
    have hk1 : (((fr + k) % n : Nat) : Int) < n := by omega
    by_cases hlt : k + 1 < n
    · have hlt' : ((k + 1 : Nat) : Int) < n := by omega
      by_cases hkA : k < A
      · have hcf := HCX.out _ (hA1 k hkA)
        obtain ⟨fn, tmps, assign, body, hy, hR⟩ := hY _ (ascN hn fr k) wr hJs (by rw [uptoN_length]; omega)
        dsimp only [nodeE, ascN] at hy
        have hmu := mod_up (fr := fr) (k := k) hn h40
        have hmu2 : (((fr + k) % n : Nat) + 1 : Int) % n = ((fr + 1 + k) % n : Nat) := by
          rw [← hmu, IntWalk.i64_in _ (by omega), Int.tmod_eq_emod_of_nonneg (by omega)]
        have hn0 : ((n : Int) == 0) = false := by simp; omega
        have R3 : fr + 1 + k = fr + (k + 1) := by omega
        clear hA1 hA2 HCX
        generalize (fr + k) % n = x0 at *
        generalize hx1 : (fr + 1 + k) % n = x1 at *
        generalize hk2 : k + 1 = k2 at *
        have HK2 := Lib.hid hk2
        have HX1 := Lib.hid hx1
        clear hk2 hx1
        gi_wp2
        refine hR.mono ?_
        rintro e W3 (⟨rfl, hJ3, hk3⟩ | ⟨rfl, hJx3⟩)
        · gi_wp2
          go_roundw
          case rel => exact ⟨k2, by have := HK2.out; omega, by rw [← HX1.out, R3], rfl, by rw [← HK2.out, uptoN_succ]; exact hJ3, hnx.trans hk3⟩
          case measure => simp only [intOf]; omega
        · gi_wp2
          refine bodyPost_ret (results_none rfl _ _ _) rfl ?_
          exact ⟨⟨_, rfl⟩, .inr ⟨_, ⟨k + 1, hkA, (uptoN_succ _ _).symm⟩, hJx3⟩⟩
      · have hkA' : k = A := by omega
        subst hkA'
        have hcf := HCX.out _ (hA2 (by omega))
        clear HCX hA1 hA2
        generalize (fr + k) % n = x0 at *
        gi_wp2
        refine bodyPost_ret (results_none rfl _ _ _) rfl ?_
        exact ⟨⟨_, rfl⟩, .inl ⟨_, rfl, hJs⟩⟩
    · have hlt' : ¬ ((k + 1 : Nat) : Int) < n := by omega
      have hkA' : k = A := by omega
      subst hkA'
      clear HCX hA1 hA2
      gi_wp2
      go_end0
      exact ⟨⟨_, rfl⟩, .inl hJs⟩
set_option maxRecDepth 100000 in
set_option maxHeartbeats 2000000 in
theorem desc1_in (n0 l BR BF b off c n fr A : Nat) (bs : List Bool) (hn : 3 ≤ n) (h40 : n ≤ 40) (hl : bs.length = n) (hfr : fr < n) (hA : A ≤ n - 1) (hA1 : ∀ i, i < A → bs[(fr + n * 2 - 1 - i) % n]? = some false) (hA2 : A < n - 1 → bs[(fr + n * 2 - 1 - A) % n]? = some true)
    (hb : b < n0) (J Jx : List (Nod n) → World → Prop)
    (hY : ∀ pre (x : Nod n) W, J pre W → pre.length < n → YieldAt Fence.wide 0 Try.prog l (nodeE x) W fun e W' =>
      (e = .returned (.bool true) ∧ J (pre ++ [x]) W' ∧ KpR n0 BR W W') ∨ (e = .returned (.bool false) ∧ Jx (pre ++ [x]) W'))
    (W : World) (hR : W.cell? ⟨BR, 0, none⟩ = some (.slice (some ⟨b, off, none⟩) n c)) (hF : W.cell? ⟨BF, 0, none⟩ = some (.int .i64 (fr : Int))) (hc : ∀ j x, bs[j]? = some x → W.cell? ⟨b, off + j, none⟩ = some (.bool x)) (h0 : J [] W) :
    CallsIn Fence.wide 1 Try.prog 72 #[.func (.yield l) #[] #[], .pointer (some ⟨BR, 0, none⟩), .pointer (some ⟨BF, 0, none⟩)] W fun e W' => (∃ v, e = .returned v) ∧
      ((∃ ys, ys = uptoN (descN hn fr) A ∧ J ys W') ∨ (∃ pre, (∃ k, k ≤ A ∧ pre = uptoN (descN hn fr) k) ∧ Jx pre W')) := by
  refine callsIn_of_wp Try.func72 rfl trivial ?_ rfl
  simp only [Try.ntmps72, List.size_toArray, List.length_cons, List.length_nil, Nat.reduceAdd, Nat.reduceSub, Array.replicate_succ, Array.replicate_zero, List.push_toArray, List.append_toArray, List.nil_append, List.cons_append]
  have HC := Lib.hid hc
  have HR := Lib.hid hR
  clear hc
  gi_wp2
  clear hR hF
  gi_loopw [5, 6] (fun nd hp wr => ∃ k : Nat, k ≤ A ∧ nd = .int .i64 (((fr + n * 2 - k) % n : Nat) : Int) ∧ hp = .int .i64 ((k + 1 : Nat) : Int) ∧ J (uptoN (descN hn fr) k) wr ∧ KpR n0 BR W wr) (fun _ i _ => n - (intOf i).toNat)
  case atStart => exact ⟨0, Nat.zero_le _, by rw [Nat.sub_zero, Nat.add_mul_mod_self_left, Nat.mod_eq_of_lt hfr], rfl, h0, KpR.refl _ _ _⟩
  case round =>
    obtain ⟨k, hk, rfl, rfl, hJs, hnx⟩ := hrel
    have hR' := hnx.2 _ HR.out
    have hm0 : (fr + n * 2 - k) % n < n := Nat.mod_lt _ (by omega)
    have hm1 : (fr + n * 2 - 1 - k) % n < n := Nat.mod_lt _ (by omega)
    have HCX := Lib.hid (fun x (h : bs[(fr + n * 2 - 1 - k) % n]? = some x) => (hnx.1.cell (p := ⟨b, off + (fr + n * 2 - 1 - k) % n, none⟩) hb).trans (HC.out _ x h))
    have hk0 : (0 : Int) ≤ ((fr + n * 2 - k) % n : Nat) := by omega
    have hk1 : (((fr + n * 2 - k) % n : Nat) : Int) < n := by omega
    have hj0 : (0 : Int) ≤ ((fr + n * 2 - 1 - k) % n : Nat) := by omega
    have hj1 : (((fr + n * 2 - 1 - k) % n : Nat) : Int) < n := by omega
    have hmu2 := mod_dn (fr := fr) (k := k) (n := n) hn (by omega)
    have hn0 : ((n : Int) == 0) = false := by simp; omega
    by_cases hlt : k + 1 < n
    · have hlt' : ((k + 1 : Nat) : Int) < n := by omega
      by_cases hkA : k < A
      · have hcf := HCX.out _ (hA1 k hkA)
        obtain ⟨fn, tmps, assign, body, hy, hR⟩ := hY _ (descN hn fr k) wr hJs (by rw [uptoN_length]; omega)
        dsimp only [nodeE, descN] at hy
        have R3 : fr + n * 2 - 1 - k = fr + n * 2 - (k + 1) := by omega
        clear hA1 hA2 HCX
        generalize (fr + n * 2 - k) % n = x0 at *
        generalize hx1 : (fr + n * 2 - 1 - k) % n = x1 at *
        generalize hk2 : k + 1 = k2 at *
        have HK2 := Lib.hid hk2
        have HX1 := Lib.hid hx1
        clear hk2 hx1
        gi_wp2
        refine hR.mono ?_
        rintro e W3 (⟨rfl, hJ3, hk3⟩ | ⟨rfl, hJx3⟩)
        · gi_wp2
          go_roundw
          case rel => exact ⟨k2, by have := HK2.out; omega, by rw [← HX1.out, R3], rfl, by rw [← HK2.out, uptoN_succ]; exact hJ3, hnx.trans hk3⟩
          case measure => simp only [intOf]; omega
        · gi_wp2
          refine bodyPost_ret (results_none rfl _ _ _) rfl ?_
          exact ⟨⟨_, rfl⟩, .inr ⟨_, ⟨k + 1, hkA, (uptoN_succ _ _).symm⟩, hJx3⟩⟩
      · have hkA' : k = A := by omega
        subst hkA'
        have hcf := HCX.out _ (hA2 (by omega))
        clear HCX hA1 hA2
        generalize (fr + n * 2 - k) % n = x0 at *
        generalize (fr + n * 2 - 1 - k) % n = x1 at *
        gi_wp2
        refine ⟨fun _ h => (by cases h), ?_⟩
        gi_wp2
        refine bodyPost_ret (results_none rfl _ _ _) rfl ?_
        exact ⟨⟨_, rfl⟩, .inl ⟨_, rfl, hJs⟩⟩
    · have hlt' : ¬ ((k + 1 : Nat) : Int) < n := by omega
      have hkA' : k = A := by omega
      subst hkA'
      clear HCX hA1 hA2
      gi_wp2
      go_end0
      exact ⟨⟨_, rfl⟩, .inl hJs⟩
end
end Go.Proofs.Ytimnepfdpehdmaa
