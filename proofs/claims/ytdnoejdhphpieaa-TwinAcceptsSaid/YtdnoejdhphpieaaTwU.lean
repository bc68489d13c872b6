/- The contract of Accept of the reference: layer 16. -/
import Derived.Test.YtdnoejdhphpieaaTwT
namespace Go.Proofs.Ytdnoejdhphpieaa
open Go.RowKit
attribute [local go_sem ↓] Go.wp_at_zero Go.wp_at_succ

/-- It returns a state of the reference and a bool; the state lies where it lay, or in new blocks. -/
def RetSR (w : World) (v : Value) (l : List Src3) (z : List Src3 × Bool) (e : Ending) (w' : World) : Prop :=
  ∃ a c, e = .returned (.tuple #[.agg #[.slice a z.1.length c], .bool z.2]) ∧ Ext w w' ∧ (∀ V : Nat → Prop, RF V 3 srcE w v l → (∀ k, V k → k < w.heap.size) → RF V 3 srcE w' (.slice a z.1.length c) z.1) ∧ (z.1 = [] → a = none ∧ c = 0)
theorem RetSR.same {w w' : World} {a : Option Addr} {c : Nat} {l : List Src3} (hnil : l = [] → (Value.slice a l.length c) = .slice none 0 0) (he : Ext w w') (b : Bool) : RetSR w (.slice a l.length c) l (l, b) (.returned (.tuple #[.agg #[.slice a l.length c], .bool b])) w' :=
  ⟨a, c, rfl, he, fun _ h _ => h.ext he, fun e => by have := hnil e; simp only [Value.slice.injEq] at this; exact ⟨this.1, this.2.2⟩⟩
theorem RetSR.row {w w' : World} {v : Value} {a : Option Addr} {c : Nat} {l L : List Src3} {base : Nat} (hne : L ≠ []) (hb : w.heap.size ≤ base) (he : Ext w w') (ho : w'.ownsRow base 75 3 (.slice a L.length c) L.length (L.flatMap srcE)) : RetSR w v l (L, true) (.returned (.tuple #[.agg #[.slice a L.length c], .bool true])) w' :=
  ⟨a, c, rfl, he, fun _ _ hV => RF.of_own srcE_len ho (fun k hk => Nat.lt_of_lt_of_le (hV k hk) hb), fun e => absurd e hne⟩

set_option maxRecDepth 100000 in
set_option maxHeartbeats 4000000 in
theorem acceptR_bad (l : List Src3) (v : Value) (s q : Int) (w : World) (h : RF Any 3 srcE w v l) (hnil : l = [] → v = .slice none 0 0) (hb : s < 0 ∨ 65535 < s ∨ q < 0 ∨ 65535 < q) :
    Calls Try.prog 13 #[.agg #[v], .int .i64 s, .int .i64 q] w (RetSR w v l (l, false)) := by
  obtain ⟨va, vc, rfl, _, _⟩ := h.form
  have W1 := Lib.hid (fun w1 => word16_any s w1)
  have W2 := Lib.hid (fun w1 => word16_any q w1)
  have HEND := Lib.hid (fun w' (he : Ext w w') => RetSR.same hnil he false)
  have hcase : wordB s = false ∨ (wordB s = true ∧ wordB q = false) := by
    unfold wordB
    by_cases h1 : 0 ≤ s <;> by_cases h2 : s ≤ 65535 <;> simp [h1, h2] <;> omega
  generalize wordB s = bs at *
  generalize wordB q = bq at *
  clear h hb hnil
  generalize l.length = n at *
  rcases hcase with rfl | ⟨rfl, rfl⟩
  all_goals
    go_enter Try.func13, Try.ntmps13
    go_wp2_with fail
    refine (W1.out _).mono ?_
    rintro e w1 ⟨rfl, rfl⟩
    go_wp2_with (refine (W2.out _).mono ?_; rintro e w1 ⟨rfl, rfl⟩)
    refine bodyPost_ret (v := .tuple #[.agg #[.slice va n vc], .bool false]) (by simp [results, Try.results13, go_sem]) rfl ?_
    refine HEND.out _ ?_
    repeat (first | exact Ext.refl _ | apply Ext.alloc | refine Ext.setCell ?_ (by simp) _)

set_option maxRecDepth 100000 in
set_option maxHeartbeats 4000000 in
theorem acceptR_new (l : List Src3) (v : Value) (s q : Int) (w : World) (h : RF Any 3 srcE w v l) (hnil : l = [] → v = .slice none 0 0) (hl : l.length ≤ 10000000) (hr : 0 ≤ s ∧ s ≤ 65535 ∧ 0 ≤ q ∧ q ≤ 65535) (hno : isAt l s = false) :
    Calls Try.prog 13 #[.agg #[v], .int .i64 s, .int .i64 q] w (RetSR w v l (l.take (below l s) ++ (s, q, 1) :: l.drop (below l s), true)) := by
  have W1 := Lib.hid (fun w1 => word16_any s w1)
  have W2 := Lib.hid (fun w1 => word16_any q w1)
  rw [show wordB s = true by unfold wordB; simp; omega] at W1
  rw [show wordB q = true by unfold wordB; simp; omega] at W2
  have HF := Lib.hid (fun w1 (he : Ext w w1) => find16_any l v s w1 (h.ext he))
  rw [hno] at HF
  have HP := Lib.hid (fun w1 (he : Ext w w1) => put16_ins l (s, q, 1) (below l s) v w1 (h.ext he) (below_le l s) (by omega) hnil)
  obtain ⟨va, vc, rfl, _, _⟩ := h.form
  have hne : l.take (below l s) ++ (s, q, 1) :: l.drop (below l s) ≠ [] := by simp
  have HEND := Lib.hid (fun w' a c b hb he ho => RetSR.row (v := .slice va l.length vc) (l := l) (w := w) (w' := w') (a := a) (c := c) (base := b) hne hb he ho)
  generalize l.take (below l s) ++ (s, q, 1) :: l.drop (below l s) = L at *
  generalize below l s = k at *
  have hmp : 0 < L.length := List.length_pos_iff.2 hne
  clear h hnil hl hr hno hne
  generalize L.flatMap srcE = F at *
  generalize hm : L.length = m at *
  generalize l.length = n at *
  have HM := Lib.hid hm
  clear hm
  go_enter Try.func13, Try.ntmps13
  go_wp2_with fail
  refine (W1.out _).mono ?_
  rintro e w1 ⟨rfl, rfl⟩
  go_wp2_with fail
  refine (W2.out _).mono ?_
  rintro e w1 ⟨rfl, rfl⟩
  go_wp2_with fail
  refine (HF.out _ (((Ext.refl w).alloc _).alloc _)).mono ?_
  rintro e w2 ⟨rfl, x2⟩
  have b0 : w2.cell? ⟨w.heap.size, 0, none⟩ = some (.slice va n vc) := x2.cell (cell_keep _ _ (cell_at _ _ _ _ 0 _ rfl rfl))
  have X2 : Ext w w2 := (((Ext.refl w).alloc _).alloc _).trans x2
  go_wp2_with fail
  refine (HP.out _ X2).mono ?_
  rintro e w3 ⟨a3, c3, rfl, x3, ho⟩
  have z2 : w.heap.size + 2 ≤ w2.heap.size := by have := x2.size; simpa using this
  have z3 : w.heap.size + 1 < w3.heap.size := by have := x3.size; omega
  have b3 : w3.cell? ⟨w.heap.size + 1, 0, none⟩ = some (.slice none 0 0) := x3.cell (x2.cell (cell_at _ _ _ _ 0 _ (by simp) rfl))
  have f3 : w3.frozen? ⟨w.heap.size + 1, 0, none⟩ = false := (x3.frozen (by simp only; omega)).trans ((x2.frozen (by simp)).trans (frozen_at _ _ _ _ 0 (by simp)))
  have HO := Lib.hid ho
  clear ho
  go_wp2_with fail
  obtain ⟨g3, rfl, hg3, _⟩ := own_some HO.out hmp
  refine bodyPost_ret (v := .tuple #[.agg #[.slice (some ⟨g3, 0, none⟩) m c3], .bool true]) (by simp [results, Try.results13, go_sem, b3]) rfl ?_
  exact HEND.out _ _ _ w2.heap.size X2.size ((X2.trans x3).setCell (by simp only; omega) _) (own_setCell HO.out ⟨w.heap.size + 1, 0, none⟩ _ (show w.heap.size + 1 ≠ g3 by omega))

set_option maxRecDepth 100000 in
set_option maxHeartbeats 8000000 in
theorem acceptR_found (l : List Src3) (v : Value) (s q : Int) (w : World) (h : RF Any 3 srcE w v l) (hl : l.length ≤ 10000000) (hr : 0 ≤ s ∧ s ≤ 65535 ∧ 0 ≤ q ∧ q ≤ 65535) (hno : isAt l s = true) (x : Src3) (hx : l[below l s]? = some x) (hwf : WfX x) :
    Calls Try.prog 13 #[.agg #[v], .int .i64 s, .int .i64 q] w (RetSR w v l (l.set (below l s) (takeS x q).1, (takeS x q).2)) := by
  have W1 := Lib.hid (fun w1 => word16_any s w1)
  have W2 := Lib.hid (fun w1 => word16_any q w1)
  rw [show wordB s = true by unfold wordB; simp; omega] at W1
  rw [show wordB q = true by unfold wordB; simp; omega] at W2
  have HF := Lib.hid (fun w1 (he : Ext w w1) => find16_any l v s w1 (h.ext he))
  rw [hno] at HF
  have hkl := get_lt hx
  have HP := Lib.hid (fun y w1 (he : Ext w w1) => put16_rep l y (below l s) v w1 (h.ext he) hkl (by omega))
  obtain ⟨b, off, vc, rfl, g0, g1, g2⟩ := src_get h hx
  have hne : ∀ y, l.set (below l s) y ≠ [] := fun y e => by have := congrArg List.length e; simp at this; subst this; simp at hkl
  have HEND := Lib.hid (fun y w' a c b' hb he ho => RetSR.row (v := .slice (some ⟨b, off, none⟩) l.length vc) (l := l) (w := w) (w' := w') (a := a) (c := c) (base := b') (hne y) hb he ho)
  have hnil : l ≠ [] := fun e => by subst e; simp at hkl
  have HSAME : Hid (∀ w' (_ : Ext w w'), RetSR w (.slice (some ⟨b, off, none⟩) l.length vc) l (l.set (below l s) x, false) (.returned (.tuple #[.agg #[.slice (some ⟨b, off, none⟩) l.length vc], .bool false])) w') := fun w' he => by
    have e : l.set (below l s) x = l := by
      apply List.ext_getElem?
      intro j
      rw [List.getElem?_set]
      split
      · rename_i hij; subst hij; first | rw [if_pos hkl, hx] | rw [hx]
      · rfl
    rw [e]
    exact RetSR.same (fun e => absurd e hnil) he false
  obtain ⟨xo, t, S⟩ := x
  obtain ⟨ht, ht2, hS⟩ := hwf
  simp only at ht ht2 hS g0 g1 g2
  obtain ⟨hr1, hr2, hr3, hr4⟩ := hr
  obtain ⟨T, hT⟩ : ∃ T, takeS (xo, t, S) q = T := ⟨_, rfl⟩
  rw [hT]
  unfold takeS at hT
  simp only at hT
  obtain ⟨d, hd⟩ : ∃ d : Nat, (q - t) % 65536 = d := ⟨((q - t) % 65536).toNat, by omega⟩
  obtain ⟨k2, hk2⟩ : ∃ k2 : Nat, (t - q) % 65536 = k2 := ⟨((t - q) % 65536).toNat, by omega⟩
  rw [hd, hk2, show (d : Int).toNat = d by omega, show (k2 : Int).toNat = k2 by omega] at hT
  have e1 : (q - t + 65536) % 65536 = d := by omega
  have e2 : (t - q + 65536) % 65536 = k2 := by omega
  have hdb : d ≤ 65535 := by omega
  have hkb : k2 ≤ 65535 := by omega
  have f1 : ∀ yk, Op.shift .shl .u64 (S : Int) yk (d : Int) = pure (.int .u64 ((shl64 S d : Nat) : Int)) := fun yk => shift_l yk S d
  have f2 : ∀ yk, Op.shift .shl .u64 1 yk (k2 : Int) = pure (.int .u64 ((shl64 1 k2 : Nat) : Int)) := fun yk => shift_l1 yk k2
  have f3 : ∀ yk, Op.shift .shr .u64 (S : Int) yk (k2 : Int) = pure (.int .u64 ((shr64 S k2 : Nat) : Int)) := fun yk => shift_r yk S k2 hS
  have f7 : IntKind.u64.wrap (2 ^ k2) = ((shl64 1 k2 : Nat) : Int) := by rw [show ((2 : Int) ^ k2) = ((2 ^ k2 : Nat) : Int) by simp, wrap_u64]; unfold shl64; rw [Nat.shiftLeft_eq, Nat.one_mul]
  have f8 : (S : Int) / 2 ^ k2 = ((shr64 S k2 : Nat) : Int) := by unfold shr64; rw [Nat.shiftRight_eq_div_pow]; simp
  have f9 : IntKind.u64.wrap ((S : Int) * 2 ^ d) = ((shl64 S d : Nat) : Int) := by rw [show ((S : Int) * 2 ^ d) = ((S * 2 ^ d : Nat) : Int) by simp, wrap_u64]; unfold shl64; rw [Nat.shiftLeft_eq]
  have f4 := or_one (shl64 S d) (shl64_lt S d)
  have f5 := or_nat S (shl64 1 k2) hS (shl64_lt _ _)
  have f6 := and_one (shr64 S k2) (shr64_lt S k2 hS)
  have f0 := or_one 0 (by decide)
  have hbig : 64 ≤ d → shl64 S d ||| 1 = 1 := fun hh => by rw [shl64_big S d hh]; rfl
  have hS3 : shr64 S k2 % 2 = 0 ∨ shr64 S k2 % 2 = 1 := by omega
  clear hS hd hk2
  generalize shr64 S k2 % 2 = S3 at *
  generalize hS1 : shl64 S d ||| 1 = S1 at *
  generalize S ||| shl64 1 k2 = S2 at *
  clear hS1
  generalize shl64 S d = s1 at *
  generalize shl64 1 k2 = s2 at *
  generalize shr64 S k2 = s3 at *
  generalize below l s = k at *
  have hki : (k : Int) < l.length := by omega
  have hlb : l.length ≤ 9223372036854775807 := by omega
  have HSL : Hid (∀ y, (l.set k y).length = l.length) := fun y => by simp
  clear h hx hne hno hnil
  generalize hn : l.length = n at *
  have HN := Lib.hid hn
  clear hn
  by_cases hA : 1 ≤ (d : Int) ∧ (d : Int) < 32768
  · rw [if_pos hA] at hT
    have HT := Lib.hid hT
    clear hT
    obtain ⟨hA1, hA2⟩ := hA
    have hA3 : decide ((d : Int) ≤ 32767) = true := by simpa using (show (d : Int) ≤ 32767 by omega)
    clear hA2
    by_cases hw : 64 ≤ d
    · have hS1 := hbig hw
      subst hS1
      have hw2 : decide ((64 : Int) ≤ d) = true := by simp only [decide_eq_true_eq]; omega
      have hw3 : (64 : Int) ≤ d := by omega
      clear hbig f1 f9
      go_enter Try.func13, Try.ntmps13
      go_wp2_with fail
      refine (W1.out _).mono ?_
      rintro e w1 ⟨rfl, rfl⟩
      go_wp2_with fail
      refine (W2.out _).mono ?_
      rintro e w1 ⟨rfl, rfl⟩
      go_wp2_with fail
      refine (HF.out _ (((Ext.refl w).alloc _).alloc _)).mono ?_
      rintro e w2 ⟨rfl, x2⟩
      have b0 : w2.cell? ⟨w.heap.size, 0, none⟩ = some (.slice (some ⟨b, off, none⟩) n vc) := x2.cell (cell_keep _ _ (cell_at _ _ _ _ 0 _ rfl rfl))
      have X2 : Ext w w2 := (((Ext.refl w).alloc _).alloc _).trans x2
      have z2 : w.heap.size + 2 ≤ w2.heap.size := by have := x2.size; simpa using this
      have z2' : w.heap.size < w2.heap.size := by omega
      have z2'' : w.heap.size + 1 < w2.heap.size := by omega
      have h0 := X2.cell g0
      have h1 := X2.cell g1
      have h2 := X2.cell g2
      have b2 : w2.cell? ⟨w.heap.size + 1, 0, none⟩ = some (.slice none 0 0) := x2.cell (cell_at _ _ _ _ 0 _ (by simp) rfl)
      have f2' : w2.frozen? ⟨w.heap.size + 1, 0, none⟩ = false := (x2.frozen (by simp)).trans (frozen_at _ _ _ _ 0 (by simp))
      go_wp2_with fail
      refine (HP.out (xo, q, 1) _ (X2.alloc _)).mono ?_
      rintro e w3 ⟨a3, c3, he, x3, ho⟩
      rw [HSL.out] at he ho
      subst he
      have z3 : w.heap.size + 1 < w3.heap.size := by have := x3.size; simp at this; omega
      have b3 : w3.cell? ⟨w.heap.size + 1, 0, none⟩ = some (.slice none 0 0) := x3.cell (cell_keep _ _ b2)
      have f3 : w3.frozen? ⟨w.heap.size + 1, 0, none⟩ = false := (x3.frozen (by simp; omega)).trans ((((Ext.refl w2).alloc _).frozen z2'').trans f2')
      have HO := Lib.hid ho
      clear ho
      go_wp2_with fail
      obtain ⟨g3, rfl, hg3, _⟩ := own_some HO.out (by omega)
      refine bodyPost_ret (v := .tuple #[.agg #[.slice (some ⟨g3, 0, none⟩) n c3], .bool true]) (by simp [results, Try.results13, go_sem, b3]) rfl ?_
      have hg4 : w2.heap.size + 1 ≤ g3 := by simpa using hg3
      have HE2 := HEND.out (xo, q, 1)
      rw [HSL.out] at HE2
      rw [← HT.out]
      exact HE2 _ _ _ _ (by simp; omega) (((X2.alloc _).trans x3).setCell (by simp only; omega) _) (own_setCell HO.out ⟨w.heap.size + 1, 0, none⟩ _ (show w.heap.size + 1 ≠ g3 by omega))
    · have hw3 : ¬ (64 : Int) ≤ d := by omega
      clear hbig
      go_enter Try.func13, Try.ntmps13
      go_wp2_with fail
      refine (W1.out _).mono ?_
      rintro e w1 ⟨rfl, rfl⟩
      go_wp2_with fail
      refine (W2.out _).mono ?_
      rintro e w1 ⟨rfl, rfl⟩
      go_wp2_with fail
      refine (HF.out _ (((Ext.refl w).alloc _).alloc _)).mono ?_
      rintro e w2 ⟨rfl, x2⟩
      have b0 : w2.cell? ⟨w.heap.size, 0, none⟩ = some (.slice (some ⟨b, off, none⟩) n vc) := x2.cell (cell_keep _ _ (cell_at _ _ _ _ 0 _ rfl rfl))
      have X2 : Ext w w2 := (((Ext.refl w).alloc _).alloc _).trans x2
      have z2 : w.heap.size + 2 ≤ w2.heap.size := by have := x2.size; simpa using this
      have z2' : w.heap.size < w2.heap.size := by omega
      have z2'' : w.heap.size + 1 < w2.heap.size := by omega
      have h0 := X2.cell g0
      have h1 := X2.cell g1
      have h2 := X2.cell g2
      have b2 : w2.cell? ⟨w.heap.size + 1, 0, none⟩ = some (.slice none 0 0) := x2.cell (cell_at _ _ _ _ 0 _ (by simp) rfl)
      have f2' : w2.frozen? ⟨w.heap.size + 1, 0, none⟩ = false := (x2.frozen (by simp)).trans (frozen_at _ _ _ _ 0 (by simp))
      go_wp2_with fail
      refine (HP.out (xo, q, S1) _ (X2.alloc _)).mono ?_
      rintro e w3 ⟨a3, c3, he, x3, ho⟩
      rw [HSL.out] at he ho
      subst he
      have z3 : w.heap.size + 1 < w3.heap.size := by have := x3.size; simp at this; omega
      have b3 : w3.cell? ⟨w.heap.size + 1, 0, none⟩ = some (.slice none 0 0) := x3.cell (cell_keep _ _ b2)
      have f3 : w3.frozen? ⟨w.heap.size + 1, 0, none⟩ = false := (x3.frozen (by simp; omega)).trans ((((Ext.refl w2).alloc _).frozen z2'').trans f2')
      have HO := Lib.hid ho
      clear ho
      go_wp2_with fail
      obtain ⟨g3, rfl, hg3, _⟩ := own_some HO.out (by omega)
      refine bodyPost_ret (v := .tuple #[.agg #[.slice (some ⟨g3, 0, none⟩) n c3], .bool true]) (by simp [results, Try.results13, go_sem, b3]) rfl ?_
      have hg4 : w2.heap.size + 1 ≤ g3 := by simpa using hg3
      have HE2 := HEND.out (xo, q, S1)
      rw [HSL.out] at HE2
      rw [← HT.out]
      exact HE2 _ _ _ _ (by simp; omega) (((X2.alloc _).trans x3).setCell (by simp only; omega) _) (own_setCell HO.out ⟨w.heap.size + 1, 0, none⟩ _ (show w.heap.size + 1 ≠ g3 by omega))
  · rw [if_neg hA] at hT
    have hB : decide (1 ≤ (d : Int)) = false ∨ (decide (1 ≤ (d : Int)) = true ∧ decide ((d : Int) ≤ 32767) = false) := by
      by_cases h : 1 ≤ (d : Int)
      · exact .inr ⟨by simpa using h, by simp only [decide_eq_false_iff_not]; omega⟩
      · exact .inl (by simpa using h)
    clear hA hbig
    by_cases hk : (k2 : Int) < 64
    · rcases hS3 with rfl | rfl
      · rw [if_pos ⟨hk, rfl⟩] at hT
        have HT := Lib.hid hT
        clear hT
        rcases hB with hB | ⟨hB, hB2⟩
        all_goals
          go_enter Try.func13, Try.ntmps13
          go_wp2_with fail
          refine (W1.out _).mono ?_
          rintro e w1 ⟨rfl, rfl⟩
          go_wp2_with fail
          refine (W2.out _).mono ?_
          rintro e w1 ⟨rfl, rfl⟩
          go_wp2_with fail
          refine (HF.out _ (((Ext.refl w).alloc _).alloc _)).mono ?_
          rintro e w2 ⟨rfl, x2⟩
          have b0 : w2.cell? ⟨w.heap.size, 0, none⟩ = some (.slice (some ⟨b, off, none⟩) n vc) := x2.cell (cell_keep _ _ (cell_at _ _ _ _ 0 _ rfl rfl))
          have X2 : Ext w w2 := (((Ext.refl w).alloc _).alloc _).trans x2
          have z2 : w.heap.size + 2 ≤ w2.heap.size := by have := x2.size; simpa using this
          have z2' : w.heap.size < w2.heap.size := by omega
          have z2'' : w.heap.size + 1 < w2.heap.size := by omega
          have h0 := X2.cell g0
          have h1 := X2.cell g1
          have h2 := X2.cell g2
          have b2 : w2.cell? ⟨w.heap.size + 1, 0, none⟩ = some (.slice none 0 0) := x2.cell (cell_at _ _ _ _ 0 _ (by simp) rfl)
          have f2' : w2.frozen? ⟨w.heap.size + 1, 0, none⟩ = false := (x2.frozen (by simp)).trans (frozen_at _ _ _ _ 0 (by simp))
          go_wp2_with fail
          refine (HP.out (xo, t, S2) _ (X2.alloc _)).mono ?_
          rintro e w3 ⟨a3, c3, he, x3, ho⟩
          rw [HSL.out] at he ho
          subst he
          have z3 : w.heap.size + 1 < w3.heap.size := by have := x3.size; simp at this; omega
          have b3 : w3.cell? ⟨w.heap.size + 1, 0, none⟩ = some (.slice none 0 0) := x3.cell (cell_keep _ _ b2)
          have f3 : w3.frozen? ⟨w.heap.size + 1, 0, none⟩ = false := (x3.frozen (by simp; omega)).trans ((((Ext.refl w2).alloc _).frozen z2'').trans f2')
          have HO := Lib.hid ho
          clear ho
          go_wp2_with fail
          obtain ⟨g3, rfl, hg3, _⟩ := own_some HO.out (by omega)
          refine bodyPost_ret (v := .tuple #[.agg #[.slice (some ⟨g3, 0, none⟩) n c3], .bool true]) (by simp [results, Try.results13, go_sem, b3]) rfl ?_
          have hg4 : w2.heap.size + 1 ≤ g3 := by simpa using hg3
          have HE2 := HEND.out (xo, t, S2)
          rw [HSL.out] at HE2
          rw [← HT.out]
          exact HE2 _ _ _ _ (by simp; omega) (((X2.alloc _).trans x3).setCell (by simp only; omega) _) (own_setCell HO.out ⟨w.heap.size + 1, 0, none⟩ _ (show w.heap.size + 1 ≠ g3 by omega))
      · rw [if_neg (by simp)] at hT
        have HT := Lib.hid hT
        clear hT
        rcases hB with hB | ⟨hB, hB2⟩
        all_goals
          go_enter Try.func13, Try.ntmps13
          go_wp2_with fail
          refine (W1.out _).mono ?_
          rintro e w1 ⟨rfl, rfl⟩
          go_wp2_with fail
          refine (W2.out _).mono ?_
          rintro e w1 ⟨rfl, rfl⟩
          go_wp2_with fail
          refine (HF.out _ (((Ext.refl w).alloc _).alloc _)).mono ?_
          rintro e w2 ⟨rfl, x2⟩
          have b0 : w2.cell? ⟨w.heap.size, 0, none⟩ = some (.slice (some ⟨b, off, none⟩) n vc) := x2.cell (cell_keep _ _ (cell_at _ _ _ _ 0 _ rfl rfl))
          have X2 : Ext w w2 := (((Ext.refl w).alloc _).alloc _).trans x2
          have z2 : w.heap.size + 2 ≤ w2.heap.size := by have := x2.size; simpa using this
          have z2' : w.heap.size < w2.heap.size := by omega
          have z2'' : w.heap.size + 1 < w2.heap.size := by omega
          have h0 := X2.cell g0
          have h1 := X2.cell g1
          have h2 := X2.cell g2
          have b2 : w2.cell? ⟨w.heap.size + 1, 0, none⟩ = some (.slice none 0 0) := x2.cell (cell_at _ _ _ _ 0 _ (by simp) rfl)
          have f2' : w2.frozen? ⟨w.heap.size + 1, 0, none⟩ = false := (x2.frozen (by simp)).trans (frozen_at _ _ _ _ 0 (by simp))
          go_wp2_with fail
          refine bodyPost_ret (v := .tuple #[.agg #[.slice (some ⟨b, off, none⟩) n vc], .bool false]) (by simp [results, Try.results13, go_sem, b2, z2'']) rfl ?_
          rw [← HT.out]
          exact HSAME.out _ ((X2.setCell (by simp only; omega) _).alloc _)
    · rw [if_neg (fun h => hk h.1)] at hT
      have HT := Lib.hid hT
      clear hT
      rcases hB with hB | ⟨hB, hB2⟩
      all_goals
        go_enter Try.func13, Try.ntmps13
        go_wp2_with fail
        refine (W1.out _).mono ?_
        rintro e w1 ⟨rfl, rfl⟩
        go_wp2_with fail
        refine (W2.out _).mono ?_
        rintro e w1 ⟨rfl, rfl⟩
        go_wp2_with fail
        refine (HF.out _ (((Ext.refl w).alloc _).alloc _)).mono ?_
        rintro e w2 ⟨rfl, x2⟩
        have b0 : w2.cell? ⟨w.heap.size, 0, none⟩ = some (.slice (some ⟨b, off, none⟩) n vc) := x2.cell (cell_keep _ _ (cell_at _ _ _ _ 0 _ rfl rfl))
        have X2 : Ext w w2 := (((Ext.refl w).alloc _).alloc _).trans x2
        have z2 : w.heap.size + 2 ≤ w2.heap.size := by have := x2.size; simpa using this
        have z2' : w.heap.size < w2.heap.size := by omega
        have z2'' : w.heap.size + 1 < w2.heap.size := by omega
        have h0 := X2.cell g0
        have h1 := X2.cell g1
        have h2 := X2.cell g2
        have b2 : w2.cell? ⟨w.heap.size + 1, 0, none⟩ = some (.slice none 0 0) := x2.cell (cell_at _ _ _ _ 0 _ (by simp) rfl)
        have f2' : w2.frozen? ⟨w.heap.size + 1, 0, none⟩ = false := (x2.frozen (by simp)).trans (frozen_at _ _ _ _ 0 (by simp))
        go_wp2_with fail
        refine bodyPost_ret (v := .tuple #[.agg #[.slice (some ⟨b, off, none⟩) n vc], .bool false]) (by simp [results, Try.results13, go_sem, b2, z2'']) rfl ?_
        rw [← HT.out]
        exact HSAME.out _ ((X2.setCell (by simp only; omega) _).alloc _)

/-- Accept of the reference, over a state in ascending order. -/
theorem acceptR_any (l : List Src3) (v : Value) (s q : Int) (w : World) (h : RF Any 3 srcE w v l) (hnil : l = [] → v = .slice none 0 0) (hl : l.length ≤ 10000000) (hwf : WfL l) (hasc : Asc l) :
    Calls Try.prog 13 #[.agg #[v], .int .i64 s, .int .i64 q] w (RetSR w v l (accS l s q)) := by
  by_cases hb : s < 0 ∨ 65535 < s ∨ q < 0 ∨ 65535 < q
  · rw [accS_bad hb]
    exact acceptR_bad l v s q w h hnil hb
  · have hr : 0 ≤ s ∧ s ≤ 65535 ∧ 0 ≤ q ∧ q ≤ 65535 := by omega
    cases hi : isAt l s with
    | true =>
      obtain ⟨x, hx, h1⟩ : ∃ x, l[below l s]? = some x ∧ x.1 = s := by
        unfold isAt at hi
        cases hx : l[below l s]? with
        | none => rw [hx] at hi; cases hi
        | some x => rw [hx] at hi; exact ⟨x, rfl, of_decide_eq_true hi⟩
      rw [accS_found hr (below_is hx h1) hx]
      exact acceptR_found l v s q w h hl hr hi x hx (hwf x (List.mem_of_getElem? hx))
    | false =>
      have hno : ∀ x, l[below l s]? = some x → x.1 ≠ s := fun x hx hh => by
        unfold isAt at hi
        rw [hx] at hi
        exact (of_decide_eq_false hi) hh
      obtain ⟨h1, h2⟩ := below_not hasc hno
      rw [accS_new hr h1 _ h2]
      exact acceptR_new l v s q w h hnil hl hr hi
end Go.Proofs.Ytdnoejdhphpieaa
