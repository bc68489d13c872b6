/- The contract of Accept of the program: layer 16. -/
import Derived.Test.YtimnepfdpehdmaaTwI
namespace Go.Proofs.Ytimnepfdpehdmaa
open Go.RowKit
attribute [local go_sem ↓] Go.wp_at_zero Go.wp_at_succ

/-- It returns a state and a bool; the state lies in new blocks. -/
def RetSt (w : World) (z : List Src3 × Bool) (e : Ending) (w' : World) : Prop := ∃ a c, e = .returned (.tuple #[.agg #[.slice a z.1.length c], .bool z.2]) ∧ Ext w w' ∧ RF (Old w) 3 srcE w' (.slice a z.1.length c) z.1
theorem accS_bad {l : List Src3} {s q : Int} (h : s < 0 ∨ 65535 < s ∨ q < 0 ∨ 65535 < q) : accT l s q = (l, false) := by unfold accT; rw [if_pos h]
theorem own_rf {w : World} {base : Nat} {l : List Src3} {a : Option Addr} {c : Nat} (h : w.ownsRow base 112 3 (.slice a l.length c) l.length (l.flatMap srcE)) : RF (fun k => k < base) 3 srcE w (.slice a l.length c) l := RF.of_own srcE_len h (fun _ h => h)

set_option maxRecDepth 100000 in
set_option maxHeartbeats 4000000 in
theorem acceptP_bad (l : List Src3) (v : Value) (s q : Int) (w : World) (h : RF Any 3 srcE w v l) (hl : l.length ≤ 100000000) (hb : s < 0 ∨ 65535 < s ∨ q < 0 ∨ 65535 < q) :
    Calls Try.prog 26 #[.agg #[v], .int .i64 s, .int .i64 q] w (RetSt w (l, false)) := by
  obtain ⟨va, vc, rfl, _, _⟩ := h.form
  have HC := Lib.hid (fun w1 (he : Ext w w1) => cloneSrc_any l _ w1 (h.ext he) (by omega))
  have HEND : Hid (∀ (w1 : World) e a c, e = .returned (.tuple #[.agg #[.slice a l.length c], .bool false]) → Ext w w1 → RF (Old w) 3 srcE w1 (.slice a l.length c) l → RetSt w (l, false) e w1) := fun w1 e a c h1 h2 h3 => ⟨a, c, h1, h2, h3⟩
  have HEND2 := Lib.hid (fun (w1 : World) (b : Nat) a c (ho : w1.ownsRow b 112 3 (.slice a l.length c) l.length (l.flatMap srcE)) => own_rf ho)
  clear h
  generalize hn : l.length = n at *
  have HN := Lib.hid hn
  clear hn
  have hs : decide (s < 0) = true ∨ (decide (s < 0) = false ∧ decide (65536 ≤ s) = true) ∨ (decide (s < 0) = false ∧ decide (65536 ≤ s) = false ∧ decide (q < 0) = true) ∨ (decide (s < 0) = false ∧ decide (65536 ≤ s) = false ∧ decide (q < 0) = false ∧ decide (65536 ≤ q) = true) := by
    simp only [decide_eq_true_eq, decide_eq_false_iff_not]
    omega
  clear hb
  rcases hs with h1 | ⟨h1, h2⟩ | ⟨h1, h2, h3⟩ | ⟨h1, h2, h3, h4⟩
  all_goals
    go_enter Try.func26, Try.ntmps26
    go_wp2_with fail
    refine (HC.out _ ?_).mono ?_
    · repeat (first | exact Ext.refl _ | apply Ext.alloc)
    rintro e w1 ⟨a, c, he, he1, ho⟩
    rw [HN.out] at he ho
    subst he
    have b0 : w1.cell? ⟨w.heap.size + 1, 0, none⟩ = some (.int .i64 s) := he1.cell (cell_keep _ _ (cell_at _ _ _ _ 0 _ (by simp) rfl))
    have z1 : w.heap.size + 3 ≤ w1.heap.size := by have := he1.size; simpa using this
    have y1 : w.heap.size + 1 < w1.heap.size := by omega
    have y2 : w.heap.size + 1 + 1 < w1.heap.size := by omega
    have b2 : w1.cell? ⟨w.heap.size + 1 + 1, 0, none⟩ = some (.slice none 0 0) := he1.cell (cell_at _ _ _ _ 0 _ (by simp) rfl)
    have f2 : w1.frozen? ⟨w.heap.size + 1 + 1, 0, none⟩ = false := (he1.frozen (by simp)).trans (frozen_at _ _ _ _ 0 (by simp))
    have R1 := HEND2.out _ _ _ _ ho
    clear ho
    go_wp2_with fail
    refine bodyPost_ret (v := .tuple #[.agg #[.slice a n c], .bool false]) (by simp [results, Try.results26, go_sem, y2, b2]) rfl ?_
    refine HEND.out _ _ a c rfl ?_ ?_
    · refine Ext.alloc (Ext.setCell (Ext.trans ?_ he1) (by simp only; omega) _) _
      repeat (first | exact Ext.refl _ | apply Ext.alloc)
    · exact ((R1.agree (agree_setCell (by simp) _)).weak (by omega) (fun k _ h => by have : k < w.heap.size := h; simp; omega)).ext ((Ext.refl _).alloc _)

theorem own_some {w : World} {base n c : Nat} {a : Option Addr} {F : List Value} {e : TypeId} {k : Nat} (h : w.ownsRow base e k (.slice a n c) n F) (hn : 0 < n) : ∃ g, a = some ⟨g, 0, none⟩ ∧ base ≤ g ∧ g < w.heap.size := by
  rcases h.2 with ⟨hv, hn0⟩ | ⟨g, cap, cur, hv, hb, hh, _⟩
  · omega
  · simp only [Value.slice.injEq] at hv
    exact ⟨g, hv.1, hb, (Array.getElem?_eq_some_iff.1 hh).1⟩
theorem grown_setCell (w : World) (p : Addr) (u : Value) : w.grownBy (w.setCell p u) (some p.block) :=
  ⟨rfl, rfl, rfl, by simp, fun k _ hk => heap_setCell_other w p k u (fun e => hk (by simp [e]))⟩
theorem own_setCell {w : World} {base n c g : Nat} {F : List Value} {e : TypeId} {k : Nat} (h : w.ownsRow base e k (.slice (some ⟨g, 0, none⟩) n c) n F) (p : Addr) (u : Value) (hp : p.block ≠ g) : (w.setCell p u).ownsRow base e k (.slice (some ⟨g, 0, none⟩) n c) n F :=
  h.kept (grown_setCell w p u) (.inr (fun e => by simp only [Value.ownBlock, Option.some.injEq] at e; exact hp e.symm))
theorem set3 (l : List Src3) (i : Nat) (hi : i < l.length) (y : Src3) : (((l.flatMap srcE).set (i * 3) (.int .i64 y.1)).set (i * 3 + 1) (.int .i64 y.2.1)).set (i * 3 + 2) (.int .u64 ((y.2.2 : Nat) : Int)) = (l.set i y).flatMap srcE := by
  induction l generalizing i with
  | nil => simp at hi
  | cons x l ih =>
    cases i with
    | zero => rfl
    | succ i =>
      have := ih i (by simpa using hi)
      rw [List.set_cons_succ, List.flatMap_cons, List.flatMap_cons, ← this]
      rw [show (i + 1) * 3 = i * 3 + 3 by omega]
      rfl
theorem accS_found {l : List Src3} {s q : Int} {i : Nat} {x : Src3} (h : 0 ≤ s ∧ s ≤ 65535 ∧ 0 ≤ q ∧ q ≤ 65535) (hf : l.findIdx? (fun x => decide (x.1 = s)) = some i) (hx : l[i]? = some x) : accT l s q = (l.set i (takeT x q).1, (takeT x q).2) := by
  unfold accT
  rw [if_neg (by omega), hf]
  simp only [List.getD, hx, Option.getD_some]
theorem accS_new {l : List Src3} {s q : Int} (h : 0 ≤ s ∧ s ≤ 65535 ∧ 0 ≤ q ∧ q ≤ 65535) (hf : l.findIdx? (fun x => decide (x.1 = s)) = none) (i : Nat) (hi : (l.findIdx? (fun x => decide (s < x.1))).getD l.length = i) : accT l s q = (l.take i ++ (s, q, 1) :: l.drop i, true) := by
  unfold accT
  rw [if_neg (by omega), hf]
  simp only [hi]

set_option maxRecDepth 100000 in
set_option maxHeartbeats 4000000 in
theorem acceptP_found (l : List Src3) (v : Value) (s q : Int) (w : World) (h : RF Any 3 srcE w v l) (hl : l.length ≤ 100000000) (hr : 0 ≤ s ∧ s ≤ 65535 ∧ 0 ≤ q ∧ q ≤ 65535) (i : Nat) (x : Src3) (hf : l.findIdx? (fun x => decide (x.1 = s)) = some i) (hx : l[i]? = some x) (hwf : WfX x) :
    Calls Try.prog 26 #[.agg #[v], .int .i64 s, .int .i64 q] w (RetSt w (l.set i (takeT x q).1, (takeT x q).2)) := by
  obtain ⟨va, vc, rfl, _, _⟩ := h.form
  have HC := Lib.hid (fun w1 (he : Ext w w1) => cloneSrc_any l _ w1 (h.ext he) (by omega))
  have HI := Lib.hid (fun w1 a c p (h1 : RF Any 3 srcE w1 (.slice a l.length c) l) h2 => idx_accept1 l s p _ w1 h1 h2 (by omega))
  rw [show idxI (fun x : Src3 => decide (x.1 = s)) l = (i : Int) by unfold idxI; rw [hf]] at HI
  have HT := Lib.hid (fun w1 => takeT_any x q w1 hwf hr.2.2.1 hr.2.2.2)
  have hin := get_lt hx
  have HX := Lib.hid hx
  have HS3 := Lib.hid (set3 l i hin (takeT x q).1)
  have hto := takeS_of x q
  generalize takeT x q = T at *
  obtain ⟨⟨yo, yt, yu⟩, yb⟩ := T
  obtain ⟨xo, xt, xu⟩ := x
  simp only [srcE] at hto HT HS3
  have hto' : xo = yo := hto.symm
  subst hto'
  clear hto
  have HEND : Hid (∀ (w1 : World) e a c, e = .returned (.tuple #[.agg #[.slice a l.length c], .bool yb]) → Ext w w1 → RF (Old w) 3 srcE w1 (.slice a l.length c) (l.set i (xo, yt, yu)) → RetSt w (l.set i (xo, yt, yu), yb) e w1) := fun w1 e a c h1 h2 h3 => ⟨a, c, by rw [h1]; simp, h2, by simpa using h3⟩
  have HROW : Hid (∀ (w1 : World) b a c, w.heap.size ≤ b → w1.ownsRow b 112 3 (.slice a l.length c) l.length ((l.set i (xo, yt, yu)).flatMap srcE) → RF (Old w) 3 srcE w1 (.slice a l.length c) (l.set i (xo, yt, yu))) := fun w1 b a c hb ho => by
    have h1 : (l.set i (xo, yt, yu)).length = l.length := by simp
    rw [← h1] at ho ⊢
    exact RF.of_own srcE_len ho (fun k h => by have : k < w.heap.size := h; omega)
  have HRF : Hid (∀ (w1 : World) b a c, w1.ownsRow b 112 3 (.slice a l.length c) l.length (l.flatMap srcE) → RF Any 3 srcE w1 (.slice a l.length c) l) := fun w1 b a c ho => RF.of_own srcE_len ho (fun _ h => h.elim)
  have HCELL : Hid (∀ (w1 : World) b g c, w1.ownsRow b 112 3 (.slice (some ⟨g, 0, none⟩) l.length c) l.length (l.flatMap srcE) → w1.cell? ⟨g, i * 3, none⟩ = some (.int .i64 xo) ∧ w1.cell? ⟨g, i * 3 + 1, none⟩ = some (.int .i64 xt) ∧ w1.cell? ⟨g, i * 3 + 2, none⟩ = some (.int .u64 ((xu : Nat) : Int))) := fun w1 b g c ho => by
    obtain ⟨b', off, c', hv, g0, g1, g2⟩ := src_get (RF.of_own (V := Any) srcE_len ho (fun _ h => h.elim)) HX.out
    simp only [Value.slice.injEq, Option.some.injEq, Addr.mk.injEq, and_true] at hv
    obtain ⟨⟨rfl, rfl⟩, -, rfl⟩ := hv
    rw [Nat.zero_add] at g0 g1 g2
    exact ⟨g0, g1, g2⟩
  clear h hf hx hwf
  generalize hF : l.flatMap srcE = F at *
  have HFE := Lib.hid hF
  clear hF
  generalize (l.set i (xo, yt, yu)).flatMap srcE = F2 at *
  generalize hn : l.length = n at *
  have HN := Lib.hid hn
  clear hn
  obtain ⟨hr1, hr2, hr3, hr4⟩ := hr
  have d1 : decide (s < 0) = false := by simpa using hr1
  have d2 : decide (65536 ≤ s) = false := by simp only [decide_eq_false_iff_not]; omega
  have d3 : decide (q < 0) = false := by simpa using hr3
  have d4 : decide (65536 ≤ q) = false := by simp only [decide_eq_false_iff_not]; omega
  clear hr1 hr2 hr3 hr4
  have hii : (i : Int) < n := by omega
  go_enter Try.func26, Try.ntmps26
  go_wp2_with fail
  refine (HC.out _ ?_).mono ?_
  · repeat (first | exact Ext.refl _ | apply Ext.alloc)
  rintro e w1 ⟨a, c, he, he1, ho⟩
  rw [HN.out] at he ho
  rw [HFE.out] at ho
  subst he
  obtain ⟨g, rfl, hg1, hg2⟩ := own_some ho (by omega)
  have hg3 : w.heap.size + 3 ≤ g := by simpa using hg1
  have z1 : w.heap.size + 3 ≤ w1.heap.size := by omega
  have X1 : Ext w w1 := by
    refine Ext.trans ?_ he1
    repeat (first | exact Ext.refl _ | apply Ext.alloc)
  have y1 : w.heap.size + 1 < w1.heap.size := by omega
  have y2 : w.heap.size + 1 + 1 < w1.heap.size := by omega
  have b0 : w1.cell? ⟨w.heap.size + 1, 0, none⟩ = some (.int .i64 s) := he1.cell (cell_keep _ _ (cell_at _ _ _ _ 0 _ (by simp) rfl))
  have b2 : w1.cell? ⟨w.heap.size + 1 + 1, 0, none⟩ = some (.slice none 0 0) := he1.cell (cell_at _ _ _ _ 0 _ (by simp) rfl)
  have f2 : w1.frozen? ⟨w.heap.size + 1 + 1, 0, none⟩ = false := (he1.frozen (by simp)).trans (frozen_at _ _ _ _ 0 (by simp))
  have HO := Lib.hid ho
  have hb0 : w.heap.size ≤ (((w.alloc (.cells #[.slice va n vc] 38)).alloc (.cells #[.int .i64 s] 3)).alloc (.cells #[.slice none 0 0] 38)).heap.size := by simp; omega
  generalize (((w.alloc (.cells #[.slice va n vc] 38)).alloc (.cells #[.int .i64 s] 3)).alloc (.cells #[.slice none 0 0] 38)).heap.size = base at *
  have KEEP : Hid (∀ w', Ext (w1.alloc (.cells #[.slice (some ⟨g, 0, none⟩) n c] 38)) w' → w'.cell? ⟨w1.heap.size, 0, none⟩ = some (.slice (some ⟨g, 0, none⟩) n c) ∧ w'.cell? ⟨w.heap.size + 1 + 1, 0, none⟩ = some (.slice none 0 0) ∧ w'.frozen? ⟨w.heap.size + 1 + 1, 0, none⟩ = false ∧ w1.heap.size + 1 ≤ w'.heap.size ∧ w'.ownsRow base 112 3 (.slice (some ⟨g, 0, none⟩) n c) n F) := fun w' h' =>
    ⟨h'.cell (cell_at _ _ _ _ 0 _ rfl rfl), h'.cell (cell_keep _ _ b2), (h'.frozen (by simp; omega)).trans ((((Ext.refl w1).alloc _).frozen y2).trans f2), by simpa using h'.size, own_ext (own_ext HO.out ((Ext.refl w1).alloc _)) h'⟩
  clear ho he1
  go_wp2_with fail
  refine (HI.out _ _ _ _ (HRF.out _ base _ _ (own_ext HO.out ((Ext.refl w1).alloc _))) (cell_keep _ _ b0)).mono ?_
  rintro e w3 ⟨rfl, he3⟩
  obtain ⟨k1, k2, k3, k4, k5⟩ := KEEP.out _ he3
  obtain ⟨g0, g1', g2'⟩ := HCELL.out _ _ _ _ k5
  clear k5
  go_wp2_with fail
  refine (HT.out _).mono ?_
  rintro e w4 ⟨rfl, he4⟩
  have he24 := he3.trans he4
  clear k1 k2 k3 k4 g0 g1' g2'
  obtain ⟨k1, k2, k3, k4, k5⟩ := KEEP.out _ he24
  obtain ⟨g0, g1', g2'⟩ := HCELL.out _ _ _ _ k5
  have fr0 := k5.frozenAt (i * 3)
  have fr1 := k5.frozenAt (i * 3 + 1)
  have fr2 := k5.frozenAt (i * 3 + 2)
  have HK5 := Lib.hid k5
  clear k5
  have l1 : g < w4.heap.size := by omega
  have l2 : w1.heap.size < w4.heap.size := by omega
  have l3 : w.heap.size + 1 + 1 < w4.heap.size := by omega
  have n1 : ¬ (g = w1.heap.size) := by omega
  have n2 : ¬ (w1.heap.size = g) := by omega
  have n3 : ¬ (g = w.heap.size + 1 + 1) := by omega
  have n4 : ¬ (w.heap.size + 1 + 1 = g) := by omega
  have n5 : ¬ (w1.heap.size = w.heap.size + 1 + 1) := by omega
  have n6 : ¬ (w.heap.size + 1 + 1 = w1.heap.size) := by omega
  go_wp2_with fail
  have l4 : w.heap.size + 1 + 1 ≠ g := by omega
  refine bodyPost_ret (v := .tuple #[.agg #[.slice (some ⟨g, 0, none⟩) n c], .bool yb]) (by simp [results, Try.results26, go_sem, l3, k2]) rfl ?_
  refine HEND.out _ _ _ c rfl ?_ ?_
  · refine Ext.alloc (Ext.setCell (Ext.setCell (Ext.setCell (Ext.setCell (Ext.trans X1 (((Ext.refl w1).alloc _).trans he24)) ?_ _) ?_ _) ?_ _) ?_ _) _
    all_goals (simp only; omega)
  · have o1 := ((((HK5.out.stored (i * 3) (.int .i64 xo)).1.stored (i * 3 + 1) (.int .i64 yt)).1.stored (i * 3 + 2) (.int .u64 ((yu : Nat) : Int))).1)
    rw [HS3.out] at o1
    exact HROW.out _ base _ _ hb0 ((own_setCell o1 _ _ l4).alloc _)

set_option maxRecDepth 100000 in
set_option maxHeartbeats 4000000 in
theorem acceptP_new (l : List Src3) (v : Value) (s q : Int) (w : World) (h : RF Any 3 srcE w v l) (hl : l.length ≤ 100000000) (hr : 0 ≤ s ∧ s ≤ 65535 ∧ 0 ≤ q ∧ q ≤ 65535) (hf : l.findIdx? (fun x => decide (x.1 = s)) = none) (i : Nat) (hi : (l.findIdx? (fun x => decide (s < x.1))).getD l.length = i) :
    Calls Try.prog 26 #[.agg #[v], .int .i64 s, .int .i64 q] w (RetSt w (l.take i ++ (s, q, 1) :: l.drop i, true)) := by
  obtain ⟨va, vc, rfl, _, _⟩ := h.form
  have HC := Lib.hid (fun w1 (he : Ext w w1) => cloneSrc_any l _ w1 (h.ext he) (by omega))
  have HI := Lib.hid (fun w1 a c p (h1 : RF Any 3 srcE w1 (.slice a l.length c) l) h2 => idx_accept1 l s p _ w1 h1 h2 (by omega))
  rw [show idxI (fun x : Src3 => decide (x.1 = s)) l = -1 by unfold idxI; rw [hf]] at HI
  have HJ := Lib.hid (fun w1 a c p (h1 : RF Any 3 srcE w1 (.slice a l.length c) l) h2 => idx_accept2 l s p _ w1 h1 h2 (by omega))
  have hj : (idxI (fun x : Src3 => decide (s < x.1)) l = i ∧ i < l.length) ∨ (idxI (fun x : Src3 => decide (s < x.1)) l = -1 ∧ i = l.length) := by
    unfold idxI
    cases hc : l.findIdx? (fun x => decide (s < x.1)) with
    | none => rw [hc] at hi; exact .inr ⟨rfl, hi.symm⟩
    | some j =>
      rw [hc] at hi
      obtain ⟨hj, _⟩ := List.findIdx?_eq_some_iff_getElem.1 hc
      simp only [Option.getD_some] at hi
      subst hi
      exact .inl ⟨rfl, hj⟩
  have hil : i ≤ l.length := by omega
  have HINS := Lib.hid (fun (w1 : World) a c b nb h1 (h2 : w1.heap[nb]? = some (.cells #[.int .i64 s, .int .i64 q, .int .u64 1] 112 (0, 0))) h3 h4 => insert_any l (s, q, 1) i hil (by omega) b (.slice a l.length c) w1 h1 nb h2 h3 h4)
  have HLEN := Lib.hid (show (l.take i ++ (s, q, 1) :: l.drop i).length = l.length + 1 by rw [List.length_append, List.length_cons, List.length_take, List.length_drop]; omega)
  generalize l.take i ++ (s, q, 1) :: l.drop i = L at *
  have HEND : Hid (∀ (w1 : World) b e a c, w.heap.size ≤ b → e = .returned (.tuple #[.agg #[.slice a (l.length + 1) c], .bool true]) → Ext w w1 → w1.ownsRow b 112 3 (.slice a (l.length + 1) c) (l.length + 1) (L.flatMap srcE) → RetSt w (L, true) e w1) := fun w1 b e a c hb h1 h2 h3 => ⟨a, c, by rw [h1, HLEN.out], h2, RF.of_own srcE_len (by rw [HLEN.out]; exact h3) (fun k h => by have : k < w.heap.size := h; omega)⟩
  have HRF : Hid (∀ (w1 : World) b a c, w1.ownsRow b 112 3 (.slice a l.length c) l.length (l.flatMap srcE) → RF Any 3 srcE w1 (.slice a l.length c) l) := fun w1 b a c ho => RF.of_own srcE_len ho (fun _ h => h.elim)
  clear h hf hi
  generalize hF : l.flatMap srcE = F at *
  have HFE := Lib.hid hF
  clear hF
  generalize L.flatMap srcE = F2 at *
  generalize idxI (fun x : Src3 => decide (s < x.1)) l = jj at *
  generalize hn : l.length = n at *
  have HN := Lib.hid hn
  clear hn
  obtain ⟨hr1, hr2, hr3, hr4⟩ := hr
  have d1 : decide (s < 0) = false := by simpa using hr1
  have d2 : decide (65536 ≤ s) = false := by simp only [decide_eq_false_iff_not]; omega
  have d3 : decide (q < 0) = false := by simpa using hr3
  have d4 : decide (65536 ≤ q) = false := by simp only [decide_eq_false_iff_not]; omega
  clear hr1 hr2 hr3 hr4
  rcases hj with ⟨hj, hj2⟩ | ⟨hj, hj2⟩
  · rw [hj] at HJ
    clear hj
    have hii : (i : Int) < n := by omega
    go_enter Try.func26, Try.ntmps26
    go_wp2_with fail
    refine (HC.out _ ?_).mono ?_
    · repeat (first | exact Ext.refl _ | apply Ext.alloc)
    rintro e w1 ⟨a, c, he, he1, ho⟩
    rw [HN.out] at he ho
    rw [HFE.out] at ho
    subst he
    have z1 : w.heap.size + 3 ≤ w1.heap.size := by have := he1.size; simpa using this
    have X1 : Ext w w1 := by
      refine Ext.trans ?_ he1
      repeat (first | exact Ext.refl _ | apply Ext.alloc)
    have y1 : w.heap.size + 1 < w1.heap.size := by omega
    have y2 : w.heap.size + 1 + 1 < w1.heap.size := by omega
    have b0 : w1.cell? ⟨w.heap.size + 1, 0, none⟩ = some (.int .i64 s) := he1.cell (cell_keep _ _ (cell_at _ _ _ _ 0 _ (by simp) rfl))
    have b2 : w1.cell? ⟨w.heap.size + 1 + 1, 0, none⟩ = some (.slice none 0 0) := he1.cell (cell_at _ _ _ _ 0 _ (by simp) rfl)
    have f2 : w1.frozen? ⟨w.heap.size + 1 + 1, 0, none⟩ = false := (he1.frozen (by simp)).trans (frozen_at _ _ _ _ 0 (by simp))
    have hbase : (((w.alloc (.cells #[.slice va n vc] 38)).alloc (.cells #[.int .i64 s] 3)).alloc (.cells #[.slice none 0 0] 38)).heap.size = w.heap.size + 3 := by simp
    rw [hbase] at ho
    have HO := Lib.hid ho
    clear hbase ho
    have KEEP : Hid (∀ w', Ext (w1.alloc (.cells #[.slice a n c] 38)) w' → w'.cell? ⟨w1.heap.size, 0, none⟩ = some (.slice a n c) ∧ w'.frozen? ⟨w1.heap.size, 0, none⟩ = false ∧ w'.cell? ⟨w.heap.size + 1 + 1, 0, none⟩ = some (.slice none 0 0) ∧ w'.frozen? ⟨w.heap.size + 1 + 1, 0, none⟩ = false ∧ w'.cell? ⟨w.heap.size + 1, 0, none⟩ = some (.int .i64 s) ∧ w1.heap.size + 1 ≤ w'.heap.size ∧ w'.ownsRow (w.heap.size + 3) 112 3 (.slice a n c) n F) := fun w' h' => ⟨h'.cell (cell_at _ _ _ _ 0 _ rfl rfl), (h'.frozen (by simp)).trans (frozen_at _ _ _ _ 0 rfl), h'.cell (cell_keep _ _ b2), (h'.frozen (by simp; omega)).trans ((((Ext.refl w1).alloc _).frozen y2).trans f2), h'.cell (cell_keep _ _ b0), by simpa using h'.size, own_ext (own_ext HO.out ((Ext.refl w1).alloc _)) h'⟩
    clear he1
    go_wp2_with fail
    refine (HI.out _ _ _ _ (HRF.out _ (w.heap.size + 3) _ _ (own_ext HO.out ((Ext.refl w1).alloc _))) (cell_keep _ _ b0)).mono ?_
    rintro e w3 ⟨rfl, he3⟩
    obtain ⟨k1, k1f, k2, k3, k4, k5, k6⟩ := KEEP.out _ he3
    have R3 := Lib.hid (HRF.out _ _ _ _ k6)
    clear k6
    go_wp2_with fail
    refine (HJ.out _ _ _ _ R3.out k4).mono ?_
    rintro e w4 ⟨rfl, he4⟩
    have he24 := he3.trans he4
    clear k1 k1f k2 k3 k4 k5
    obtain ⟨k1, k1f, k2, k3, k4, k5, k6⟩ := KEEP.out _ he24
    have HK6 := Lib.hid k6
    clear k6
    go_wp2_with fail
    refine (HINS.out _ a c (w.heap.size + 3) _ (HK6.out.alloc _) (heap_alloc_new w4 _) ?_ ?_).mono ?_
    · intro e
      have := (HK6.out.lt _ e).2
      omega
    · simp; omega
    rintro e w5 ⟨a5, c5, rfl, ho5, hg5⟩
    have hb5 : ∀ k, k < w4.heap.size + 1 → some k ≠ (Value.slice a n c).ownBlock → w5.heap[k]? = (w4.alloc (.cells #[.int .i64 s, .int .i64 q, .int .u64 1] 112)).heap[k]? := fun k h1 h2 => hg5.block k (by simpa using h1) h2
    have hob : ∀ k, (Value.slice a n c).ownBlock = some k → w.heap.size + 3 ≤ k ∧ k < w1.heap.size := fun k hk => by
      have := HO.out.lt k hk
      exact this
    have m1 : w5.cell? ⟨w1.heap.size, 0, none⟩ = some (.slice a n c) := (World.cell?_of_block (hb5 _ (by simp only; omega) (fun e => by have := hob _ e.symm; simp only at this; omega))).trans (cell_keep _ _ k1)
    have m1f : w5.frozen? ⟨w1.heap.size, 0, none⟩ = false := (World.frozen?_of_block (hb5 _ (by simp only; omega) (fun e => by have := hob _ e.symm; simp only at this; omega))).trans ((((Ext.refl w4).alloc _).frozen (by simp only; omega)).trans k1f)
    have m2 : w5.cell? ⟨w.heap.size + 1 + 1, 0, none⟩ = some (.slice none 0 0) := (World.cell?_of_block (hb5 _ (by simp only; omega) (fun e => by have := hob _ e.symm; simp only at this; omega))).trans (cell_keep _ _ k2)
    have m2f : w5.frozen? ⟨w.heap.size + 1 + 1, 0, none⟩ = false := (World.frozen?_of_block (hb5 _ (by simp only; omega) (fun e => by have := hob _ e.symm; simp only at this; omega))).trans ((((Ext.refl w4).alloc _).frozen (by simp only; omega)).trans k3)
    have X5 : Ext w w5 := Ext.grown ((X1.trans (((Ext.refl w1).alloc _).trans he24)).alloc _) hg5 (fun k hk => by have := hob k hk; omega)
    have hB8 : w5.heap[w1.heap.size]? = some (.cells #[.slice a n c] 38 (0, 0)) := (hb5 _ (by omega) (fun e => by have := hob _ e.symm; omega)).trans ((Below.block ((Ext.refl w4).alloc _) _ (by omega)).trans ((Below.block he24 _ (by simp)).trans (heap_alloc_new w1 _)))
    obtain ⟨g5, rfl, hg51, hg52⟩ := own_some ho5 (by omega)
    have hg53 : g5 ≠ w1.heap.size := fun e => by
      rcases ho5.2 with ⟨hv, _⟩ | ⟨g, cap, cur, hv, _, hh, _⟩
      · cases hv
      · simp only [Value.slice.injEq, Option.some.injEq, Addr.mk.injEq] at hv
        rw [← hv.1.1, e, hB8] at hh
        injection hh with hh
        injection hh with _ hh
        exact absurd hh (by decide)
    have HO5 := Lib.hid ho5
    have l8 : w1.heap.size < w5.heap.size := (Array.getElem?_eq_some_iff.1 hB8).1
    clear hB8
    clear ho5 hg5 hb5 k1 k1f k2 k3 k4
    have n5 : ¬ (w1.heap.size = w.heap.size + 1 + 1) := by omega
    have n6 : ¬ (w.heap.size + 1 + 1 = w1.heap.size) := by omega
    go_wp2_with fail
    refine bodyPost_ret (v := .tuple #[.agg #[.slice (some ⟨g5, 0, none⟩) (n + 1) c5], .bool true]) (by simp [results, Try.results26, go_sem, m2]) rfl ?_
    refine HEND.out _ (w.heap.size + 3) _ _ c5 (by omega) rfl ?_ ?_
    · exact Ext.setCell (Ext.setCell X5 (by simp only; omega) _) (by simp only; omega) _
    · exact own_setCell (own_setCell HO5.out _ _ (fun e => hg53 e.symm)) _ _ (by simp only; omega)
  · rw [hj] at HJ
    clear hj
    subst hj2
    go_enter Try.func26, Try.ntmps26
    go_wp2_with fail
    refine (HC.out _ ?_).mono ?_
    · repeat (first | exact Ext.refl _ | apply Ext.alloc)
    rintro e w1 ⟨a, c, he, he1, ho⟩
    rw [HN.out] at he ho
    rw [HFE.out] at ho
    subst he
    have z1 : w.heap.size + 3 ≤ w1.heap.size := by have := he1.size; simpa using this
    have X1 : Ext w w1 := by
      refine Ext.trans ?_ he1
      repeat (first | exact Ext.refl _ | apply Ext.alloc)
    have y1 : w.heap.size + 1 < w1.heap.size := by omega
    have y2 : w.heap.size + 1 + 1 < w1.heap.size := by omega
    have b0 : w1.cell? ⟨w.heap.size + 1, 0, none⟩ = some (.int .i64 s) := he1.cell (cell_keep _ _ (cell_at _ _ _ _ 0 _ (by simp) rfl))
    have b2 : w1.cell? ⟨w.heap.size + 1 + 1, 0, none⟩ = some (.slice none 0 0) := he1.cell (cell_at _ _ _ _ 0 _ (by simp) rfl)
    have f2 : w1.frozen? ⟨w.heap.size + 1 + 1, 0, none⟩ = false := (he1.frozen (by simp)).trans (frozen_at _ _ _ _ 0 (by simp))
    have hbase : (((w.alloc (.cells #[.slice va i vc] 38)).alloc (.cells #[.int .i64 s] 3)).alloc (.cells #[.slice none 0 0] 38)).heap.size = w.heap.size + 3 := by simp
    rw [hbase] at ho
    have HO := Lib.hid ho
    clear hbase ho
    have KEEP : Hid (∀ w', Ext (w1.alloc (.cells #[.slice a i c] 38)) w' → w'.cell? ⟨w1.heap.size, 0, none⟩ = some (.slice a i c) ∧ w'.frozen? ⟨w1.heap.size, 0, none⟩ = false ∧ w'.cell? ⟨w.heap.size + 1 + 1, 0, none⟩ = some (.slice none 0 0) ∧ w'.frozen? ⟨w.heap.size + 1 + 1, 0, none⟩ = false ∧ w'.cell? ⟨w.heap.size + 1, 0, none⟩ = some (.int .i64 s) ∧ w1.heap.size + 1 ≤ w'.heap.size ∧ w'.ownsRow (w.heap.size + 3) 112 3 (.slice a i c) i F) := fun w' h' => ⟨h'.cell (cell_at _ _ _ _ 0 _ rfl rfl), (h'.frozen (by simp)).trans (frozen_at _ _ _ _ 0 rfl), h'.cell (cell_keep _ _ b2), (h'.frozen (by simp; omega)).trans ((((Ext.refl w1).alloc _).frozen y2).trans f2), h'.cell (cell_keep _ _ b0), by simpa using h'.size, own_ext (own_ext HO.out ((Ext.refl w1).alloc _)) h'⟩
    clear he1
    go_wp2_with fail
    refine (HI.out _ _ _ _ (HRF.out _ (w.heap.size + 3) _ _ (own_ext HO.out ((Ext.refl w1).alloc _))) (cell_keep _ _ b0)).mono ?_
    rintro e w3 ⟨rfl, he3⟩
    obtain ⟨k1, k1f, k2, k3, k4, k5, k6⟩ := KEEP.out _ he3
    have R3 := Lib.hid (HRF.out _ _ _ _ k6)
    clear k6
    go_wp2_with fail
    refine (HJ.out _ _ _ _ R3.out k4).mono ?_
    rintro e w4 ⟨rfl, he4⟩
    have he24 := he3.trans he4
    clear k1 k1f k2 k3 k4 k5
    obtain ⟨k1, k1f, k2, k3, k4, k5, k6⟩ := KEEP.out _ he24
    have HK6 := Lib.hid k6
    clear k6
    go_wp2_with fail
    refine (HINS.out _ a c (w.heap.size + 3) _ (HK6.out.alloc _) (heap_alloc_new w4 _) ?_ ?_).mono ?_
    · intro e
      have := (HK6.out.lt _ e).2
      omega
    · simp; omega
    rintro e w5 ⟨a5, c5, rfl, ho5, hg5⟩
    have hb5 : ∀ k, k < w4.heap.size + 1 → some k ≠ (Value.slice a i c).ownBlock → w5.heap[k]? = (w4.alloc (.cells #[.int .i64 s, .int .i64 q, .int .u64 1] 112)).heap[k]? := fun k h1 h2 => hg5.block k (by simpa using h1) h2
    have hob : ∀ k, (Value.slice a i c).ownBlock = some k → w.heap.size + 3 ≤ k ∧ k < w1.heap.size := fun k hk => by
      have := HO.out.lt k hk
      exact this
    have m1 : w5.cell? ⟨w1.heap.size, 0, none⟩ = some (.slice a i c) := (World.cell?_of_block (hb5 _ (by simp only; omega) (fun e => by have := hob _ e.symm; simp only at this; omega))).trans (cell_keep _ _ k1)
    have m1f : w5.frozen? ⟨w1.heap.size, 0, none⟩ = false := (World.frozen?_of_block (hb5 _ (by simp only; omega) (fun e => by have := hob _ e.symm; simp only at this; omega))).trans ((((Ext.refl w4).alloc _).frozen (by simp only; omega)).trans k1f)
    have m2 : w5.cell? ⟨w.heap.size + 1 + 1, 0, none⟩ = some (.slice none 0 0) := (World.cell?_of_block (hb5 _ (by simp only; omega) (fun e => by have := hob _ e.symm; simp only at this; omega))).trans (cell_keep _ _ k2)
    have m2f : w5.frozen? ⟨w.heap.size + 1 + 1, 0, none⟩ = false := (World.frozen?_of_block (hb5 _ (by simp only; omega) (fun e => by have := hob _ e.symm; simp only at this; omega))).trans ((((Ext.refl w4).alloc _).frozen (by simp only; omega)).trans k3)
    have X5 : Ext w w5 := Ext.grown ((X1.trans (((Ext.refl w1).alloc _).trans he24)).alloc _) hg5 (fun k hk => by have := hob k hk; omega)
    have hB8 : w5.heap[w1.heap.size]? = some (.cells #[.slice a i c] 38 (0, 0)) := (hb5 _ (by omega) (fun e => by have := hob _ e.symm; omega)).trans ((Below.block ((Ext.refl w4).alloc _) _ (by omega)).trans ((Below.block he24 _ (by simp)).trans (heap_alloc_new w1 _)))
    obtain ⟨g5, rfl, hg51, hg52⟩ := own_some ho5 (by omega)
    have hg53 : g5 ≠ w1.heap.size := fun e => by
      rcases ho5.2 with ⟨hv, _⟩ | ⟨g, cap, cur, hv, _, hh, _⟩
      · cases hv
      · simp only [Value.slice.injEq, Option.some.injEq, Addr.mk.injEq] at hv
        rw [← hv.1.1, e, hB8] at hh
        injection hh with hh
        injection hh with _ hh
        exact absurd hh (by decide)
    have HO5 := Lib.hid ho5
    have l8 : w1.heap.size < w5.heap.size := (Array.getElem?_eq_some_iff.1 hB8).1
    clear hB8
    clear ho5 hg5 hb5 k1 k1f k2 k3 k4
    have n5 : ¬ (w1.heap.size = w.heap.size + 1 + 1) := by omega
    have n6 : ¬ (w.heap.size + 1 + 1 = w1.heap.size) := by omega
    go_wp2_with fail
    refine bodyPost_ret (v := .tuple #[.agg #[.slice (some ⟨g5, 0, none⟩) (i + 1) c5], .bool true]) (by simp [results, Try.results26, go_sem, m2]) rfl ?_
    refine HEND.out _ (w.heap.size + 3) _ _ c5 (by omega) rfl ?_ ?_
    · exact Ext.setCell (Ext.setCell X5 (by simp only; omega) _) (by simp only; omega) _
    · exact own_setCell (own_setCell HO5.out _ _ (fun e => hg53 e.symm)) _ _ (by simp only; omega)

/-- Accept, whatever comes in. -/
theorem acceptP_any (l : List Src3) (v : Value) (s q : Int) (w : World) (h : RF Any 3 srcE w v l) (hl : l.length ≤ 100000000) (hwf : ∀ x ∈ l, WfX x) : Calls Try.prog 26 #[.agg #[v], .int .i64 s, .int .i64 q] w (RetSt w (accT l s q)) := by
  by_cases hb : s < 0 ∨ 65535 < s ∨ q < 0 ∨ 65535 < q
  · rw [accS_bad hb]
    exact acceptP_bad l v s q w h hl hb
  · have hr : 0 ≤ s ∧ s ≤ 65535 ∧ 0 ≤ q ∧ q ≤ 65535 := by omega
    cases hf : l.findIdx? (fun x => decide (x.1 = s)) with
    | some i =>
      obtain ⟨hi, _⟩ := List.findIdx?_eq_some_iff_getElem.1 hf
      have hx : l[i]? = some l[i] := List.getElem?_eq_getElem hi
      rw [accS_found hr hf hx]
      exact acceptP_found l v s q w h hl hr i _ hf hx (hwf _ (List.getElem_mem hi))
    | none =>
      rw [accS_new hr hf _ rfl]
      exact acceptP_new l v s q w h hl hr hf _ rfl
end Go.Proofs.Ytimnepfdpehdmaa
