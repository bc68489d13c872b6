/- The reference of layer 16: put. -/
import Derived.Test.YtdnoejdhphpieaaTwS
namespace Go.Proofs.Ytdnoejdhphpieaa
open Go.RowKit
attribute [local go_sem ↓] Go.wp_at_zero Go.wp_at_succ

theorem rl_l (w : World) (b off len cap i : Nat) (h : i ≤ len) :
    (Instr.slice 39 (.slice (some ⟨b, off, none⟩) len cap) (some (.int .i64 i)) none none).run Try.prog w = .ok (.slice (cutK b off cap i 3) (len - i) (cap - i)) w := by
  rw [run_slice_l w _ _ _ _ (by kernel_rfl) _ _ (by omega) (by omega)]
  have hs : (sizeOf (Try.prog.elem 39)).run Try.prog w = .ok 3 w := by kernel_rfl
  rw [hs]
  simp only [Result.andThen, sliced_cutK]
  rw [show (i : Int).toNat = i by omega]
theorem rl_l1 (w : World) (b off len cap i : Nat) (h : i + 1 ≤ len) :
    (Instr.slice 39 (.slice (some ⟨b, off, none⟩) len cap) (some (.int .i64 ((i : Int) + 1))) none none).run Try.prog w = .ok (.slice (cutK b off cap (i + 1) 3) (len - (i + 1)) (cap - (i + 1))) w := rl_l w b off len cap (i + 1) h
theorem rl_h (w : World) (b off len cap n : Nat) (h : n ≤ cap) :
    (Instr.slice 39 (.slice (some ⟨b, off, none⟩) len cap) none (some (.int .i64 n)) none).run Try.prog w = .ok (.slice (some ⟨b, off, none⟩) n cap) w := by
  rw [run_slice_h w _ _ _ _ (by kernel_rfl) _ _ (by omega) (by omega)]
  have hs : (sizeOf (Try.prog.elem 39)).run Try.prog w = .ok 3 w := by kernel_rfl
  rw [hs]
  simp only [Result.andThen, sliced_cutK]
  rw [show (n : Int).toNat - 0 = n by omega]
  unfold cutK
  simp
attribute [local go_sem high] rl_l rl_l1 rl_h

theorem own_litR (w : World) (B : Nat) (hB : w.heap.size = B) : (w.alloc (.cells #[] 75)).ownsRow B 75 3 (.slice (some ⟨B, 0, none⟩) 0 0) 0 [] := by
  subst hB
  exact World.ownsRow_lit w #[] 0 (Nat.le_refl _) (by unfold maxLen; omega) rfl
theorem SrcExt {w w' : World} {size : Nat} {A : Option Addr} {m : Nat} {news : List Value} (h : Src w size A m news) (he : Ext w w') : Src w' size A m news := ⟨h.len, h.none_, fun ad ha j u hu => he.cell (h.cell ad ha j u hu), h.one⟩

theorem own_base {w : World} {b b' : Nat} {e : TypeId} {k : Nat} {v : Value} {n : Nat} {F : List Value} (h : w.ownsRow b e k v n F) (hb : b' ≤ b) : w.ownsRow b' e k v n F := by
  refine ⟨h.1, ?_⟩
  rcases h.2 with hn | ⟨g, cap, cur, hv, hg, rest⟩
  · exact .inl hn
  · exact .inr ⟨g, cap, cur, hv, by omega, rest⟩

/-- It returns a state in a row of its own. -/
def RetRow (e : TypeId) (w : World) (n : Nat) (F : List Value) (en : Ending) (w' : World) : Prop := ∃ a c, en = .returned (.agg #[.slice a n c]) ∧ Ext w w' ∧ w'.ownsRow w.heap.size e 3 (.slice a n c) n F

set_option maxRecDepth 100000 in
set_option maxHeartbeats 4000000 in
theorem put16_core (l : List Src3) (x : Src3) (k : Nat) (rep : Bool) (k2 : Nat) (hk2 : k2 = if rep = true then k + 1 else k) (v : Value) (w : World) (h : RF Any 3 srcE w v l) (hk : k2 ≤ l.length) (hl : l.length ≤ 100000000) (hnil : l = [] → v = .slice none 0 0) :
    Calls Try.prog 29 #[.agg #[v], .int .i64 k, .agg #[.int .i64 x.1, .int .i64 x.2.1, .int .u64 ((x.2.2 : Nat) : Int)], .bool rep] w (RetRow 75 w (k + 1 + (l.length - k2)) ((l.take k ++ x :: l.drop k2).flatMap srcE)) := by
  obtain ⟨i0, hi0, hz0, hz1, hz2⟩ := info_parts info_rsrc
  have hkk : k ≤ l.length := by cases rep <;> simp at hk2 <;> omega
  obtain ⟨xo, xt, xs⟩ := x
  have hfl : (l.take k ++ (xo, xt, xs) :: l.drop k2).flatMap srcE = (l.take k).flatMap srcE ++ [.int .i64 xo, .int .i64 xt, .int .u64 ((xs : Nat) : Int)] ++ (l.drop k2).flatMap srcE := by simp [srcE]
  rw [hfl]
  clear hfl
  simp only
  have HO0 := Lib.hid (fun (w1 : World) (B : Nat) (hB : w1.heap.size = B) => own_litR w1 B hB)
  have H1 := Lib.hid (show ∀ u ∈ #[Value.int .i64 xo, .int .i64 xt, .int .u64 ((xs : Nat) : Int)].toList, u.oneCell' = true by simp [Value.oneCell'])
  by_cases hl0 : l = []
  · have hv := hnil hl0
    subst hl0 hv
    have hk0 : k = 0 := by simpa using hkk
    have hk20 : k2 = 0 := by simpa using hk
    subst hk0 hk20
    have hrep : rep = false := by cases rep <;> simp at hk2 ⊢
    subst hrep
    simp only [List.take_nil, List.drop_nil, List.flatMap_nil, List.length_nil, List.append_nil, List.nil_append, Nat.sub_zero, Nat.add_zero, Nat.zero_add]
    have HT := Lib.hid (fun (w1 : World) (_ : Ext w w1) => (⟨rfl, fun _ => rfl, (fun _ h => by cases h), (fun _ h => by cases h)⟩ : Src w1 3 none 0 []))
    have HD := HT
    clear h hnil hk hkk hk2
    have KEEP : Hid (∀ w', Ext (((w.alloc (.cells #[.slice none 0 0] 41)).alloc (.cells #[.int .i64 xo, .int .i64 xt, .int .u64 ((xs : Nat) : Int)] 75)).alloc (.cells #[.slice none 0 0] 41)) w' → w'.cell? ⟨w.heap.size, 0, none⟩ = some (.slice none 0 0) ∧ w'.cell? ⟨w.heap.size + 1, 0, none⟩ = some (.int .i64 xo) ∧ w'.cell? ⟨w.heap.size + 1, 1, none⟩ = some (.int .i64 xt) ∧ w'.cell? ⟨w.heap.size + 1, 2, none⟩ = some (.int .u64 ((xs : Nat) : Int)) ∧ w'.cell? ⟨w.heap.size + 1 + 1, 0, none⟩ = some (.slice none 0 0) ∧ w'.frozen? ⟨w.heap.size + 1 + 1, 0, none⟩ = false ∧ w.heap.size + 3 ≤ w'.heap.size ∧ Ext w w') := fun w' he =>
      ⟨he.cell (cell_keep _ _ (cell_keep _ _ (cell_at _ _ _ _ 0 _ rfl rfl))), he.cell (cell_keep _ _ (cell_at _ _ _ _ 0 _ (by simp) rfl)), he.cell (cell_keep _ _ (cell_at _ _ _ _ 1 _ (by simp) rfl)), he.cell (cell_keep _ _ (cell_at _ _ _ _ 2 _ (by simp) rfl)), he.cell (cell_at _ _ _ _ 0 _ (by simp) rfl), (he.frozen (by simp)).trans (frozen_at _ _ _ _ 0 (by simp)), by have := he.size; simpa using this, Ext.trans ((((Ext.refl w).alloc _).alloc _).alloc _) he⟩
    have HZ : Hid ((((w.alloc (.cells #[.slice none 0 0] 41)).alloc (.cells #[.int .i64 xo, .int .i64 xt, .int .u64 ((xs : Nat) : Int)] 75)).alloc (.cells #[.slice none 0 0] 41)).heap.size = w.heap.size + 3) := (by show _ = _; simp)
    have EG : Hid (∀ (wa wb : World) (r : Value) nn F, Ext (((w.alloc (.cells #[.slice none 0 0] 41)).alloc (.cells #[.int .i64 xo, .int .i64 xt, .int .u64 ((xs : Nat) : Int)] 75)).alloc (.cells #[.slice none 0 0] 41)) wa → wa.ownsRow (w.heap.size + 3) 75 3 r nn F → wa.grownBy wb r.ownBlock → Ext (((w.alloc (.cells #[.slice none 0 0] 41)).alloc (.cells #[.int .i64 xo, .int .i64 xt, .int .u64 ((xs : Nat) : Int)] 75)).alloc (.cells #[.slice none 0 0] 41)) wb) := fun wa wb r nn F h1 h2 h3 => h1.grown h3 (fun g hg => by rw [HZ.out]; exact (h2.lt g hg).1)
    go_enter Try.func29, Try.ntmps29
    go_wp2_with (first
      | (at_builtin; refine wpList_append_src _ rfl (.tmp 10) (.tmp 14) _ rfl (w.heap.size + 3) 75 i0 _ 3 24 Try.underlying39 hi0 hz0 hz1 hz2 rfl (by omega) _ 0 [] rfl (HO0.out _ _ (by simp)) _ 0 _ _ rfl (HT.out _ (((((Ext.refl w).alloc _).alloc _).alloc _).alloc _)) (by unfold maxLen; omega) (by omega) (by simp) ?_; intro A1 c1 w1 hown1 hg1 hat1; have E1 := Lib.hid (EG.out _ _ _ _ _ ((Ext.refl _).alloc _) (HO0.out _ _ (by simp)) hg1); obtain ⟨k1, k2', k3, k4, k5, k6, k7, k8⟩ := KEEP.out _ E1.out; simp only [Nat.zero_add, List.nil_append] at hown1 hat1; have HO1 := Lib.hid hown1; clear hown1 hg1 hat1)
      | (at_builtin; refine wpList_append_src _ rfl (.tmp 16) (.tmp 18) _ rfl (w.heap.size + 3) 75 i0 _ 3 24 Try.underlying39 hi0 hz0 hz1 hz2 rfl (by omega) _ 0 _ rfl (HO1.out.alloc _) _ 1 1 _ rfl (Src.litB w1 _ 75 3 _ rfl rfl H1.out) (by unfold maxLen; omega) (by omega) (by simp; omega) ?_; intro A2 c2 w2 hown2 hg2 hat2; have E2 := Lib.hid (EG.out _ _ _ _ _ (E1.out.alloc _) (HO1.out.alloc _) hg2); clear k1 k2' k3 k4 k5 k6 k7 k8; obtain ⟨k1, k2', k3, k4, k5, k6, k7, k8⟩ := KEEP.out _ E2.out; simp only [Nat.zero_add, List.nil_append] at hown2 hat2; have HO2 := Lib.hid hown2; clear hown2 hg2 hat2)
      | (at_builtin; refine wpList_append_src _ rfl (.tmp 23) (.tmp 27) _ rfl (w.heap.size + 3) 75 i0 _ 3 24 Try.underlying39 hi0 hz0 hz1 hz2 rfl (by omega) _ 1 _ rfl HO2.out _ 0 _ _ rfl (HD.out _ (Ext.trans ((((Ext.refl w).alloc _).alloc _).alloc _) E2.out)) (by unfold maxLen; omega) (by omega) k7 ?_; intro A3 c3 w3 hown3 hg3 hat3; have E3 := Lib.hid (EG.out _ _ _ _ _ E2.out HO2.out hg3); clear k1 k2' k3 k4 k5 k6 k7 k8; obtain ⟨k1, k2', k3, k4, k5, k6, k7, k8⟩ := KEEP.out _ E3.out; have HO3 := Lib.hid hown3; clear hown3 hg3 hat3))
    obtain ⟨g3, rfl, hg31, _⟩ := own_some HO3.out (by omega)
    refine bodyPost_ret (v := .agg #[.slice (some ⟨g3, 0, none⟩) (1 + 0) c3]) (by simp [results, Try.results29, go_sem, k5]) rfl ⟨_, c3, rfl, k8.setCell (by simp only; omega) _, ?_⟩
    exact own_base (b := w.heap.size + 3) (own_setCell HO3.out ⟨w.heap.size + 1 + 1, 0, none⟩ _ (show w.heap.size + 1 + 1 ≠ g3 by omega)) (by omega)
  · obtain ⟨y, r, hyr⟩ : ∃ y r, l = y :: r := by
      cases l with
      | nil => exact absurd rfl hl0
      | cons y r => exact ⟨y, r, rfl⟩
    obtain ⟨vb, vo, vc, rfl, hvc, _, _⟩ := h.get (i := 0) (x := y) (by rw [hyr]; rfl)
    have HT := Lib.hid (fun w1 (he : Ext w w1) => (((h.ext he).take k hkk).src (by omega) srcE_one).2)
    have HD := Lib.hid (fun w1 (he : Ext w w1) => (((h.ext he).drop k2 hk).src (by omega) srcE_one).2)
    generalize (l.take k).flatMap srcE = FA at *
    generalize (l.drop k2).flatMap srcE = FD at *
    generalize l.length = n at *
    generalize hFF : FA ++ [Value.int .i64 xo, .int .i64 xt, .int .u64 ((xs : Nat) : Int)] ++ FD = FF at *
    have HFF := Lib.hid hFF
    clear hFF
    have hki : (k : Int) ≤ n := by omega
    clear h hnil hl0 hyr
    cases rep
    · have hkk2 : k2 = k := by simpa using hk2
      subst hkk2
      clear hk2
      have KEEP : Hid (∀ w', Ext (((w.alloc (.cells #[.slice (some ⟨vb, vo, none⟩) n vc] 41)).alloc (.cells #[.int .i64 xo, .int .i64 xt, .int .u64 ((xs : Nat) : Int)] 75)).alloc (.cells #[.slice none 0 0] 41)) w' → w'.cell? ⟨w.heap.size, 0, none⟩ = some (.slice (some ⟨vb, vo, none⟩) n vc) ∧ w'.cell? ⟨w.heap.size + 1, 0, none⟩ = some (.int .i64 xo) ∧ w'.cell? ⟨w.heap.size + 1, 1, none⟩ = some (.int .i64 xt) ∧ w'.cell? ⟨w.heap.size + 1, 2, none⟩ = some (.int .u64 ((xs : Nat) : Int)) ∧ w'.cell? ⟨w.heap.size + 1 + 1, 0, none⟩ = some (.slice none 0 0) ∧ w'.frozen? ⟨w.heap.size + 1 + 1, 0, none⟩ = false ∧ w.heap.size + 3 ≤ w'.heap.size ∧ Ext w w') := fun w' he =>
        ⟨he.cell (cell_keep _ _ (cell_keep _ _ (cell_at _ _ _ _ 0 _ rfl rfl))), he.cell (cell_keep _ _ (cell_at _ _ _ _ 0 _ (by simp) rfl)), he.cell (cell_keep _ _ (cell_at _ _ _ _ 1 _ (by simp) rfl)), he.cell (cell_keep _ _ (cell_at _ _ _ _ 2 _ (by simp) rfl)), he.cell (cell_at _ _ _ _ 0 _ (by simp) rfl), (he.frozen (by simp)).trans (frozen_at _ _ _ _ 0 (by simp)), by have := he.size; simpa using this, Ext.trans ((((Ext.refl w).alloc _).alloc _).alloc _) he⟩
      have HZ : Hid ((((w.alloc (.cells #[.slice (some ⟨vb, vo, none⟩) n vc] 41)).alloc (.cells #[.int .i64 xo, .int .i64 xt, .int .u64 ((xs : Nat) : Int)] 75)).alloc (.cells #[.slice none 0 0] 41)).heap.size = w.heap.size + 3) := (by show _ = _; simp)
      have EG : Hid (∀ (wa wb : World) (r : Value) nn F, Ext (((w.alloc (.cells #[.slice (some ⟨vb, vo, none⟩) n vc] 41)).alloc (.cells #[.int .i64 xo, .int .i64 xt, .int .u64 ((xs : Nat) : Int)] 75)).alloc (.cells #[.slice none 0 0] 41)) wa → wa.ownsRow (w.heap.size + 3) 75 3 r nn F → wa.grownBy wb r.ownBlock → Ext (((w.alloc (.cells #[.slice (some ⟨vb, vo, none⟩) n vc] 41)).alloc (.cells #[.int .i64 xo, .int .i64 xt, .int .u64 ((xs : Nat) : Int)] 75)).alloc (.cells #[.slice none 0 0] 41)) wb) := fun wa wb r nn F h1 h2 h3 => h1.grown h3 (fun g hg => by rw [HZ.out]; exact (h2.lt g hg).1)
      go_enter Try.func29, Try.ntmps29
      go_wp2_with (first
        | (at_builtin; refine wpList_append_src _ rfl (.tmp 10) (.tmp 14) _ rfl (w.heap.size + 3) 75 i0 _ 3 24 Try.underlying39 hi0 hz0 hz1 hz2 rfl (by omega) _ 0 [] rfl (HO0.out _ _ (by simp)) _ k2 _ _ rfl (HT.out _ (((((Ext.refl w).alloc _).alloc _).alloc _).alloc _)) (by unfold maxLen; omega) (by omega) (by simp) ?_; intro A1 c1 w1 hown1 hg1 hat1; have E1 := Lib.hid (EG.out _ _ _ _ _ ((Ext.refl _).alloc _) (HO0.out _ _ (by simp)) hg1); obtain ⟨k1, k2', k3, k4, k5, k6, k7, k8⟩ := KEEP.out _ E1.out; simp only [Nat.zero_add, List.nil_append] at hown1 hat1; have HO1 := Lib.hid hown1; clear hown1 hg1 hat1)
        | (at_builtin; refine wpList_append_src _ rfl (.tmp 16) (.tmp 18) _ rfl (w.heap.size + 3) 75 i0 _ 3 24 Try.underlying39 hi0 hz0 hz1 hz2 rfl (by omega) _ k2 _ rfl (HO1.out.alloc _) _ 1 1 _ rfl (Src.litB w1 _ 75 3 _ rfl rfl H1.out) (by unfold maxLen; omega) (by omega) (by simp; omega) ?_; intro A2 c2 w2 hown2 hg2 hat2; have E2 := Lib.hid (EG.out _ _ _ _ _ (E1.out.alloc _) (HO1.out.alloc _) hg2); clear k1 k2' k3 k4 k5 k6 k7 k8; obtain ⟨k1, k2', k3, k4, k5, k6, k7, k8⟩ := KEEP.out _ E2.out; have HO2 := Lib.hid hown2; clear hown2 hg2 hat2)
        | (at_builtin; refine wpList_append_src _ rfl (.tmp 23) (.tmp 27) _ rfl (w.heap.size + 3) 75 i0 _ 3 24 Try.underlying39 hi0 hz0 hz1 hz2 rfl (by omega) _ (k2 + 1) _ rfl HO2.out _ (n - k2) _ _ rfl (HD.out _ (Ext.trans ((((Ext.refl w).alloc _).alloc _).alloc _) E2.out)) (by unfold maxLen; omega) (by omega) k7 ?_; intro A3 c3 w3 hown3 hg3 hat3; have E3 := Lib.hid (EG.out _ _ _ _ _ E2.out HO2.out hg3); clear k1 k2' k3 k4 k5 k6 k7 k8; obtain ⟨k1, k2', k3, k4, k5, k6, k7, k8⟩ := KEEP.out _ E3.out; have HO3 := Lib.hid hown3; clear hown3 hg3 hat3))
      rw [HFF.out] at HO3
      obtain ⟨g3, rfl, hg31, _⟩ := own_some HO3.out (by omega)
      refine bodyPost_ret (v := .agg #[.slice (some ⟨g3, 0, none⟩) ((k2 + 1) + (n - k2)) c3]) (by simp [results, Try.results29, go_sem, k5]) rfl ⟨_, c3, rfl, k8.setCell (by simp only; omega) _, ?_⟩
      exact own_base (b := w.heap.size + 3) (own_setCell HO3.out ⟨w.heap.size + 1 + 1, 0, none⟩ _ (show w.heap.size + 1 + 1 ≠ g3 by omega)) (by omega)
    · have hkk2 : k2 = k + 1 := by simpa using hk2
      subst hkk2
      clear hk2
      have hmm := Lib.hid (show k + 1 + (n - (k + 1)) = n by omega)
      rw [hmm.out]
      have KEEP : Hid (∀ w', Ext (((w.alloc (.cells #[.slice (some ⟨vb, vo, none⟩) n vc] 41)).alloc (.cells #[.int .i64 xo, .int .i64 xt, .int .u64 ((xs : Nat) : Int)] 75)).alloc (.cells #[.slice none 0 0] 41)) w' → w'.cell? ⟨w.heap.size, 0, none⟩ = some (.slice (some ⟨vb, vo, none⟩) n vc) ∧ w'.cell? ⟨w.heap.size + 1, 0, none⟩ = some (.int .i64 xo) ∧ w'.cell? ⟨w.heap.size + 1, 1, none⟩ = some (.int .i64 xt) ∧ w'.cell? ⟨w.heap.size + 1, 2, none⟩ = some (.int .u64 ((xs : Nat) : Int)) ∧ w'.cell? ⟨w.heap.size + 1 + 1, 0, none⟩ = some (.slice none 0 0) ∧ w'.frozen? ⟨w.heap.size + 1 + 1, 0, none⟩ = false ∧ w.heap.size + 3 ≤ w'.heap.size ∧ Ext w w') := fun w' he =>
        ⟨he.cell (cell_keep _ _ (cell_keep _ _ (cell_at _ _ _ _ 0 _ rfl rfl))), he.cell (cell_keep _ _ (cell_at _ _ _ _ 0 _ (by simp) rfl)), he.cell (cell_keep _ _ (cell_at _ _ _ _ 1 _ (by simp) rfl)), he.cell (cell_keep _ _ (cell_at _ _ _ _ 2 _ (by simp) rfl)), he.cell (cell_at _ _ _ _ 0 _ (by simp) rfl), (he.frozen (by simp)).trans (frozen_at _ _ _ _ 0 (by simp)), by have := he.size; simpa using this, Ext.trans ((((Ext.refl w).alloc _).alloc _).alloc _) he⟩
      have HZ : Hid ((((w.alloc (.cells #[.slice (some ⟨vb, vo, none⟩) n vc] 41)).alloc (.cells #[.int .i64 xo, .int .i64 xt, .int .u64 ((xs : Nat) : Int)] 75)).alloc (.cells #[.slice none 0 0] 41)).heap.size = w.heap.size + 3) := (by show _ = _; simp)
      have EG : Hid (∀ (wa wb : World) (r : Value) nn F, Ext (((w.alloc (.cells #[.slice (some ⟨vb, vo, none⟩) n vc] 41)).alloc (.cells #[.int .i64 xo, .int .i64 xt, .int .u64 ((xs : Nat) : Int)] 75)).alloc (.cells #[.slice none 0 0] 41)) wa → wa.ownsRow (w.heap.size + 3) 75 3 r nn F → wa.grownBy wb r.ownBlock → Ext (((w.alloc (.cells #[.slice (some ⟨vb, vo, none⟩) n vc] 41)).alloc (.cells #[.int .i64 xo, .int .i64 xt, .int .u64 ((xs : Nat) : Int)] 75)).alloc (.cells #[.slice none 0 0] 41)) wb) := fun wa wb r nn F h1 h2 h3 => h1.grown h3 (fun g hg => by rw [HZ.out]; exact (h2.lt g hg).1)
      go_enter Try.func29, Try.ntmps29
      go_wp2_with (first
        | (at_builtin; refine wpList_append_src _ rfl (.tmp 10) (.tmp 14) _ rfl (w.heap.size + 3) 75 i0 _ 3 24 Try.underlying39 hi0 hz0 hz1 hz2 rfl (by omega) _ 0 [] rfl (HO0.out _ _ (by simp)) _ k _ _ rfl (HT.out _ (((((Ext.refl w).alloc _).alloc _).alloc _).alloc _)) (by unfold maxLen; omega) (by omega) (by simp) ?_; intro A1 c1 w1 hown1 hg1 hat1; have E1 := Lib.hid (EG.out _ _ _ _ _ ((Ext.refl _).alloc _) (HO0.out _ _ (by simp)) hg1); obtain ⟨k1, k2', k3, k4, k5, k6, k7, k8⟩ := KEEP.out _ E1.out; simp only [Nat.zero_add, List.nil_append] at hown1 hat1; have HO1 := Lib.hid hown1; clear hown1 hg1 hat1)
        | (at_builtin; refine wpList_append_src _ rfl (.tmp 16) (.tmp 18) _ rfl (w.heap.size + 3) 75 i0 _ 3 24 Try.underlying39 hi0 hz0 hz1 hz2 rfl (by omega) _ k _ rfl (HO1.out.alloc _) _ 1 1 _ rfl (Src.litB w1 _ 75 3 _ rfl rfl H1.out) (by unfold maxLen; omega) (by omega) (by simp; omega) ?_; intro A2 c2 w2 hown2 hg2 hat2; have E2 := Lib.hid (EG.out _ _ _ _ _ (E1.out.alloc _) (HO1.out.alloc _) hg2); clear k1 k2' k3 k4 k5 k6 k7 k8; obtain ⟨k1, k2', k3, k4, k5, k6, k7, k8⟩ := KEEP.out _ E2.out; have HO2 := Lib.hid hown2; clear hown2 hg2 hat2)
        | (at_builtin; refine wpList_append_src _ rfl (.tmp 23) (.tmp 27) _ rfl (w.heap.size + 3) 75 i0 _ 3 24 Try.underlying39 hi0 hz0 hz1 hz2 rfl (by omega) _ (k + 1) _ rfl HO2.out _ (n - (k + 1)) _ _ rfl (HD.out _ (Ext.trans ((((Ext.refl w).alloc _).alloc _).alloc _) E2.out)) (by unfold maxLen; omega) (by omega) k7 ?_; intro A3 c3 w3 hown3 hg3 hat3; have E3 := Lib.hid (EG.out _ _ _ _ _ E2.out HO2.out hg3); clear k1 k2' k3 k4 k5 k6 k7 k8; obtain ⟨k1, k2', k3, k4, k5, k6, k7, k8⟩ := KEEP.out _ E3.out; have HO3 := Lib.hid hown3; clear hown3 hg3 hat3))
      rw [hmm.out] at HO3
      rw [HFF.out] at HO3
      obtain ⟨g3, rfl, hg31, _⟩ := own_some HO3.out (by omega)
      refine bodyPost_ret (v := .agg #[.slice (some ⟨g3, 0, none⟩) n c3]) (by simp [results, Try.results29, go_sem, k5]) rfl ⟨_, c3, rfl, k8.setCell (by simp only; omega) _, ?_⟩
      exact own_base (b := w.heap.size + 3) (own_setCell HO3.out ⟨w.heap.size + 1 + 1, 0, none⟩ _ (show w.heap.size + 1 + 1 ≠ g3 by omega)) (by omega)

theorem put16_ins (l : List Src3) (x : Src3) (k : Nat) (v : Value) (w : World) (h : RF Any 3 srcE w v l) (hk : k ≤ l.length) (hl : l.length ≤ 100000000) (hnil : l = [] → v = .slice none 0 0) :
    Calls Try.prog 29 #[.agg #[v], .int .i64 k, .agg #[.int .i64 x.1, .int .i64 x.2.1, .int .u64 ((x.2.2 : Nat) : Int)], .bool false] w (RetRow 75 w (l.take k ++ x :: l.drop k).length ((l.take k ++ x :: l.drop k).flatMap srcE)) := by
  have e : (l.take k ++ x :: l.drop k).length = k + 1 + (l.length - k) := by rw [List.length_append, List.length_cons, List.length_take, List.length_drop]; omega
  rw [e]
  exact put16_core l x k false k rfl v w h hk hl hnil
theorem take_set_drop {α : Type} (l : List α) (k : Nat) (x : α) (hk : k < l.length) : l.take k ++ x :: l.drop (k + 1) = l.set k x := (List.set_eq_take_append_cons_drop.trans (by rw [if_pos hk])).symm
theorem put16_rep (l : List Src3) (x : Src3) (k : Nat) (v : Value) (w : World) (h : RF Any 3 srcE w v l) (hk : k < l.length) (hl : l.length ≤ 100000000) :
    Calls Try.prog 29 #[.agg #[v], .int .i64 k, .agg #[.int .i64 x.1, .int .i64 x.2.1, .int .u64 ((x.2.2 : Nat) : Int)], .bool true] w (RetRow 75 w (l.set k x).length ((l.set k x).flatMap srcE)) := by
  have := put16_core l x k true (k + 1) rfl v w h hk hl (fun e => by subst e; simp at hk)
  rw [take_set_drop l k x hk, show k + 1 + (l.length - (k + 1)) = l.length by omega] at this
  rw [List.length_set]
  exact this
end Go.Proofs.Ytdnoejdhphpieaa
