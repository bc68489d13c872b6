/- The contracts of readLength of the program and head of the reference: layer 10. -/
import Derived.Test.YtjaofbfppnmdjaaTlvA
import Derived.BigQuiet
import Derived.OwnWalk
import Derived.Laws.BitsLemmas
namespace Go.Proofs.Ytjaofbfppnmdjaa
open Go.RowKit
attribute [local go_sem ↓] Go.wp_at_zero Go.wp_at_succ

theorem or8 (x y : Int) (hx : 0 ≤ x ∧ x ≤ 255) (hy : 0 ≤ y ∧ y ≤ 255) : bits .or .i64 (x * 256) y = x * 256 + y :=
  bits_join .i64 30 (by decide) (fun n h0 h1 => wrap_id n (by omega) (by omega)) 8 (x * 256) y (by omega) (by omega) (by omega) (by omega) (by omega) (by omega)

/-! ### What they compute -/
/-- Where the contents begin, how many they are, and the error. -/
def rl : List Int → Nat × Nat × Int
  | _ :: x1 :: r =>
    if x1 < 128 then (2, x1.toNat, 0)
    else if x1 = 129 then (match r with | x2 :: _ => if x2 < 128 then (0, 0, 16) else (3, x2.toNat, 0) | [] => (0, 0, 13))
    else if x1 = 130 then (match r with | x2 :: x3 :: _ => if x2 * 256 + x3 < 256 then (0, 0, 16) else (4, (x2 * 256 + x3).toNat, 0) | _ => (0, 0, 13))
    else (0, 0, 16)
  | _ => (0, 0, 13)
/-- The head of the node with which b begins: tag, where the contents begin, how many they are, and the error. -/
def hd (b : List Int) (d : Int) : Int × Nat × Nat × Int :=
  match b with
  | [] => (0, 0, 0, 0)
  | t :: r => if tagB t = false then (0, 0, 0, 15) else if 6 < d then (0, 0, 0, 17) else if (rl (t :: r)).2.2 ≠ 0 then (0, 0, 0, (rl (t :: r)).2.2) else if (t :: r).length < (rl (t :: r)).1 + (rl (t :: r)).2.1 then (0, 0, 0, 13) else (t, (rl (t :: r)).1, (rl (t :: r)).2.1, 0)

set_option maxRecDepth 100000 in
set_option maxHeartbeats 2000000 in
theorem readLength_short (a : Option Addr) (m c : Nat) (w : World) (hm : m < 2) : Calls Try.prog 82 #[.slice a m c] w fun e w' => e = .returned (.tuple #[.int .i64 0, .int .i64 0, .int .i64 13]) ∧ Ext w w' := by
  go_enter Try.func82, Try.ntmps82
  go_wp2
  go_ret3
  exact ⟨rfl, Ext.refl _⟩
set_option maxRecDepth 100000 in
set_option maxHeartbeats 2000000 in
theorem readLength_one (b off m c : Nat) (x1 : Int) (w : World) (hm : 2 ≤ m) (g1 : w.cell? ⟨b, off + 1, none⟩ = some (.int .u8 x1)) (h0 : 0 ≤ x1) (h1 : x1 < 128) :
    Calls Try.prog 82 #[.slice (some ⟨b, off, none⟩) m c] w fun e w' => e = .returned (.tuple #[.int .i64 2, .int .i64 x1, .int .i64 0]) ∧ Ext w w' := by
  go_enter Try.func82, Try.ntmps82
  go_wp2
  go_ret3
  exact ⟨rfl, Ext.refl _⟩
set_option maxRecDepth 100000 in
set_option maxHeartbeats 2000000 in
theorem readLength_129 (b off m c : Nat) (x2 : Int) (w : World) (hm : 2 ≤ m) (g1 : w.cell? ⟨b, off + 1, none⟩ = some (.int .u8 129)) (g2 : 3 ≤ m → w.cell? ⟨b, off + 2, none⟩ = some (.int .u8 x2)) (h0 : 0 ≤ x2) (h1 : x2 ≤ 255) :
    Calls Try.prog 82 #[.slice (some ⟨b, off, none⟩) m c] w fun e w' => Ext w w' ∧ (m < 3 → e = .returned (.tuple #[.int .i64 0, .int .i64 0, .int .i64 13])) ∧ (3 ≤ m → x2 < 128 → e = .returned (.tuple #[.int .i64 0, .int .i64 0, .int .i64 16])) ∧ (3 ≤ m → 128 ≤ x2 → e = .returned (.tuple #[.int .i64 3, .int .i64 x2, .int .i64 0])) := by
  rcases Nat.lt_or_ge m 3 with h | h
  · go_enter Try.func82, Try.ntmps82
    go_wp2
    go_ret3
    exact ⟨(by first | exact Ext.refl _ | exact (Ext.refl _).drewN _), fun _ => rfl, fun h => by omega, fun h => by omega⟩
  · have g2 := g2 h
    rcases Int.lt_or_le x2 128 with h3 | h3
    · go_enter Try.func82, Try.ntmps82
      go_wp2
      go_quiet (fail)
      go_wp2
      go_ret3
      exact ⟨(by first | exact Ext.refl _ | exact (Ext.refl _).drewN _), fun h => by omega, fun _ _ => rfl, fun h => by omega⟩
    · go_enter Try.func82, Try.ntmps82
      go_wp2
      go_quiet (fail)
      go_wp2
      go_ret3
      exact ⟨(by first | exact Ext.refl _ | exact (Ext.refl _).drewN _), fun h => by omega, fun _ _ => by omega, fun _ _ => rfl⟩
set_option maxRecDepth 100000 in
set_option maxHeartbeats 2000000 in
theorem readLength_130 (b off m c : Nat) (x2 x3 : Int) (w : World) (hm : 2 ≤ m) (g1 : w.cell? ⟨b, off + 1, none⟩ = some (.int .u8 130)) (g2 : 4 ≤ m → w.cell? ⟨b, off + 2, none⟩ = some (.int .u8 x2)) (g3 : 4 ≤ m → w.cell? ⟨b, off + 3, none⟩ = some (.int .u8 x3)) (h2 : 0 ≤ x2 ∧ x2 ≤ 255) (h3 : 0 ≤ x3 ∧ x3 ≤ 255) :
    Calls Try.prog 82 #[.slice (some ⟨b, off, none⟩) m c] w fun e w' => Ext w w' ∧ (m < 4 → e = .returned (.tuple #[.int .i64 0, .int .i64 0, .int .i64 13])) ∧ (4 ≤ m → x2 * 256 + x3 < 256 → e = .returned (.tuple #[.int .i64 0, .int .i64 0, .int .i64 16])) ∧ (4 ≤ m → 256 ≤ x2 * 256 + x3 → e = .returned (.tuple #[.int .i64 4, .int .i64 (x2 * 256 + x3), .int .i64 0])) := by
  rcases Nat.lt_or_ge m 4 with h | h
  · go_enter Try.func82, Try.ntmps82
    go_wp2
    go_ret3
    exact ⟨(by first | exact Ext.refl _ | exact (Ext.refl _).drewN _), fun _ => rfl, fun h => by omega, fun h => by omega⟩
  · have g2 := g2 h
    have g3 := g3 h
    have hor := or8 x2 x3 h2 h3
    obtain ⟨h20, h21⟩ := h2
    obtain ⟨h30, h31⟩ := h3
    rcases Int.lt_or_le (x2 * 256 + x3) 256 with h4 | h4
    · go_enter Try.func82, Try.ntmps82
      go_wp2
      go_quiet (fail)
      go_wp2
      all_goals go_ret3
      all_goals exact ⟨(by first | exact Ext.refl _ | exact (Ext.refl _).drewN _), (by intros; first | rfl | omega), (by intros; first | rfl | omega), (by intros; first | rfl | omega)⟩
    · go_enter Try.func82, Try.ntmps82
      go_wp2
      go_quiet (fail)
      go_wp2
      go_ret3
      exact ⟨(by first | exact Ext.refl _ | exact (Ext.refl _).drewN _), fun h => by omega, fun _ _ => by omega, fun _ _ => rfl⟩
set_option maxRecDepth 100000 in
set_option maxHeartbeats 2000000 in
theorem readLength_bad (b off m c : Nat) (x1 : Int) (w : World) (hm : 2 ≤ m) (g1 : w.cell? ⟨b, off + 1, none⟩ = some (.int .u8 x1)) (h1 : 128 ≤ x1) (h2 : x1 ≤ 255) (h3 : (x1 == 129) = false) (h4 : (x1 == 130) = false) :
    Calls Try.prog 82 #[.slice (some ⟨b, off, none⟩) m c] w fun e w' => e = .returned (.tuple #[.int .i64 0, .int .i64 0, .int .i64 16]) ∧ Ext w w' := by
  go_enter Try.func82, Try.ntmps82
  go_wp2
  go_ret3
  exact ⟨rfl, Ext.refl _⟩
theorem readLength_any {V : Nat → Prop} (bs : List Int) (v : Value) (w : World) (h : RB V w v bs) : Calls Try.prog 82 #[v] w fun e w' => e = .returned (.tuple #[.int .i64 (rl bs).1, .int .i64 (rl bs).2.1, .int .i64 (rl bs).2.2]) ∧ Ext w w' := by
  match bs, h with
  | [], h =>
    obtain ⟨a, c, rfl, _, _⟩ := h.form
    exact readLength_short _ _ _ w (by simp)
  | [x], h =>
    obtain ⟨a, c, rfl, _, _⟩ := h.form
    exact readLength_short _ _ _ w (by simp)
  | x0 :: x1 :: r, h =>
    obtain ⟨b, off, c, rfl, _, _, _, hc⟩ := h.at_ (by simp)
    have g1 := hc 1 (by simp)
    simp only [List.getElem_cons_succ, List.getElem_cons_zero] at g1
    have hb1 := h.byt x1 (by simp)
    by_cases h1 : x1 < 128
    · have e : rl (x0 :: x1 :: r) = (2, x1.toNat, 0) := by simp [rl, h1]
      rw [e]
      refine (readLength_one b off _ c x1 w (by simp) g1 hb1.1 h1).mono fun e w' ⟨he, hw⟩ => ⟨?_, hw⟩
      subst he
      rw [Int.toNat_of_nonneg hb1.1]
      rfl
    by_cases h2 : x1 = 129
    · subst h2
      match r, h, hc with
      | [], h, hc =>
        refine (readLength_129 b off _ c 0 w (by simp) g1 (fun h => by simp at h) (by omega) (by omega)).mono fun e w' ⟨hw, k1, k2, k3⟩ => ⟨?_, hw⟩
        rw [k1 (by simp)]
        rfl
      | x2 :: r, h, hc =>
        have hb2 := h.byt x2 (by simp)
        have g2 := hc 2 (by simp)
        refine (readLength_129 b off _ c x2 w (by simp) g1 (fun _ => g2) hb2.1 hb2.2).mono fun e w' ⟨hw, k1, k2, k3⟩ => ⟨?_, hw⟩
        by_cases h3 : x2 < 128
        · rw [k2 (by simp) h3]
          simp [rl, h3]
        · rw [k3 (by simp) (by omega)]
          simp [rl, h3]
          omega
    by_cases h3 : x1 = 130
    · subst h3
      match r, h, hc with
      | [], h, hc =>
        refine (readLength_130 b off _ c 0 0 w (by simp) g1 (fun h => by simp at h) (fun h => by simp at h) (by omega) (by omega)).mono fun e w' ⟨hw, k1, k2, k3⟩ => ⟨?_, hw⟩
        rw [k1 (by simp)]
        rfl
      | [x2], h, hc =>
        refine (readLength_130 b off _ c 0 0 w (by simp) g1 (fun h => by simp at h) (fun h => by simp at h) (by omega) (by omega)).mono fun e w' ⟨hw, k1, k2, k3⟩ => ⟨?_, hw⟩
        rw [k1 (by simp)]
        rfl
      | x2 :: x3 :: r, h, hc =>
        have hb2 := h.byt x2 (by simp)
        have hb3 := h.byt x3 (by simp)
        have g2 := hc 2 (by simp)
        have g3 := hc 3 (by simp)
        refine (readLength_130 b off _ c x2 x3 w (by simp) g1 (fun _ => g2) (fun _ => g3) hb2 hb3).mono fun e w' ⟨hw, k1, k2, k3⟩ => ⟨?_, hw⟩
        by_cases h3 : x2 * 256 + x3 < 256
        · rw [k2 (by simp) h3]
          simp [rl, h3]
        · rw [k3 (by simp) (by omega)]
          simp [rl, h3]
          omega
    · have e : rl (x0 :: x1 :: r) = (0, 0, 16) := by simp [rl, h1, h2, h3]
      rw [e]
      exact readLength_bad b off _ c x1 w (by simp) g1 (by omega) hb1.2 (by simpa using h2) (by simpa using h3)

/-! ### head of the reference -/
theorem results_tmp4 {fn : Func} {t u v x : Tmp} (h : fn.results = #[.tmp t, .tmp u, .tmp v, .tmp x]) (tmps : Array Value) (P : Program) (w : World) :
    (results fn tmps).run P w = .ok (.tuple #[tmps.getD t undef, tmps.getD u undef, tmps.getD v undef, tmps.getD x undef]) w := by
  simp [results, h]
def RetH (w : World) (t : Int) (f n : Int) (er : Int) (e : Ending) (w' : World) : Prop := e = .returned (.tuple #[.int .i64 t, .int .i64 f, .int .i64 n, .int .i64 er]) ∧ Ext w w'
theorem RetH.done (w : World) (t : Int) (f n : Int) (er : Int) {w' : World} (h : Ext w w') : RetH w t f n er (.returned (.tuple #[.int .i64 t, .int .i64 f, .int .i64 n, .int .i64 er])) w' := ⟨rfl, h⟩
section
variable (b off m c : Nat) (t d x1 x2 x3 : Int) (w : World) (hm : 1 ≤ m) (g0 : w.cell? ⟨b, off, none⟩ = some (.int .u8 t)) (ht : 0 ≤ t ∧ t ≤ 255)
include hm g0 ht
set_option linter.unusedSectionVars false
theorem head_tag (h1 : tagB t = false) : Calls Try.prog 89 #[.slice (some ⟨b, off, none⟩) m c, .int .i64 d] w (RetH w 0 0 0 15) := by
  obtain ⟨ht1, ht2⟩ := ht
  have hc := Lib.hid (fun w1 => h1 ▸ tagR_any t w1)
  clear h1
  go_enter Try.func89, Try.ntmps89
  go_wp2_with (go_at_call 86; refine (hc.out _).mono ?_; rintro e w1 ⟨rfl, rfl⟩)
  ((try simp only [Exit.inBlock, Exit.then]); refine bodyPost_ret (results_tmp4 rfl _ _ _) rfl ?_)
  exact RetH.done _ _ _ _ _ (Ext.refl _)
theorem head_deep (h1 : tagB t = true) (h2 : 6 < d) : Calls Try.prog 89 #[.slice (some ⟨b, off, none⟩) m c, .int .i64 d] w (RetH w 0 0 0 17) := by
  obtain ⟨ht1, ht2⟩ := ht
  have hc := Lib.hid (fun w1 => h1 ▸ tagR_any t w1)
  clear h1
  go_enter Try.func89, Try.ntmps89
  go_wp2_with (go_at_call 86; refine (hc.out _).mono ?_; rintro e w1 ⟨rfl, rfl⟩)
  ((try simp only [Exit.inBlock, Exit.then]); refine bodyPost_ret (results_tmp4 rfl _ _ _) rfl ?_)
  exact RetH.done _ _ _ _ _ (Ext.refl _)
theorem head_short (h1 : tagB t = true) (h2 : d ≤ 6) (h3 : m < 2) : Calls Try.prog 89 #[.slice (some ⟨b, off, none⟩) m c, .int .i64 d] w (RetH w 0 0 0 13) := by
  obtain ⟨ht1, ht2⟩ := ht
  have hc := Lib.hid (fun w1 => h1 ▸ tagR_any t w1)
  clear h1
  go_enter Try.func89, Try.ntmps89
  go_wp2_with (go_at_call 86; refine (hc.out _).mono ?_; rintro e w1 ⟨rfl, rfl⟩)
  ((try simp only [Exit.inBlock, Exit.then]); refine bodyPost_ret (results_tmp4 rfl _ _ _) rfl ?_)
  exact RetH.done _ _ _ _ _ (Ext.refl _)
theorem head_one (h1 : tagB t = true) (h2 : d ≤ 6) (h3 : 2 ≤ m) (g1 : w.cell? ⟨b, off + 1, none⟩ = some (.int .u8 x1)) (k0 : 0 ≤ x1) (k1 : x1 < 128) (q1 : (x1 == 129) = false) (q2 : (x1 == 130) = false) (hm2 : m ≤ 1000000000000) :
    Calls Try.prog 89 #[.slice (some ⟨b, off, none⟩) m c, .int .i64 d] w (if (m : Int) < 2 + x1 then RetH w 0 0 0 13 else RetH w t 2 x1 0) := by
  obtain ⟨ht1, ht2⟩ := ht
  have hc := Lib.hid (fun w1 => h1 ▸ tagR_any t w1)
  clear h1
  split
  · go_enter Try.func89, Try.ntmps89
    go_wp2_with (go_at_call 86; refine (hc.out _).mono ?_; rintro e w1 ⟨rfl, rfl⟩)
    go_quiet (fail)
    go_wp2
    ((try simp only [Exit.inBlock, Exit.then]); refine bodyPost_ret (results_tmp4 rfl _ _ _) rfl ?_)
    exact RetH.done _ _ _ _ _ ((Ext.refl _).drewN _)
  · go_enter Try.func89, Try.ntmps89
    go_wp2_with (go_at_call 86; refine (hc.out _).mono ?_; rintro e w1 ⟨rfl, rfl⟩)
    go_quiet (fail)
    go_wp2
    ((try simp only [Exit.inBlock, Exit.then]); refine bodyPost_ret (results_tmp4 rfl _ _ _) rfl ?_)
    exact RetH.done _ _ _ _ _ ((Ext.refl _).drewN _)
theorem head_bad (h1 : tagB t = true) (h2 : d ≤ 6) (h3 : 2 ≤ m) (g1 : w.cell? ⟨b, off + 1, none⟩ = some (.int .u8 x1)) (k0 : 128 ≤ x1) (k1 : x1 ≤ 255) (q1 : (x1 == 129) = false) (q2 : (x1 == 130) = false) (hm2 : m ≤ 1000000000000) :
    Calls Try.prog 89 #[.slice (some ⟨b, off, none⟩) m c, .int .i64 d] w (RetH w 0 0 0 16) := by
  obtain ⟨ht1, ht2⟩ := ht
  have hc := Lib.hid (fun w1 => h1 ▸ tagR_any t w1)
  clear h1
  go_enter Try.func89, Try.ntmps89
  go_wp2_with (go_at_call 86; refine (hc.out _).mono ?_; rintro e w1 ⟨rfl, rfl⟩)
  go_quiet (fail)
  go_wp2
  ((try simp only [Exit.inBlock, Exit.then]); refine bodyPost_ret (results_tmp4 rfl _ _ _) rfl ?_)
  exact RetH.done _ _ _ _ _ ((Ext.refl _).drewN _)
theorem head_129s (h1 : tagB t = true) (h2 : d ≤ 6) (h3 : 2 ≤ m) (g1 : w.cell? ⟨b, off + 1, none⟩ = some (.int .u8 129)) (hm2 : m < 3) :
    Calls Try.prog 89 #[.slice (some ⟨b, off, none⟩) m c, .int .i64 d] w (RetH w 0 0 0 13) := by
  obtain ⟨ht1, ht2⟩ := ht
  have hc := Lib.hid (fun w1 => h1 ▸ tagR_any t w1)
  clear h1
  go_enter Try.func89, Try.ntmps89
  go_wp2_with (go_at_call 86; refine (hc.out _).mono ?_; rintro e w1 ⟨rfl, rfl⟩)
  go_quiet (fail)
  go_wp2
  ((try simp only [Exit.inBlock, Exit.then]); refine bodyPost_ret (results_tmp4 rfl _ _ _) rfl ?_)
  exact RetH.done _ _ _ _ _ ((Ext.refl _).drewN _)
theorem head_129 (h1 : tagB t = true) (h2 : d ≤ 6) (h3 : 3 ≤ m) (g1 : w.cell? ⟨b, off + 1, none⟩ = some (.int .u8 129)) (g2 : w.cell? ⟨b, off + 2, none⟩ = some (.int .u8 x2)) (k0 : 0 ≤ x2) (k1 : x2 ≤ 255) (hm2 : m ≤ 1000000000000) :
    Calls Try.prog 89 #[.slice (some ⟨b, off, none⟩) m c, .int .i64 d] w (if x2 < 128 then RetH w 0 0 0 16 else if (m : Int) < 3 + x2 then RetH w 0 0 0 13 else RetH w t 3 x2 0) := by
  obtain ⟨ht1, ht2⟩ := ht
  have hc := Lib.hid (fun w1 => h1 ▸ tagR_any t w1)
  clear h1
  split
  · go_enter Try.func89, Try.ntmps89
    go_wp2_with (go_at_call 86; refine (hc.out _).mono ?_; rintro e w1 ⟨rfl, rfl⟩)
    go_quiet (fail)
    go_wp2
    go_quiet (fail)
    go_wp2
    ((try simp only [Exit.inBlock, Exit.then]); refine bodyPost_ret (results_tmp4 rfl _ _ _) rfl ?_)
    exact RetH.done _ _ _ _ _ ((Ext.refl _).drewN _)
  · split
    · go_enter Try.func89, Try.ntmps89
      go_wp2_with (go_at_call 86; refine (hc.out _).mono ?_; rintro e w1 ⟨rfl, rfl⟩)
      go_quiet (fail)
      go_wp2
      go_quiet (fail)
      go_wp2
      ((try simp only [Exit.inBlock, Exit.then]); refine bodyPost_ret (results_tmp4 rfl _ _ _) rfl ?_)
      exact RetH.done _ _ _ _ _ ((Ext.refl _).drewN _)
    · go_enter Try.func89, Try.ntmps89
      go_wp2_with (go_at_call 86; refine (hc.out _).mono ?_; rintro e w1 ⟨rfl, rfl⟩)
      go_quiet (fail)
      go_wp2
      go_quiet (fail)
      go_wp2
      ((try simp only [Exit.inBlock, Exit.then]); refine bodyPost_ret (results_tmp4 rfl _ _ _) rfl ?_)
      exact RetH.done _ _ _ _ _ ((Ext.refl _).drewN _)
theorem head_130s (h1 : tagB t = true) (h2 : d ≤ 6) (h3 : 2 ≤ m) (g1 : w.cell? ⟨b, off + 1, none⟩ = some (.int .u8 130)) (hm2 : m < 4) :
    Calls Try.prog 89 #[.slice (some ⟨b, off, none⟩) m c, .int .i64 d] w (RetH w 0 0 0 13) := by
  obtain ⟨ht1, ht2⟩ := ht
  have hc := Lib.hid (fun w1 => h1 ▸ tagR_any t w1)
  clear h1
  go_enter Try.func89, Try.ntmps89
  go_wp2_with (go_at_call 86; refine (hc.out _).mono ?_; rintro e w1 ⟨rfl, rfl⟩)
  go_quiet (fail)
  go_wp2
  ((try simp only [Exit.inBlock, Exit.then]); refine bodyPost_ret (results_tmp4 rfl _ _ _) rfl ?_)
  exact RetH.done _ _ _ _ _ ((Ext.refl _).drewN _)
theorem head_130 (h1 : tagB t = true) (h2 : d ≤ 6) (h3 : 4 ≤ m) (g1 : w.cell? ⟨b, off + 1, none⟩ = some (.int .u8 130)) (g2 : w.cell? ⟨b, off + 2, none⟩ = some (.int .u8 x2)) (g3 : w.cell? ⟨b, off + 3, none⟩ = some (.int .u8 x3)) (k0 : 0 ≤ x2) (k1 : x2 ≤ 255) (k2 : 0 ≤ x3) (k3 : x3 ≤ 255) (hm2 : m ≤ 1000000000000) :
    Calls Try.prog 89 #[.slice (some ⟨b, off, none⟩) m c, .int .i64 d] w (if x2 * 256 + x3 < 256 then RetH w 0 0 0 16 else if (m : Int) < 4 + (x2 * 256 + x3) then RetH w 0 0 0 13 else RetH w t 4 (x2 * 256 + x3) 0) := by
  obtain ⟨ht1, ht2⟩ := ht
  have hc := Lib.hid (fun w1 => h1 ▸ tagR_any t w1)
  have hor := or8 x2 x3 ⟨k0, k1⟩ ⟨k2, k3⟩
  clear h1
  split
  · go_enter Try.func89, Try.ntmps89
    go_wp2_with (go_at_call 86; refine (hc.out _).mono ?_; rintro e w1 ⟨rfl, rfl⟩)
    go_quiet (fail)
    go_wp2
    go_quiet (fail)
    go_wp2
    ((try simp only [Exit.inBlock, Exit.then]); refine bodyPost_ret (results_tmp4 rfl _ _ _) rfl ?_)
    exact RetH.done _ _ _ _ _ ((Ext.refl _).drewN _)
  · split
    · go_enter Try.func89, Try.ntmps89
      go_wp2_with (go_at_call 86; refine (hc.out _).mono ?_; rintro e w1 ⟨rfl, rfl⟩)
      go_quiet (fail)
      go_wp2
      go_quiet (fail)
      go_wp2
      ((try simp only [Exit.inBlock, Exit.then]); refine bodyPost_ret (results_tmp4 rfl _ _ _) rfl ?_)
      exact RetH.done _ _ _ _ _ ((Ext.refl _).drewN _)
    · go_enter Try.func89, Try.ntmps89
      go_wp2_with (go_at_call 86; refine (hc.out _).mono ?_; rintro e w1 ⟨rfl, rfl⟩)
      go_quiet (fail)
      go_wp2
      go_quiet (fail)
      go_wp2
      ((try simp only [Exit.inBlock, Exit.then]); refine bodyPost_ret (results_tmp4 rfl _ _ _) rfl ?_)
      exact RetH.done _ _ _ _ _ ((Ext.refl _).drewN _)
end
set_option linter.unusedSimpArgs false in
theorem head_any {V : Nat → Prop} (bs : List Int) (v : Value) (d : Int) (w : World) (h : RB V w v bs) (hne : 0 < bs.length) (hl : bs.length ≤ 1000000000000) :
    Calls Try.prog 89 #[v, .int .i64 d] w (RetH w (hd bs d).1 (hd bs d).2.1 (hd bs d).2.2.1 (hd bs d).2.2.2) := by
  match bs, h, hne, hl with
  | t :: r, h, hne, hl =>
    obtain ⟨b, off, c, rfl, _, _, _, hc⟩ := h.at_ (by simp)
    have g0 := hc 0 (by simp)
    have ht := h.byt t (by simp)
    simp only [List.getElem_cons_zero, Nat.add_zero] at g0
    by_cases h1 : tagB t = false
    · have e : hd (t :: r) d = (0, 0, 0, 15) := by simp [hd, h1]
      rw [e]
      exact head_tag b off _ c t d w (by simp) g0 ht h1
    have h1' : tagB t = true := by simpa using h1
    by_cases h2 : 6 < d
    · have e : hd (t :: r) d = (0, 0, 0, 17) := by simp [hd, h1, h2]
      rw [e]
      exact head_deep b off _ c t d w (by simp) g0 ht h1' h2
    match r, h, hne, hl, hc with
    | [], h, hne, hl, hc =>
      have e : hd [t] d = (0, 0, 0, 13) := by simp [hd, h1, h2, rl]
      rw [e]
      exact head_short b off _ c t d w (by simp) g0 ht h1' (by omega) (by simp)
    | x1 :: r, h, hne, hl, hc =>
      have g1 := hc 1 (by simp)
      have hb1 := h.byt x1 (by simp)
      simp only [List.getElem_cons_zero, List.getElem_cons_succ] at g1
      by_cases h3 : x1 < 128
      · have k := head_one b off (t :: x1 :: r).length c t d x1 w (by simp) g0 ht h1' (by omega) (by simp) g1 hb1.1 h3 (by simp; omega) (by simp; omega) hl
        by_cases h4 : (t :: x1 :: r).length < 2 + x1.toNat
        · have e : hd (t :: x1 :: r) d = (0, 0, 0, 13) := by simp only [hd, h1, h2, rl, h3, if_true, if_false, h4]; simp
          rw [if_pos (by omega)] at k
          rw [e]; exact k
        · have e : hd (t :: x1 :: r) d = (t, 2, x1.toNat, 0) := by simp only [hd, h1, h2, rl, h3, if_true, if_false, h4]; simp
          rw [if_neg (by omega)] at k
          rw [e]
          simp only [Int.toNat_of_nonneg hb1.1]
          exact k
      by_cases h4 : x1 = 129
      · subst h4
        match r, h, hl, hc with
        | [], h, hl, hc =>
          have e : hd [t, 129] d = (0, 0, 0, 13) := by simp [hd, h1, h2, rl]
          rw [e]
          exact head_129s b off _ c t d w (by simp) g0 ht h1' (by omega) (by simp) g1 (by simp)
        | x2 :: r, h, hl, hc =>
          have g2 := hc 2 (by simp)
          have hb2 := h.byt x2 (by simp)
          simp only [List.getElem_cons_zero, List.getElem_cons_succ] at g2
          have k := head_129 b off (t :: 129 :: x2 :: r).length c t d x2 w (by simp) g0 ht h1' (by omega) (by simp) g1 g2 hb2.1 hb2.2 hl
          by_cases h5 : x2 < 128
          · have e : hd (t :: 129 :: x2 :: r) d = (0, 0, 0, 16) := by simp [hd, h1, h2, rl, h5]
            rw [if_pos h5] at k
            rw [e]; exact k
          rw [if_neg h5] at k
          have er : rl (t :: 129 :: x2 :: r) = (3, x2.toNat, 0) := by simp [rl, h5]
          by_cases h6 : (t :: 129 :: x2 :: r).length < 3 + x2.toNat
          · have e : hd (t :: 129 :: x2 :: r) d = (0, 0, 0, 13) := by simp only [hd, h1, h2, er, if_true, if_false, h6]; simp
            rw [if_pos (by omega)] at k
            rw [e]; exact k
          · have e : hd (t :: 129 :: x2 :: r) d = (t, 3, x2.toNat, 0) := by simp only [hd, h1, h2, er, if_true, if_false, h6]; simp
            rw [if_neg (by omega)] at k
            rw [e]
            simp only [Int.toNat_of_nonneg hb2.1]
            exact k
      by_cases h5 : x1 = 130
      · subst h5
        match r, h, hl, hc with
        | [], h, hl, hc =>
          have e : hd [t, 130] d = (0, 0, 0, 13) := by simp [hd, h1, h2, rl]
          rw [e]
          exact head_130s b off _ c t d w (by simp) g0 ht h1' (by omega) (by simp) g1 (by simp)
        | [x2], h, hl, hc =>
          have e : hd [t, 130, x2] d = (0, 0, 0, 13) := by simp [hd, h1, h2, rl]
          rw [e]
          exact head_130s b off _ c t d w (by simp) g0 ht h1' (by omega) (by simp) g1 (by simp)
        | x2 :: x3 :: r, h, hl, hc =>
          have g2 := hc 2 (by simp)
          have hb2 := h.byt x2 (by simp)
          have g3 := hc 3 (by simp)
          have hb3 := h.byt x3 (by simp)
          simp only [List.getElem_cons_zero, List.getElem_cons_succ] at g2 g3
          have k := head_130 b off (t :: 130 :: x2 :: x3 :: r).length c t d x2 x3 w (by simp) g0 ht h1' (by omega) (by simp) g1 g2 g3 hb2.1 hb2.2 hb3.1 hb3.2 hl
          by_cases h5 : x2 * 256 + x3 < 256
          · have e : hd (t :: 130 :: x2 :: x3 :: r) d = (0, 0, 0, 16) := by simp [hd, h1, h2, rl, h5]
            rw [if_pos h5] at k
            rw [e]; exact k
          rw [if_neg h5] at k
          have er : rl (t :: 130 :: x2 :: x3 :: r) = (4, (x2 * 256 + x3).toNat, 0) := by simp [rl, h5]
          by_cases h6 : (t :: 130 :: x2 :: x3 :: r).length < 4 + (x2 * 256 + x3).toNat
          · have e : hd (t :: 130 :: x2 :: x3 :: r) d = (0, 0, 0, 13) := by simp only [hd, h1, h2, er, if_true, if_false, h6]; simp
            rw [if_pos (by omega)] at k
            rw [e]; exact k
          · have e : hd (t :: 130 :: x2 :: x3 :: r) d = (t, 4, (x2 * 256 + x3).toNat, 0) := by simp only [hd, h1, h2, er, if_true, if_false, h6]; simp
            rw [if_neg (by omega)] at k
            rw [e]
            simp only [Int.toNat_of_nonneg (show 0 ≤ x2 * 256 + x3 by omega)]
            exact k
      · have e : hd (t :: x1 :: r) d = (0, 0, 0, 16) := by simp [hd, h1, h2, rl, h3, h4, h5]
        rw [e]
        exact head_bad b off _ c t d x1 w (by simp) g0 ht h1' (by omega) (by simp) g1 (by omega) hb1.2 (by simpa using h4) (by simpa using h5) hl
end Go.Proofs.Ytjaofbfppnmdjaa
