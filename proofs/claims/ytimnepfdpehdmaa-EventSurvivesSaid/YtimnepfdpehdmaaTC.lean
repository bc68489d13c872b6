/- The contracts of readLength of the program and head of the reference: layer 10. -/
import Derived.Test.YtimnepfdpehdmaaTB
import Derived.BigQuiet
import Derived.OwnWalk
import Derived.Laws.BitsLemmas
import Derived.Lib.SliceRun
import Derived.Test.YtimnepfdpehdmaaChecked
import Derived.Test.YtimnepfdpehdmaaTA
import Derived.WalkMore
import Derived.ScopeJumps
namespace Go.Proofs.Ytimnepfdpehdmaa
open Go.RowKit
attribute [local go_sem ↓] Go.wp_at_zero Go.wp_at_succ

theorem or8 (x y : Int) (hx : 0 ≤ x ∧ x ≤ 255) (hy : 0 ≤ y ∧ y ≤ 255) : bits .or .i64 (x * 256) y = x * 256 + y :=
  bits_join .i64 30 (by decide) (fun n h0 h1 => wrap_id n (by omega) (by omega)) 8 (x * 256) y (by omega) (by omega) (by omega) (by omega) (by omega) (by omega)

/-! ### What they compute -/
/-- Where the contents begin, how many they are, and the error. -/
def rl : List Int → Nat × Nat × Int
  | _ :: x1 :: r =>
    if x1 < 128 then (2, x1.toNat, 0)
    else if x1 = 129 then (match r with | x2 :: _ => if x2 < 128 then (0, 0, 16) else (3, x2.toNat, 0) | [] => (0, 0, 13))
    else if x1 = 130 then (match r with | x2 :: x3 :: _ => if x2 * 256 + x3 < 256 then (0, 0, 16) else (4, (x2 * 256 + x3).toNat, 0) | _ => (0, 0, 13))
    else (0, 0, 16)
  | _ => (0, 0, 13)
/-- The head of the node with which b begins: tag, where the contents begin, how many they are, and the error. -/
def hd (b : List Int) (d : Int) : Int × Nat × Nat × Int :=
  match b with
  | [] => (0, 0, 0, 0)
  | t :: r => if tagB t = false then (0, 0, 0, 15) else if 6 < d then (0, 0, 0, 17) else if (rl (t :: r)).2.2 ≠ 0 then (0, 0, 0, (rl (t :: r)).2.2) else if (t :: r).length < (rl (t :: r)).1 + (rl (t :: r)).2.1 then (0, 0, 0, 13) else (t, (rl (t :: r)).1, (rl (t :: r)).2.1, 0)

set_option maxRecDepth 100000 in
set_option maxHeartbeats 2000000 in
theorem readLength_short (a : Option Addr) (m c : Nat) (w : World) (hm : m < 2) : Calls Try.prog 74 #[.slice a m c] w fun e w' => e = .returned (.tuple #[.int .i64 0, .int .i64 0, .int .i64 13]) ∧ Ext w w' := by
  go_enter Try.func74, Try.ntmps74
  go_wp2
  go_ret3
  exact ⟨rfl, Ext.refl _⟩
set_option maxRecDepth 100000 in
set_option maxHeartbeats 2000000 in
theorem readLength_one (b off m c : Nat) (x1 : Int) (w : World) (hm : 2 ≤ m) (g1 : w.cell? ⟨b, off + 1, none⟩ = some (.int .u8 x1)) (h0 : 0 ≤ x1) (h1 : x1 < 128) :
    Calls Try.prog 74 #[.slice (some ⟨b, off, none⟩) m c] w fun e w' => e = .returned (.tuple #[.int .i64 2, .int .i64 x1, .int .i64 0]) ∧ Ext w w' := by
  go_enter Try.func74, Try.ntmps74
  go_wp2
  go_ret3
  exact ⟨rfl, Ext.refl _⟩
set_option maxRecDepth 100000 in
set_option maxHeartbeats 2000000 in
theorem readLength_129 (b off m c : Nat) (x2 : Int) (w : World) (hm : 2 ≤ m) (g1 : w.cell? ⟨b, off + 1, none⟩ = some (.int .u8 129)) (g2 : 3 ≤ m → w.cell? ⟨b, off + 2, none⟩ = some (.int .u8 x2)) (h0 : 0 ≤ x2) (h1 : x2 ≤ 255) :
    Calls Try.prog 74 #[.slice (some ⟨b, off, none⟩) m c] w fun e w' => Ext w w' ∧ (m < 3 → e = .returned (.tuple #[.int .i64 0, .int .i64 0, .int .i64 13])) ∧ (3 ≤ m → x2 < 128 → e = .returned (.tuple #[.int .i64 0, .int .i64 0, .int .i64 16])) ∧ (3 ≤ m → 128 ≤ x2 → e = .returned (.tuple #[.int .i64 3, .int .i64 x2, .int .i64 0])) := by
  rcases Nat.lt_or_ge m 3 with h | h
  · go_enter Try.func74, Try.ntmps74
    go_wp2
    go_ret3
    exact ⟨(by first | exact Ext.refl _ | exact (Ext.refl _).drewN _), fun _ => rfl, fun h => by omega, fun h => by omega⟩
  · have g2 := g2 h
    rcases Int.lt_or_le x2 128 with h3 | h3
    · go_enter Try.func74, Try.ntmps74
      go_wp2
      go_quiet (fail)
      go_wp2
      go_ret3
      exact ⟨(by first | exact Ext.refl _ | exact (Ext.refl _).drewN _), fun h => by omega, fun _ _ => rfl, fun h => by omega⟩
    · go_enter Try.func74, Try.ntmps74
      go_wp2
      go_quiet (fail)
      go_wp2
      go_ret3
      exact ⟨(by first | exact Ext.refl _ | exact (Ext.refl _).drewN _), fun h => by omega, fun _ _ => by omega, fun _ _ => rfl⟩
set_option maxRecDepth 100000 in
set_option maxHeartbeats 2000000 in
theorem readLength_130 (b off m c : Nat) (x2 x3 : Int) (w : World) (hm : 2 ≤ m) (g1 : w.cell? ⟨b, off + 1, none⟩ = some (.int .u8 130)) (g2 : 4 ≤ m → w.cell? ⟨b, off + 2, none⟩ = some (.int .u8 x2)) (g3 : 4 ≤ m → w.cell? ⟨b, off + 3, none⟩ = some (.int .u8 x3)) (h2 : 0 ≤ x2 ∧ x2 ≤ 255) (h3 : 0 ≤ x3 ∧ x3 ≤ 255) :
    Calls Try.prog 74 #[.slice (some ⟨b, off, none⟩) m c] w fun e w' => Ext w w' ∧ (m < 4 → e = .returned (.tuple #[.int .i64 0, .int .i64 0, .int .i64 13])) ∧ (4 ≤ m → x2 * 256 + x3 < 256 → e = .returned (.tuple #[.int .i64 0, .int .i64 0, .int .i64 16])) ∧ (4 ≤ m → 256 ≤ x2 * 256 + x3 → e = .returned (.tuple #[.int .i64 4, .int .i64 (x2 * 256 + x3), .int .i64 0])) := by
  rcases Nat.lt_or_ge m 4 with h | h
  · go_enter Try.func74, Try.ntmps74
    go_wp2
    go_ret3
    exact ⟨(by first | exact Ext.refl _ | exact (Ext.refl _).drewN _), fun _ => rfl, fun h => by omega, fun h => by omega⟩
  · have g2 := g2 h
    have g3 := g3 h
    have hor := or8 x2 x3 h2 h3
    obtain ⟨h20, h21⟩ := h2
    obtain ⟨h30, h31⟩ := h3
    rcases Int.lt_or_le (x2 * 256 + x3) 256 with h4 | h4
    · go_enter Try.func74, Try.ntmps74
      go_wp2
      go_quiet (fail)
      go_wp2
      all_goals go_ret3
      all_goals exact ⟨(by first | exact Ext.refl _ | exact (Ext.refl _).drewN _), (by intros; first | rfl | omega), (by intros; first | rfl | omega), (by intros; first | rfl | omega)⟩
    · go_enter Try.func74, Try.ntmps74
      go_wp2
      go_quiet (fail)
      go_wp2
      go_ret3
      exact ⟨(by first | exact Ext.refl _ | exact (Ext.refl _).drewN _), fun h => by omega, fun _ _ => by omega, fun _ _ => rfl⟩
set_option maxRecDepth 100000 in
set_option maxHeartbeats 2000000 in
theorem readLength_bad (b off m c : Nat) (x1 : Int) (w : World) (hm : 2 ≤ m) (g1 : w.cell? ⟨b, off + 1, none⟩ = some (.int .u8 x1)) (h1 : 128 ≤ x1) (h2 : x1 ≤ 255) (h3 : (x1 == 129) = false) (h4 : (x1 == 130) = false) :
    Calls Try.prog 74 #[.slice (some ⟨b, off, none⟩) m c] w fun e w' => e = .returned (.tuple #[.int .i64 0, .int .i64 0, .int .i64 16]) ∧ Ext w w' := by
  go_enter Try.func74, Try.ntmps74
  go_wp2
  go_ret3
  exact ⟨rfl, Ext.refl _⟩
theorem readLength_any {V : Nat → Prop} (bs : List Int) (v : Value) (w : World) (h : RB V w v bs) : Calls Try.prog 74 #[v] w fun e w' => e = .returned (.tuple #[.int .i64 (rl bs).1, .int .i64 (rl bs).2.1, .int .i64 (rl bs).2.2]) ∧ Ext w w' := by
  match bs, h with
  | [], h =>
    obtain ⟨a, c, rfl, _, _⟩ := h.form
    exact readLength_short _ _ _ w (by simp)
  | [x], h =>
    obtain ⟨a, c, rfl, _, _⟩ := h.form
    exact readLength_short _ _ _ w (by simp)
  | x0 :: x1 :: r, h =>
    obtain ⟨b, off, c, rfl, _, _, _, hc⟩ := h.at_ (by simp)
    have g1 := hc 1 (by simp)
    simp only [List.getElem_cons_succ, List.getElem_cons_zero] at g1
    have hb1 := h.byt x1 (by simp)
    by_cases h1 : x1 < 128
    · have e : rl (x0 :: x1 :: r) = (2, x1.toNat, 0) := by simp [rl, h1]
      rw [e]
      refine (readLength_one b off _ c x1 w (by simp) g1 hb1.1 h1).mono fun e w' ⟨he, hw⟩ => ⟨?_, hw⟩
      subst he
      rw [Int.toNat_of_nonneg hb1.1]
      rfl
    by_cases h2 : x1 = 129
    · subst h2
      match r, h, hc with
      | [], h, hc =>
        refine (readLength_129 b off _ c 0 w (by simp) g1 (fun h => by simp at h) (by omega) (by omega)).mono fun e w' ⟨hw, k1, k2, k3⟩ => ⟨?_, hw⟩
        rw [k1 (by simp)]
        rfl
      | x2 :: r, h, hc =>
        have hb2 := h.byt x2 (by simp)
        have g2 := hc 2 (by simp)
        refine (readLength_129 b off _ c x2 w (by simp) g1 (fun _ => g2) hb2.1 hb2.2).mono fun e w' ⟨hw, k1, k2, k3⟩ => ⟨?_, hw⟩
        by_cases h3 : x2 < 128
        · rw [k2 (by simp) h3]
          simp [rl, h3]
        · rw [k3 (by simp) (by omega)]
          simp [rl, h3]
          omega
    by_cases h3 : x1 = 130
    · subst h3
      match r, h, hc with
      | [], h, hc =>
        refine (readLength_130 b off _ c 0 0 w (by simp) g1 (fun h => by simp at h) (fun h => by simp at h) (by omega) (by omega)).mono fun e w' ⟨hw, k1, k2, k3⟩ => ⟨?_, hw⟩
        rw [k1 (by simp)]
        rfl
      | [x2], h, hc =>
        refine (readLength_130 b off _ c 0 0 w (by simp) g1 (fun h => by simp at h) (fun h => by simp at h) (by omega) (by omega)).mono fun e w' ⟨hw, k1, k2, k3⟩ => ⟨?_, hw⟩
        rw [k1 (by simp)]
        rfl
      | x2 :: x3 :: r, h, hc =>
        have hb2 := h.byt x2 (by simp)
        have hb3 := h.byt x3 (by simp)
        have g2 := hc 2 (by simp)
        have g3 := hc 3 (by simp)
        refine (readLength_130 b off _ c x2 x3 w (by simp) g1 (fun _ => g2) (fun _ => g3) hb2 hb3).mono fun e w' ⟨hw, k1, k2, k3⟩ => ⟨?_, hw⟩
        by_cases h3 : x2 * 256 + x3 < 256
        · rw [k2 (by simp) h3]
          simp [rl, h3]
        · rw [k3 (by simp) (by omega)]
          simp [rl, h3]
          omega
    · have e : rl (x0 :: x1 :: r) = (0, 0, 16) := by simp [rl, h1, h2, h3]
      rw [e]
      exact readLength_bad b off _ c x1 w (by simp) g1 (by omega) hb1.2 (by simpa using h2) (by simpa using h3)

/-! ### head of the reference -/
theorem results_tmp4 {fn : Func} {t u v x : Tmp} (h : fn.results = #[.tmp t, .tmp u, .tmp v, .tmp x]) (tmps : Array Value) (P : Program) (w : World) :
    (results fn tmps).run P w = .ok (.tuple #[tmps.getD t undef, tmps.getD u undef, tmps.getD v undef, tmps.getD x undef]) w := by
  simp [results, h]
def RetH (w : World) (t : Int) (f n : Int) (er : Int) (e : Ending) (w' : World) : Prop := e = .returned (.tuple #[.int .i64 t, .int .i64 f, .int .i64 n, .int .i64 er]) ∧ Ext w w'
theorem RetH.done (w : World) (t : Int) (f n : Int) (er : Int) {w' : World} (h : Ext w w') : RetH w t f n er (.returned (.tuple #[.int .i64 t, .int .i64 f, .int .i64 n, .int .i64 er])) w' := ⟨rfl, h⟩
section
variable (b off m c : Nat) (t d x1 x2 x3 : Int) (w : World) (hm : 1 ≤ m) (g0 : w.cell? ⟨b, off, none⟩ = some (.int .u8 t)) (ht : 0 ≤ t ∧ t ≤ 255)
include hm g0 ht
end
end Go.Proofs.Ytimnepfdpehdmaa

namespace Go.Proofs.Ytimnepfdpehdmaa
open Go.RowKit
attribute [local go_sem ↓] Go.wp_at_zero Go.wp_at_succ

/-! ### What they compute -/
def decF {α : Type} (d : Int) (kid : List Int → List α × Int) : Nat → List Int → List (NodeOf α) × Int
  | 0, _ => ([], 0)
  | f + 1, b =>
    if b = [] then ([], 0)
    else if (hd b d).2.2.2 ≠ 0 then ([], (hd b d).2.2.2)
    else if nestB (hd b d).1 = true ∧ (kid ((b.drop (hd b d).2.1).take (hd b d).2.2.1)).2 ≠ 0 then ([], (kid ((b.drop (hd b d).2.1).take (hd b d).2.2.1)).2)
    else if (decF d kid f (b.drop ((hd b d).2.1 + (hd b d).2.2.1))).2 ≠ 0 then ([], (decF d kid f (b.drop ((hd b d).2.1 + (hd b d).2.2.1))).2)
    else (((hd b d).1, if nestB (hd b d).1 = true then ([], (kid ((b.drop (hd b d).2.1).take (hd b d).2.2.1)).1) else ((b.drop (hd b d).2.1).take (hd b d).2.2.1, [])) :: (decF d kid f (b.drop ((hd b d).2.1 + (hd b d).2.2.1))).1, 0)
def decS {α : Type} (d : Int) (kid : List Int → List α × Int) (b : List Int) : List (NodeOf α) × Int := decF d kid b.length b
def decN : (n : Nat) → Int → List Int → List (Nd n) × Int
  | 0, d, b => ([], if b = [] then 0 else (hd b d).2.2.2)
  | n + 1, d, b => decS d (decN n (d + 1)) b

/-- What a good head says. -/
theorem rl_ok {b : List Int} (h : (rl b).2.2 = 0) : 2 ≤ (rl b).1 := by
  unfold rl at h ⊢
  split at h
  · rename_i x0 x1 r
    split at h
    · rename_i h1; simp [h1]
    · rename_i h1
      split at h
      · rename_i h2
        subst h2
        split at h
        · rename_i x2 r
          split at h
          · simp at h
          · rename_i h3; simp [h3]
        · simp at h
      · rename_i h2
        split at h
        · rename_i h3
          subst h3
          split at h
          · rename_i x2 x3 r
            split at h
            · simp at h
            · rename_i h4; simp [h4]
          · simp at h
        · simp at h
  · simp at h
theorem hd_ok {b : List Int} {d : Int} (hb : b ≠ []) (h : (hd b d).2.2.2 = 0) :
    2 ≤ (hd b d).2.1 ∧ (hd b d).2.1 + (hd b d).2.2.1 ≤ b.length ∧ d ≤ 6 ∧ tagB (hd b d).1 = true ∧ b.head? = some (hd b d).1 ∧ (hd b d).2.1 = (rl b).1 ∧ (hd b d).2.2.1 = (rl b).2.1 ∧ (rl b).2.2 = 0 := by
  match b, hb with
  | t :: r, _ =>
    unfold hd at h ⊢
    simp only at h ⊢
    split at h
    · simp at h
    rename_i h1
    split at h
    · simp at h
    rename_i h2
    split at h
    · rename_i h3; exact absurd h h3
    rename_i h3
    split at h
    · simp at h
    rename_i h4
    rw [if_neg h1, if_neg h2, if_neg h3, if_neg h4]
    have h5 : (rl (t :: r)).2.2 = 0 := Classical.not_not.1 h3
    exact ⟨rl_ok h5, by simp only; omega, by omega, by simpa using h1, rfl, rfl, rfl, h5⟩
theorem decF_fuel {α : Type} (d : Int) (kid : List Int → List α × Int) : ∀ (f g : Nat) (b : List Int), b.length ≤ f → b.length ≤ g → decF d kid f b = decF d kid g b
  | 0, 0, _, _, _ => rfl
  | 0, g + 1, b, h, _ => by
    have : b = [] := List.eq_nil_of_length_eq_zero (by omega)
    subst this
    simp [decF]
  | f + 1, 0, b, _, h => by
    have : b = [] := List.eq_nil_of_length_eq_zero (by omega)
    subst this
    simp [decF]
  | f + 1, g + 1, b, hf, hg => by
    unfold decF
    by_cases h0 : b = []
    · rw [if_pos h0, if_pos h0]
    by_cases h1 : (hd b d).2.2.2 = 0
    · have h2 := hd_ok h0 h1
      have h3 := decF_fuel d kid f g (b.drop ((hd b d).2.1 + (hd b d).2.2.1)) (by simp; omega) (by simp; omega)
      rw [h3]
    · rw [if_neg h0, if_neg h0, if_pos h1, if_pos h1]

/-- A result behind nodes that are there already. -/
def runD {α : Type} (acc : List α) (z : List α × Int) : List α × Int := if z.2 ≠ 0 then ([], z.2) else (acc ++ z.1, 0)
theorem runD_nil {α : Type} (d : Int) (kid : List Int → List α × Int) (acc : List (NodeOf α)) : runD acc (decS d kid []) = (acc, 0) := by simp [runD, decS, decF]
theorem runD_zero {α : Type} (d : Int) (kid : List Int → List α × Int) (b : List Int) : runD [] (decS d kid b) = decS d kid b := by
  have key : ∀ f b, (decF d kid f b).2 ≠ 0 → (decF d kid f b).1 = [] := by
    intro f b h
    cases f with
    | zero => rfl
    | succ f =>
      unfold decF at h ⊢
      split
      · rfl
      rename_i h0; rw [if_neg h0] at h
      split
      · rfl
      rename_i h1; rw [if_neg h1] at h
      split
      · rfl
      rename_i h2; rw [if_neg h2] at h
      split
      · rfl
      rename_i h3; rw [if_neg h3] at h
      simp at h
  unfold runD decS
  split
  · rename_i h; exact Prod.ext (key _ _ h).symm rfl
  · rename_i h; exact Prod.ext (by simp) (by simpa using (Classical.not_not.1 h).symm)
theorem decS_step {α : Type} (d : Int) (kid : List Int → List α × Int) {b : List Int} (hb : b ≠ []) (h : (hd b d).2.2.2 = 0) (h2 : nestB (hd b d).1 = true → (kid ((b.drop (hd b d).2.1).take (hd b d).2.2.1)).2 = 0) (acc : List (NodeOf α)) :
    runD acc (decS d kid b) = runD (acc ++ [((hd b d).1, if nestB (hd b d).1 = true then ([], (kid ((b.drop (hd b d).2.1).take (hd b d).2.2.1)).1) else ((b.drop (hd b d).2.1).take (hd b d).2.2.1, []))]) (decS d kid (b.drop ((hd b d).2.1 + (hd b d).2.2.1))) := by
  have hl : ∃ f, b.length = f + 1 := ⟨b.length - 1, by have := List.length_pos_iff.2 hb; omega⟩
  obtain ⟨f, hf⟩ := hl
  have hk := hd_ok hb h
  have e : decS d kid (b.drop ((hd b d).2.1 + (hd b d).2.2.1)) = decF d kid f (b.drop ((hd b d).2.1 + (hd b d).2.2.1)) := decF_fuel d kid _ _ _ (Nat.le_refl _) (by simp; omega)
  rw [e]
  unfold decS
  rw [hf]
  conv => lhs; unfold decF
  rw [if_neg hb, if_neg (by simpa using h), if_neg (fun hh => hh.2 (h2 hh.1))]
  unfold runD
  by_cases h3 : (decF d kid f (b.drop ((hd b d).2.1 + (hd b d).2.2.1))).2 ≠ 0
  · rw [if_pos h3, if_pos h3, if_pos h3]
  · rw [if_neg h3, if_neg h3]
    simp
theorem decS_bad {α : Type} (d : Int) (kid : List Int → List α × Int) {b : List Int} (hb : b ≠ []) (h : (hd b d).2.2.2 ≠ 0) (acc : List (NodeOf α)) :
    runD acc (decS d kid b) = ([], (hd b d).2.2.2) := by
  obtain ⟨f, hf⟩ : ∃ f, b.length = f + 1 := ⟨b.length - 1, by have := List.length_pos_iff.2 hb; omega⟩
  unfold decS
  rw [hf]
  unfold decF
  rw [if_neg hb, if_pos h]
  unfold runD
  rw [if_pos h]
theorem decS_kid {α : Type} (d : Int) (kid : List Int → List α × Int) {b : List Int} (hb : b ≠ []) (h : (hd b d).2.2.2 = 0) (hn : nestB (hd b d).1 = true) (h2 : (kid ((b.drop (hd b d).2.1).take (hd b d).2.2.1)).2 ≠ 0) (acc : List (NodeOf α)) :
    runD acc (decS d kid b) = ([], (kid ((b.drop (hd b d).2.1).take (hd b d).2.2.1)).2) := by
  obtain ⟨f, hf⟩ : ∃ f, b.length = f + 1 := ⟨b.length - 1, by have := List.length_pos_iff.2 hb; omega⟩
  unfold decS
  rw [hf]
  unfold decF
  rw [if_neg hb, if_neg (by simpa using h), if_pos ⟨hn, h2⟩]
  unfold runD
  rw [if_pos h2]

/-! ### Parts of a byte slice -/
theorem RB.sub {V : Nat → Prop} {w : World} {b off m c : Nat} {bs : List Int} (h : RB V w (.slice (some ⟨b, off, none⟩) m c) bs) (f n c' : Nat) (hf : f + n ≤ bs.length) (hc : n ≤ c') (hm : c' ≤ maxLen) :
    RB V w (.slice (some ⟨b, off + f, none⟩) n c') ((bs.drop f).take n) := by
  have hl : ((bs.drop f).take n).length = n := by simp; omega
  refine ⟨(h.byt.drop f).take n, some ⟨b, off + f, none⟩, c', by rw [hl], by omega, hm, fun hne => ?_⟩
  have h0 : 0 < bs.length := by
    have := List.length_pos_iff.2 hne
    omega
  obtain ⟨b1, off1, c1, hv, _, _, hV, hcell⟩ := h.at_ h0
  simp only [Value.slice.injEq, Option.some.injEq, Addr.mk.injEq] at hv
  obtain ⟨⟨rfl, rfl, -⟩, -, -⟩ := hv
  refine ⟨b, off + f, rfl, hV, fun j hj => ?_⟩
  have hj2 : j < n := by omega
  have := hcell (f + j) (by omega)
  rw [show off + f + j = off + (f + j) by omega, this]
  simp

/-- It returns nodes and an error; the nodes lie in new blocks. -/
def RetKE {α : Type} (R : Rk α) (w : World) (z : List α × Int) (e : Ending) (w' : World) : Prop :=
  ∃ a c, e = .returned (.tuple #[.slice a z.1.length c, .int .i64 z.2]) ∧ Ext w w' ∧ ∀ V : Nat → Prop, (∀ k, V k → k < w.heap.size) → R.rk V w' (.slice a z.1.length c) z.1
theorem RetKE.nil {α : Type} (R : Rk (NodeOf α)) (hR : ∀ V w, R.rk V w (.slice none 0 0) []) {w w' : World} (er : Int) (h : Ext w w') : RetKE R w ([], er) (.returned (.tuple #[.slice none 0 0, .int .i64 er])) w' := ⟨none, 0, rfl, h, fun V _ => hR V w'⟩

@[local go_sem] theorem eql_nil (w : World) (a : Option Addr) (n c : Nat) : (binOp .eql 51 (.slice a n c) (.slice none 0 0)).run Try.prog w = .ok (.bool a.isNone) w := Lib.run_eql_slice_nil w _ _ a n c 0 0 Try.underlying51
set_option maxRecDepth 100000 in
set_option maxHeartbeats 2000000 in
theorem clone_any {V : Nat → Prop} (bs : List Int) (v : Value) (w : World) (h : RB V w v bs) (hl : bs.length ≤ 1000000000) : Calls Try.prog 75 #[v] w (RetB w bs) := by
  obtain ⟨i0, hi0, hz0, hz1, hz2⟩ := info_parts info_byte
  obtain ⟨a, c, rfl, hc1, hc2⟩ := h.form
  cases a with
  | none =>
    have hb : bs = [] := by
      cases bs with
      | nil => rfl
      | cons x r =>
        obtain ⟨b, off, c', hv, _⟩ := h.at_ (by simp)
        simp at hv
    subst hb
    clear hc1 hc2 hl
    go_enter Try.func75, Try.ntmps75
    go_wp2
    go_ret
    exact ⟨none, 0, rfl, Ext.refl _, fun V _ => RB.nil V _⟩
  | some a =>
    have HSRC := Lib.hid (Src.bytes (h.ext ((Ext.refl w).alloc (.cells #[] 5))))
    have HBY := Lib.hid h.byt
    have HL0 := Lib.hid (World.ownsRow_lit (base := w.heap.size) (e := 5) (size := 1) w #[] 0 (Nat.le_refl _) (by unfold maxLen; omega) rfl)
    have HO : Hid (∀ (w1 : World) (A1 : Option Addr) (c1 : Nat), w1.ownsRow w.heap.size 5 1 (.slice A1 bs.length c1) bs.length (bs.map (Value.int .u8)) → Ext w w1 → RetB w bs (.returned (.slice A1 bs.length c1)) w1) := fun w1 A1 c1 ho he => ⟨A1, c1, rfl, he, fun V hV => RB.of_own ho HBY.out hV⟩
    generalize hm : bs.map (Value.int .u8) = ms at *
    generalize hn : bs.length = n at *
    clear h hm hn hc1 hc2 HBY
    go_enter Try.func75, Try.ntmps75
    go_wp2_with (at_builtin; refine wpList_append_src _ rfl (.tmp 5) (.tmp 6) _ rfl w.heap.size 5 i0 _ 1 1 Try.underlying51 hi0 hz0 hz1 hz2 rfl (by omega) _ 0 [] rfl HL0.out _ n c _ rfl HSRC.out (by unfold maxLen; omega) (by omega) (by simp) ?_; intro A1 c1 w1 hown1 hg1 hat1; have hE1 : Ext w w1 := ((Ext.refl w).alloc _).grown hg1 (fun g hg => (HL0.out.lt g hg).1); simp only [Nat.zero_add, List.nil_append] at hown1 hat1)
    go_ret
    exact HO.out w1 A1 c1 hown1 hE1
end Go.Proofs.Ytimnepfdpehdmaa

namespace Go.Proofs.Ytimnepfdpehdmaa
open Go.RowKit

/-- Where a part that begins at f begins: Go leaves the address where nothing is left of the capacity. -/
def cutA (b off cap f : Nat) : Option Addr := some (if cap = f then ⟨b, off, none⟩ else ⟨b, off + f, none⟩)
theorem sliced_cut (b off l h m : Nat) : sliced (some ⟨b, off, none⟩) l h m 1 = .slice (cutA b off m l) (h - l) (m - l) := by
  unfold sliced cutA
  split <;> simp [Addr.add]
theorem slice_lh (w : World) (b off len cap f n : Nat) (h : f + n ≤ cap) :
    (Instr.slice 51 (.slice (some ⟨b, off, none⟩) len cap) (some (.int .i64 f)) (some (.int .i64 ((f : Int) + n))) none).run Try.prog w = .ok (.slice (cutA b off cap f) n (cap - f)) w := by
  rw [run_slice_lh w _ _ _ _ (by kernel_rfl) _ _ _ _ (by omega) (by omega) (by omega)]
  have hs : (sizeOf (Try.prog.elem 51)).run Try.prog w = .ok 1 w := by kernel_rfl
  rw [hs]
  simp only [Result.andThen, sliced_cut]
  rw [show ((f : Int) + n).toNat - (f : Int).toNat = n by omega, show (f : Int).toNat = f by omega]
theorem slice_lhm (w : World) (b off len cap f n : Nat) (h : f + n ≤ cap) :
    (Instr.slice 51 (.slice (some ⟨b, off, none⟩) len cap) (some (.int .i64 f)) (some (.int .i64 ((f : Int) + n))) (some (.int .i64 ((f : Int) + n)))).run Try.prog w = .ok (.slice (cutA b off (f + n) f) n n) w := by
  rw [run_slice_lhm w _ _ _ _ (by kernel_rfl) _ _ _ _ _ _ (by omega) (by omega) (by omega) (by omega)]
  have hs : (sizeOf (Try.prog.elem 51)).run Try.prog w = .ok 1 w := by kernel_rfl
  rw [hs]
  simp only [Result.andThen, sliced_cut]
  rw [show ((f : Int) + n).toNat - (f : Int).toNat = n by omega, show (f : Int).toNat = f by omega, show ((f : Int) + n).toNat = f + n by omega]
theorem slice_l (w : World) (b off len cap f n : Nat) (h : f + n ≤ len) :
    (Instr.slice 51 (.slice (some ⟨b, off, none⟩) len cap) (some (.int .i64 ((f : Int) + n))) none none).run Try.prog w = .ok (.slice (cutA b off cap (f + n)) (len - (f + n)) (cap - (f + n))) w := by
  rw [run_slice_l w _ _ _ _ (by kernel_rfl) _ _ (by omega) (by omega)]
  have hs : (sizeOf (Try.prog.elem 51)).run Try.prog w = .ok 1 w := by kernel_rfl
  rw [hs]
  simp only [Result.andThen, sliced_cut]
  rw [show ((f : Int) + n).toNat = f + n by omega]
theorem slice_h (w : World) (b off len cap n : Nat) (h : n ≤ cap) :
    (Instr.slice 51 (.slice (some ⟨b, off, none⟩) len cap) none (some (.int .i64 n)) none).run Try.prog w = .ok (.slice (some ⟨b, off, none⟩) n cap) w := by
  rw [run_slice_h w _ _ _ _ (by kernel_rfl) _ _ (by omega) (by omega)]
  have hs : (sizeOf (Try.prog.elem 51)).run Try.prog w = .ok 1 w := by kernel_rfl
  rw [hs]
  simp only [Result.andThen, sliced_cut]
  rw [show (n : Int).toNat - 0 = n by omega]
  unfold cutA
  simp
theorem RB.cut {V : Nat → Prop} {w : World} {b off m c : Nat} {bs : List Int} (h : RB V w (.slice (some ⟨b, off, none⟩) m c) bs) (f n cap c' : Nat) (hf : f + n ≤ bs.length) (hcap : f + n ≤ cap) (hc : n ≤ c') (hm : c' ≤ maxLen) :
    RB V w (.slice (cutA b off cap f) n c') ((bs.drop f).take n) := by
  have hl : ((bs.drop f).take n).length = n := by simp; omega
  refine ⟨(h.byt.drop f).take n, cutA b off cap f, c', by rw [hl], by omega, hm, fun hne => ?_⟩
  have hn : 0 < n := by
    have := List.length_pos_iff.2 hne
    omega
  obtain ⟨b1, off1, c1, hv, _, _, hV, hcell⟩ := h.at_ (by omega)
  simp only [Value.slice.injEq, Option.some.injEq, Addr.mk.injEq] at hv
  obtain ⟨⟨rfl, rfl, -⟩, -, -⟩ := hv
  refine ⟨b, off + f, ?_, hV, fun j hj => ?_⟩
  · unfold cutA
    rw [if_neg (by omega)]
  · have hj2 : j < n := by omega
    have := hcell (f + j) (by omega)
    rw [show off + f + j = off + (f + j) by omega, this]
    simp
end Go.Proofs.Ytimnepfdpehdmaa

namespace Go.Proofs.Ytimnepfdpehdmaa
open Go.RowKit
attribute [local go_sem ↓] Go.wp_at_zero Go.wp_at_succ
attribute [local go_sem high] slice_lh slice_lhm slice_l slice_h

def lenOf : Value → Nat
  | .slice _ n _ => n
  | _ => 0
def Low (w : World) : Nat → Prop := fun k => k < w.heap.size
theorem nd_nil {α : Type} (R : Rk α) (V : Nat → Prop) (w : World) : (nodesRk R).rk V w (.slice none 0 0) [] := RS.nil _ _ _ _

/-- An empty row of one's own. -/
theorem World.ownsRow_litB (w : World) (B : Nat) (hB : w.heap.size = B) : (w.alloc (.cells #[] 5)).ownsRow B 5 1 (.slice (some ⟨B, 0, none⟩) 0 0) 0 [] := by
  subst hB
  exact World.ownsRow_lit w #[] 0 (Nat.le_refl _) (by unfold maxLen; omega) rfl
theorem Agree.setCell {V : Nat → Prop} {w : World} {p : Addr} (hp : V p.block) (u : Value) : Agree V w (w.setCell p u) :=
  ⟨by simp [World.setCell], fun k _ hk => Below.heap_setCell _ _ _ _ (fun e => hk (by rw [e]; exact hp))⟩
/-- A row that is being built takes one more node. -/
theorem Built.grow {α : Type} {R : Rk α} {V : Nat → Prop} {base : Nat} {e : TypeId} {w : World} {v : Value} {l : List (NodeOf α)} (h : Built R V base e w v l) : ∃ flat : List Value, w.ownsRow base e 3 v l.length flat ∧
    ∀ (x : NodeOf α) (cs : List Value) (w1 w2 : World) (v' : Value), Ext w w1 → cs.length = 3 → nodeRep R (With V v) w1 x cs → w2.ownsRow base e 3 v' (l.length + 1) (flat ++ cs) → w1.grownBy w2 v.ownBlock → (v'.ownBlock = v.ownBlock ∨ v'.ownBlock = some w1.heap.size) → Built R V base e w2 v' (l ++ [x]) := by
  obtain ⟨css, hown, hlen, h3, hrep⟩ := h
  exact ⟨css.flatten, hown, fun x cs w1 w2 v' he hc hx ho hg hat => Built.push hlen h3 hrep hc he hx ho hg hat⟩

/-- What Decode gives. -/
def decTop (n : Nat) (bs : List Int) : List (Nd n) × Int := if 1500 < bs.length then ([], 4) else decN n 0 bs
end Go.Proofs.Ytimnepfdpehdmaa

namespace Go.Proofs.Ytimnepfdpehdmaa
open Go.RowKit
attribute [local go_sem ↓] Go.wp_at_zero Go.wp_at_succ
attribute [local go_sem high] slice_lh slice_lhm slice_l slice_h

/-- A scope whose gotos all go on to one label behind them: the rest is walked where the goto stands. -/
theorem wp_scope_fwd {P : Program} {a : Act} {w : World} {Q : Exit → Act → World → Prop} {c rest : Code} (l : Nat) (hf : findLabel c l = some rest)
    (first : c.wp P (Exit.jump l (fun a w => rest.wp P (Exit.jump l (fun _ _ => False) Q) a w) Q) a w) : (Code.scope c).wp P Q a w :=
  wp_scope_jumps l _ (fun _ _ => 0) hf first fun a w h => Code.wp_mono (fun e a w q => by
    cases e with
    | goto l' => exact ⟨q.1, q.2.elim⟩
    | _ => exact q) h

theorem info_node : (Try.prog.info? 95).map (fun i => (i.zero, i.size, i.bytes)) = some (some (.agg #[.int .i64 0, .slice none 0 0, .slice none 0 0]), 3, 56) := by kernel_rfl

/-- The head in the program's order. -/
theorem hd_parts (b : List Int) (d : Int) (t : Int) (r : List Int) (hb : b = t :: r) : hd b d = if tagB t = false then (0, 0, 0, 15) else if 6 < d then (0, 0, 0, 17) else if (rl b).2.2 ≠ 0 then (0, 0, 0, (rl b).2.2) else if b.length < (rl b).1 + (rl b).2.1 then (0, 0, 0, 13) else (t, (rl b).1, (rl b).2.1, 0) := by
  subst hb; rfl

theorem rl_bound {b : List Int} (hb : Byt b) : (rl b).1 ≤ 4 ∧ (rl b).2.1 ≤ 65535 := by
  unfold rl
  split
  · rename_i x0 x1 r
    have h1 := hb x1 (by simp)
    split
    · simp only; omega
    · split
      · split
        · rename_i x2 r
          have h2 := hb x2 (by simp)
          split <;> simp only <;> omega
        · simp
      · split
        · split
          · rename_i x2 x3 r
            have h2 := hb x2 (by simp)
            have h3 := hb x3 (by simp)
            split <;> simp only <;> omega
          · simp
        · simp
  · simp

set_option maxRecDepth 100000 in
set_option maxHeartbeats 4000000 in
theorem read_step {α : Type} (R : Rk α) (kid : List Int → List α × Int) (d : Int) (bs : List Int) (v : Value) (w : World) (h : RB Any w v bs) (hl : bs.length ≤ 1000000) (hd0 : 0 ≤ d) (hRn : ∀ V w, R.rk V w (.slice none 0 0) [])
    (hk : d ≤ 6 → ∀ w1 kv kb, kb.length ≤ 1000000 → RB Any w1 kv kb → Calls Try.prog 64 #[kv, .int .i64 (d + 1)] w1 (RetKE R w1 (kid kb))) :
    Calls Try.prog 64 #[v, .int .i64 d] w (RetKE (nodesRk R) w (decS d kid bs)) := by
  obtain ⟨i0, hi0, hz0, hz1, hz2⟩ := info_parts info_node
  obtain ⟨a, c, rfl, hc1, hc2⟩ := h.form
  have HH := Lib.hid h
  have HK := Lib.hid hk
  clear h hk hc2 hc1
  go_enter Try.func64, Try.ntmps64
  go_wp2
  refine wp_scope_fwd 0 rfl ?_
  go_wp2
  go_loopw [0, 6] (fun b o wr => ∃ (rest : List Int) (acc : List (NodeOf α)), RB Any w b rest ∧ acc.length + rest.length ≤ bs.length ∧ Built R (Low w) w.heap.size 95 wr o acc ∧ Ext w wr ∧ runD acc (decS d kid rest) = decS d kid bs) (fun b _ _ => lenOf b)
  case atStart => exact ⟨bs, [], HH.out, by simp, Built.nil _ _ _ _ _, Ext.refl _, runD_zero _ _ _⟩
  case round =>
    obtain ⟨rest, acc, hr0, hlen, hbuilt, hx, hrun⟩ := hrel
    have hr := hr0.ext hx
    have HR0 := Lib.hid hr0
    clear hr0
    obtain ⟨ra, rc, rfl, hr1, hr2⟩ := hr.form
    by_cases hne : rest = []
    · subst hne
      rw [runD_nil] at hrun
      have HB := Lib.hid hbuilt
      have HR := Lib.hid hrun
      clear hbuilt hrun
      go_wp2
      obtain ⟨a', c', rfl⟩ := owns_slice HB.out.choose_spec.1
      simp only [Exit.jump]
      go_ret2
      rw [← HR.out]
      exact ⟨a', c', rfl, hx, fun V hV => (nodesRk R).weak (HB.out.done (fun k hk => hk)) (fun k _ hk => hV k hk)⟩
    · have hpos : 0 < rest.length := List.length_pos_iff.2 hne
      obtain ⟨t, r, htr⟩ : ∃ t r, rest = t :: r := by
        cases rest with
        | nil => exact absurd rfl hne
        | cons t r => exact ⟨t, r, rfl⟩
      have hhd := hd_parts rest d t r htr
      have hti := Lib.hid (isTag_any t)
      have hrl := Lib.hid (fun w1 (he : Ext wr w1) => readLength_any rest _ w1 (hr.ext he))
      obtain ⟨b, off, c', hv, hcap, hcm, _, hcell⟩ := hr.at_ hpos
      simp only [Value.slice.injEq] at hv
      obtain ⟨rfl, -, rfl⟩ := hv
      have g0 : wr.cell? ⟨b, off, none⟩ = some (.int .u8 t) := by
        have h5 := hcell 0 hpos
        simp only [Nat.add_zero] at h5
        rw [h5]
        simp [htr]
      have ht1 : 0 ≤ t ∧ t ≤ 255 := hr.byt t (by rw [htr]; simp)
      obtain ⟨ht2, ht3⟩ := ht1
      obtain ⟨hrl1, hrl2⟩ := rl_bound hr.byt
      have hbad := Lib.hid (decS_bad d kid hne)
      have HR := Lib.hid hrun
      have HB := Lib.hid hbuilt
      have HRR := Lib.hid hr
      clear hrun hbuilt hr hcell htr
      have hbb : b < wr.heap.size := World.block_lt_of_cell? _ _ g0
      by_cases htag : tagB t = false
      · rw [if_pos htag] at hhd
        have HB2 := Lib.hid (HR.out.symm.trans (hbad.out (by rw [hhd]; decide) acc))
        rw [hhd] at HB2
        rw [htag] at hti
        generalize rest.length = m at *
        have hmi : (0 : Int) < m := by omega
        clear hbad hhd hrl htag hrl1 hrl2 HR HB HRR HR0 HH HK
        go_wp2_with (first
          | (go_at_call 69; refine (hti.out _).mono ?_; rintro e w1 ⟨rfl, rfl⟩))
        go_step3
        refine ⟨rfl, ?_⟩
        go_wp2
        simp only [Exit.jump]
        go_ret2
        rw [HB2.out]
        exact RetKE.nil (nodesRk R) (nd_nil R) _ (hx.trans ((Ext.refl _).alloc _))
      have htag2 : tagB t = true := by simpa using htag
      rw [if_neg htag] at hhd
      rw [htag2] at hti
      by_cases hdp : 6 < d
      · rw [if_pos hdp] at hhd
        have HB2 := Lib.hid (HR.out.symm.trans (hbad.out (by rw [hhd]; decide) acc))
        rw [hhd] at HB2
        generalize rest.length = m at *
        have hmi : (0 : Int) < m := by omega
        clear hbad hhd hrl htag htag2 hrl1 hrl2 HR HB HRR HR0 HH HK
        go_wp2_with (first
          | (go_at_call 69; refine (hti.out _).mono ?_; rintro e w1 ⟨rfl, rfl⟩))
        go_step3
        refine ⟨rfl, ?_⟩
        go_wp2
        simp only [Exit.jump]
        go_ret2
        rw [HB2.out]
        exact RetKE.nil (nodesRk R) (nd_nil R) _ (hx.trans ((Ext.refl _).alloc _))
      rw [if_neg hdp] at hhd
      have hd6 : d ≤ 6 := by omega
      by_cases hle : (rl rest).2.2 ≠ 0
      · rw [if_pos hle] at hhd
        have HB2 := Lib.hid (HR.out.symm.trans (hbad.out (by rw [hhd]; exact hle) acc))
        rw [hhd] at HB2
        generalize rl rest = H at *
        obtain ⟨f, n, er⟩ := H
        simp only at *
        have her : (er != 0) = true := by simpa using hle
        generalize rest.length = m at *
        have hmi : (0 : Int) < m := by omega
        clear hbad hhd htag htag2 HR HB HRR HR0 HH HK
        go_wp2_with (first
          | (go_at_call 69; refine (hti.out _).mono ?_; rintro e w1 ⟨rfl, rfl⟩)
          | (go_at_call 74; refine (hrl.out _ ((Ext.refl _).alloc _)).mono ?_; rintro e w2 ⟨rfl, he2⟩))
        go_step3
        refine ⟨rfl, ?_⟩
        go_wp2
        simp only [Exit.jump]
        go_ret2
        rw [HB2.out]
        exact RetKE.nil (nodesRk R) (nd_nil R) _ (hx.trans (((Ext.refl _).alloc _).trans he2))
      rw [if_neg hle] at hhd
      have hle0 : (rl rest).2.2 = 0 := Classical.not_not.1 hle
      by_cases hsh : rest.length < (rl rest).1 + (rl rest).2.1
      · rw [if_pos hsh] at hhd
        have HB2 := Lib.hid (HR.out.symm.trans (hbad.out (by rw [hhd]; decide) acc))
        rw [hhd] at HB2
        generalize rl rest = H at *
        obtain ⟨f, n, er⟩ := H
        simp only at *
        subst hle0
        generalize rest.length = m at *
        have hmi : (0 : Int) < m := by omega
        have hsi : (m : Int) - f < n := by omega
        clear hbad hhd htag htag2 HR HB HRR HR0 HH HK
        go_wp2_with (first
          | (go_at_call 69; refine (hti.out _).mono ?_; rintro e w1 ⟨rfl, rfl⟩)
          | (go_at_call 74; refine (hrl.out _ ((Ext.refl _).alloc _)).mono ?_; rintro e w2 ⟨rfl, he2⟩))
        go_step3
        refine ⟨rfl, ?_⟩
        go_wp2
        simp only [Exit.jump]
        go_ret2
        rw [HB2.out]
        exact RetKE.nil (nodesRk R) (nd_nil R) _ (hx.trans (((Ext.refl _).alloc _).trans he2))
      rw [if_neg hsh] at hhd
      have hgood := hd_ok (d := d) hne (by rw [hhd])
      have hstep := Lib.hid (decS_step d kid hne (by rw [hhd]))
      have hkbad := Lib.hid (decS_kid d kid hne (by rw [hhd]))
      rw [hhd] at hgood hstep hkbad
      obtain ⟨h2f, hfn, -, -, -, -, -, -⟩ := hgood
      generalize hrr : rl rest = H at *
      obtain ⟨f, n, er⟩ := H
      simp only at *
      subst hle0
      have HSUB := Lib.hid (fun (w1 : World) (he : Ext wr w1) => (HRR.out.ext he).cut f n)
      have HTAIL : Hid (RB Any w (.slice (cutA b off rc (f + n)) (rest.length - (f + n)) (rc - (f + n))) (rest.drop (f + n))) := by
        have h1 := HR0.out.cut (f + n) (rest.length - (f + n)) rc (rc - (f + n)) (by omega) (by omega) (by omega) (by omega)
        rwa [List.take_of_length_le (by simp)] at h1
      have hnp := Lib.hid (nestedP_any t)
      have hkc := Lib.hid (fun w1 kv => HK.out hd6 w1 kv ((rest.drop f).take n) (by simp; omega))
      obtain ⟨flat, hown, hpush⟩ := HB.out.grow
      have HO := Lib.hid hown
      have HP := Lib.hid hpush
      have hVr : ∀ g, With (Low w) u6 g → g < wr.heap.size := With.lt (fun g hg => hx.lt hg) hown
      have HVR := Lib.hid hVr
      have HXB := Lib.hid ((HRR.out.byt.drop f).take n)
      have hxl : ((rest.drop f).take n).length = n := by simp; omega
      have hclone := Lib.hid (fun w1 kv (h : RB Any w1 kv ((rest.drop f).take n)) => clone_any _ kv w1 h (by omega))
      generalize hX : (rest.drop f).take n = X at *
      generalize hT : rest.drop (f + n) = T at *
      have hTl : T.length = rest.length - (f + n) := by rw [← hT]; simp
      have HXL := Lib.hid hxl
      have HTL := Lib.hid hTl
      generalize hnb : nestB t = nb at *
      generalize hkX : kid X = Y at *
      obtain ⟨ks, ke⟩ := Y
      simp only at *
      generalize hrlen : rest.length = m at *
      generalize hal : acc.length = al at *
      generalize hbl : bs.length = bl at *
      have HAL := Lib.hid hal
      clear hown hpush hVr hbad hX hT hTl hxl hnb hkX hrlen hne hal hbl HH HK hhd hle htag htag2 HRR HR0 HB hrr
      have hmi : (0 : Int) < m := by omega
      have hfc : f + n ≤ rc := by omega
      have hsi : ¬ (m : Int) - f < n := by omega
      cases nb
      · -- a primitive node
        go_wp2_with (first
          | (go_at_call 69; refine (hti.out _).mono ?_; rintro e w1 ⟨rfl, rfl⟩)
          | (go_at_call 74; refine (hrl.out _ ((Ext.refl _).alloc _)).mono ?_; rintro e w1 ⟨rfl, he1⟩)
          | (go_at_call 68; refine (hnp.out _).mono ?_; rintro e w2 ⟨rfl, rfl⟩)
          | (go_at_call 75; refine (hclone.out _ _ (HSUB.out _ (((Ext.refl _).alloc _).trans he1) (f + n) n (by omega) (by omega) (by omega) (by omega))).mono ?_; (rintro e w2 ⟨A2, c2, he, EX2, hrb2⟩; rw [HXL.out] at he hrb2; subst he; have EXX := he1.trans EX2; have EX3 : Ext wr (w2.setCell ⟨wr.heap.size, 1, none⟩ (.slice A2 n c2)) := (((Ext.refl wr).alloc _).trans EXX).setCell (Nat.le_refl _) _; have q3 : w2.frozen? ⟨wr.heap.size, 1, none⟩ = false := (EXX.frozen (p := ⟨wr.heap.size, 1, none⟩) (by simp)).trans (by simp); have q0 := EXX.cell (p := ⟨wr.heap.size, 0, none⟩) (v := .int .i64 t) (by simp); have q1 := EXX.cell (p := ⟨wr.heap.size, 1, none⟩) (v := .slice none 0 0) (by simp); have q2 := EXX.cell (p := ⟨wr.heap.size, 2, none⟩) (v := .slice none 0 0) (by simp)))
          | (at_builtin; refine wpList_append_src _ rfl (.tmp 72) (.tmp 74) _ rfl w.heap.size 95 i0 _ 3 56 Try.underlying90 hi0 hz0 hz1 hz2 rfl (by omega) u6 al flat rfl (own_ext HO.out (EX3.alloc _)) _ 1 1 _ rfl (Src.litB _ #[.int .i64 t, (.slice A2 n c2), (.slice none 0 0)] _ 3 _ (by simp) rfl (by simp [Value.oneCell'])) (by unfold maxLen; omega) (by omega) (Nat.le_trans (hx.trans EX3).size (by simp)) ?_; intro A3 c3 w3 hown3 hg3 hat3))
        have hx3 : Ext w w3 := (hx.trans (EX3.alloc _)).grown hg3 (fun g hg => (HO.out.lt g hg).1)
        have hnode : nodeRep R (With (Low w) u6) ((w2.setCell ⟨wr.heap.size, 1, none⟩ (.slice A2 n c2)).alloc (.cells #[.int .i64 t, (.slice A2 n c2), (.slice none 0 0)] 95)) (t, X, []) [.int .i64 t, (.slice A2 n c2), (.slice none 0 0)] := by
          refine ⟨_, _, rfl, ?_, hRn _ _⟩
          have h5 := hrb2 (fun k => k < wr.heap.size + 1) (fun k hk => Nat.lt_of_lt_of_le hk (by have := he1.size; simpa using this))
          exact ((h5.agree (Agree.setCell (p := ⟨wr.heap.size, 1, none⟩) (Nat.lt_succ_self _) _)).ext ((Ext.refl _).alloc _)).weak (fun k _ hk => Nat.lt_succ_of_lt (HVR.out k hk))
        have hB3 := HP.out (t, X, []) [.int .i64 t, (.slice A2 n c2), (.slice none 0 0)] _ w3 (.slice A3 (al + 1) c3) (EX3.alloc _) rfl hnode hown3 hg3 hat3
        have hrun3 := hstep.out (fun h => by cases h) acc
        rw [HR.out] at hrun3
        refine ⟨⟨T, acc ++ [(t, X, [])], HTAIL.out, ?_, hB3, hx3, ?_⟩, ?_⟩
        · rw [List.length_append, HAL.out, HTL.out]; simp; omega
        · rw [hrun3]; simp
        · simp only [lenOf]; omega
      · by_cases hke : ke = 0
        · subst hke
          go_wp2_with (first
            | (go_at_call 69; refine (hti.out _).mono ?_; rintro e w1 ⟨rfl, rfl⟩)
            | (go_at_call 74; refine (hrl.out _ ((Ext.refl _).alloc _)).mono ?_; rintro e w1 ⟨rfl, he1⟩)
            | (go_at_call 68; refine (hnp.out _).mono ?_; rintro e w2 ⟨rfl, rfl⟩)
            | (go_at_call 64; refine (hkc.out _ _ (HSUB.out _ (((Ext.refl _).alloc _).trans he1) (f + n) n (by omega) (by omega) (by omega) (by omega))).mono ?_; (rintro e w2 ⟨A2, c2, rfl, EX2, hrk2⟩; have EXX := he1.trans EX2; have EX3 : Ext wr (w2.setCell ⟨wr.heap.size, 2, none⟩ (.slice A2 ks.length c2)) := (((Ext.refl wr).alloc _).trans EXX).setCell (Nat.le_refl _) _; have q3 : w2.frozen? ⟨wr.heap.size, 2, none⟩ = false := (EXX.frozen (p := ⟨wr.heap.size, 2, none⟩) (by simp)).trans (by simp); have q0 := EXX.cell (p := ⟨wr.heap.size, 0, none⟩) (v := .int .i64 t) (by simp); have q1 := EXX.cell (p := ⟨wr.heap.size, 1, none⟩) (v := .slice none 0 0) (by simp); have q2 := EXX.cell (p := ⟨wr.heap.size, 2, none⟩) (v := .slice none 0 0) (by simp)))
            | (at_builtin; refine wpList_append_src _ rfl (.tmp 72) (.tmp 74) _ rfl w.heap.size 95 i0 _ 3 56 Try.underlying90 hi0 hz0 hz1 hz2 rfl (by omega) u6 al flat rfl (own_ext HO.out (EX3.alloc _)) _ 1 1 _ rfl (Src.litB _ #[.int .i64 t, (.slice none 0 0), (.slice A2 ks.length c2)] _ 3 _ (by simp) rfl (by simp [Value.oneCell'])) (by unfold maxLen; omega) (by omega) (Nat.le_trans (hx.trans EX3).size (by simp)) ?_; intro A3 c3 w3 hown3 hg3 hat3))
          have hx3 : Ext w w3 := (hx.trans (EX3.alloc _)).grown hg3 (fun g hg => (HO.out.lt g hg).1)
          have hnode : nodeRep R (With (Low w) u6) ((w2.setCell ⟨wr.heap.size, 2, none⟩ (.slice A2 ks.length c2)).alloc (.cells #[.int .i64 t, (.slice none 0 0), (.slice A2 ks.length c2)] 95)) (t, [], ks) [.int .i64 t, (.slice none 0 0), (.slice A2 ks.length c2)] := by
            refine ⟨_, _, rfl, RB.nil _ _, ?_⟩
            have h5 := hrk2 (fun k => k < wr.heap.size + 1) (fun k hk => Nat.lt_of_lt_of_le hk (by have := he1.size; simpa using this))
            exact R.weak (R.ext (R.agree h5 (Agree.setCell (p := ⟨wr.heap.size, 2, none⟩) (Nat.lt_succ_self _) _)) ((Ext.refl _).alloc _)) (fun k _ hk => Nat.lt_succ_of_lt (HVR.out k hk))
          have hB3 := HP.out (t, [], ks) [.int .i64 t, (.slice none 0 0), (.slice A2 ks.length c2)] _ w3 (.slice A3 (al + 1) c3) (EX3.alloc _) rfl hnode hown3 hg3 hat3
          have hrun3 := hstep.out (fun _ => by first | rfl | trivial) acc
          rw [HR.out] at hrun3
          refine ⟨⟨T, acc ++ [(t, [], ks)], HTAIL.out, ?_, hB3, hx3, ?_⟩, ?_⟩
          · rw [List.length_append, HAL.out, HTL.out]; simp; omega
          · rw [hrun3]; simp
          · simp only [lenOf]; omega
        · have hke2 : (ke != 0) = true := by simpa using hke
          have HKB := Lib.hid (HR.out.symm.trans (hkbad.out rfl hke acc))
          clear hkbad hstep
          go_wp2_with (first
            | (go_at_call 69; refine (hti.out _).mono ?_; rintro e w1 ⟨rfl, rfl⟩)
            | (go_at_call 74; refine (hrl.out _ ((Ext.refl _).alloc _)).mono ?_; rintro e w1 ⟨rfl, he1⟩)
            | (go_at_call 68; refine (hnp.out _).mono ?_; rintro e w2 ⟨rfl, rfl⟩)
            | (go_at_call 64; refine (hkc.out _ _ (HSUB.out _ (((Ext.refl _).alloc _).trans he1) (f + n) n (by omega) (by omega) (by omega) (by omega))).mono ?_; (rintro e w2 ⟨A2, c2, rfl, EX2, hrk2⟩; have EXX := he1.trans EX2; have q3 : w2.frozen? ⟨wr.heap.size, 2, none⟩ = false := (EXX.frozen (p := ⟨wr.heap.size, 2, none⟩) (by simp)).trans (by simp); have q0 := EXX.cell (p := ⟨wr.heap.size, 0, none⟩) (v := .int .i64 t) (by simp); have q1 := EXX.cell (p := ⟨wr.heap.size, 1, none⟩) (v := .slice none 0 0) (by simp); have q2 := EXX.cell (p := ⟨wr.heap.size, 2, none⟩) (v := .slice none 0 0) (by simp))))
          go_step3
          refine ⟨rfl, ?_⟩
          go_wp2
          simp only [Exit.jump]
          go_ret2
          rw [HKB.out]
          exact RetKE.nil (nodesRk R) (nd_nil R) ke (hx.trans ((((Ext.refl wr).alloc _).trans EXX).setCell (Nat.le_refl _) _))
theorem read_any : ∀ (n : Nat) (d : Int) (bs : List Int) (v : Value) (w : World), 7 ≤ n + d → 0 ≤ d → RB Any w v bs → bs.length ≤ 1000000 → Calls Try.prog 64 #[v, .int .i64 d] w (RetKE (RkN n) w (decN n d bs))
  | 0, d, bs, v, w, h7, h0, h, hl => by
    refine (read_step emptyRk (fun _ => ([], 0)) d bs v w h hl h0 (fun V w => rk_nil 0 V w) (fun h6 => by omega)).mono fun e w' ⟨a, c, he, hx, hr⟩ => ?_
    have e1 : decS (α := Empty) d (fun _ => ([], 0)) bs = ([], (decN 0 d bs).2) := by
      have k := runD_zero (α := Empty) d (fun _ => ([], 0)) bs
      by_cases hb : bs = []
      · subst hb; rfl
      · have h1 : (hd bs d).2.2.2 ≠ 0 := fun h1 => by have := (hd_ok hb h1).2.2.1; omega
        rw [← k, decS_bad d _ hb h1]
        simp [decN, hb]
    rw [e1] at he hr
    exact ⟨a, c, he, hx, fun V hV => (by
      obtain ⟨a', c', hv, h1, h2, _⟩ := (show RS V 3 _ w' _ [] from hr V hV)
      exact ⟨a', c', hv, h1, h2, fun h => absurd rfl h⟩ : RS V 3 (fun _ (_ : Empty) _ => True) w' _ [])⟩
  | n + 1, d, bs, v, w, h7, h0, h, hl => read_step (RkN n) (decN n (d + 1)) d bs v w h hl h0 (fun V w => rk_nil n V w) (fun h6 w1 kv kb hkl hkb => read_any n (d + 1) kb kv w1 (by omega) (by omega) hkb hkl)
theorem decodeP_any (n : Nat) (bs : List Int) (v : Value) (w : World) (hn : 7 ≤ n) (h : RB Any w v bs) : Calls Try.prog 46 #[v] w (RetKE (RkN n) w (decTop n bs)) := by
  obtain ⟨a, c, rfl, _, _⟩ := h.form
  by_cases hl : 1500 < bs.length
  · have e : decTop n bs = ([], 4) := by unfold decTop; rw [if_pos hl]
    rw [e]
    generalize bs.length = m at *
    have hm : (1500 : Int) < m := by omega
    clear e
    go_enter Try.func46, Try.ntmps46
    go_wp2
    go_ret2
    exact ⟨none, 0, rfl, Ext.refl _, fun V _ => rk_nil n V _⟩
  · have e : decTop n bs = decN n 0 bs := by unfold decTop; rw [if_neg hl]
    rw [e]
    have hc := Lib.hid (read_any n 0 bs _ w (by omega) (by omega) h (by omega))
    generalize decN n 0 bs = z at *
    generalize bs.length = m at *
    have hm : (m : Int) ≤ 1500 := by omega
    clear e
    go_enter Try.func46, Try.ntmps46
    go_wp2_with (go_at_call 64; refine hc.out.mono ?_; rintro e w1 ⟨a1, c1, rfl, he1, hr1⟩)
    go_ret2
    exact ⟨a1, c1, rfl, he1, hr1⟩
end Go.Proofs.Ytimnepfdpehdmaa

namespace Go.Proofs.Ytimnepfdpehdmaa
open Go.RowKit

/-! ### Heads of encodings -/
theorem lenB_lo {k : Nat} (h : k < 128) : lenB k = [(k : Int)] := by unfold lenB; rw [if_pos h]
theorem lenB_mid {k : Nat} (h1 : ¬ k < 128) (h2 : k < 256) : lenB k = [129, (k : Int)] := by unfold lenB; rw [if_neg h1, if_pos h2]
theorem lenB_hi {k : Nat} (h1 : ¬ k < 128) (h2 : ¬ k < 256) : lenB k = [130, (k : Int) / 256 % 256, (k : Int) % 256] := by unfold lenB; rw [if_neg h1, if_neg h2]
theorem rl_enc (t : Int) (k : Nat) (r : List Int) (hk : k ≤ 65535) : rl (t :: (lenB k ++ r)) = (1 + (lenB k).length, k, 0) := by
  by_cases h1 : k < 128
  · rw [lenB_lo h1]
    simp only [List.cons_append, List.nil_append, rl, List.length_cons, List.length_nil]
    rw [if_pos (by omega)]
    simp
  by_cases h2 : k < 256
  · rw [lenB_mid h1 h2]
    simp only [List.cons_append, List.nil_append, rl, List.length_cons, List.length_nil]
    rw [if_neg (by omega), if_pos trivial, if_neg (by omega)]
    simp
  · rw [lenB_hi h1 h2]
    simp only [List.cons_append, List.nil_append, rl, List.length_cons, List.length_nil]
    rw [if_neg (by omega), if_neg (by omega), if_pos trivial, if_neg (by omega)]
    simp only [Prod.mk.injEq, true_and, and_true]
    omega
theorem hd_enc (t : Int) (k : Nat) (r : List Int) (d : Int) (ht : tagB t = true) (hd6 : d ≤ 6) (hk : k ≤ 65535) (hr : k ≤ r.length) : hd (t :: (lenB k ++ r)) d = (t, 1 + (lenB k).length, k, 0) := by
  unfold hd
  simp only
  rw [rl_enc t k r hk, if_neg (by simp [ht]), if_neg (by omega), if_neg (by simp), if_neg (by simp; omega)]
theorem drop_enc (t : Int) (k : Nat) (r : List Int) : (t :: (lenB k ++ r)).drop (1 + (lenB k).length) = r := by
  rw [Nat.add_comm, List.drop_succ_cons, List.drop_left]
/-- The head gives back the bytes of the length. -/
theorem rl_inv {t : Int} {r : List Int} (hb : Byt (t :: r)) (h : (rl (t :: r)).2.2 = 0) : (rl (t :: r)).1 = 1 + (lenB (rl (t :: r)).2.1).length ∧ t :: r = t :: (lenB (rl (t :: r)).2.1 ++ (t :: r).drop (rl (t :: r)).1) := by
  match r, hb, h with
  | [], hb, h => simp [rl] at h
  | x1 :: r, hb, h =>
    have b1 := hb x1 (by simp)
    by_cases h1 : x1 < 128
    · have e : rl (t :: x1 :: r) = (2, x1.toNat, 0) := by simp [rl, h1]
      rw [e]
      simp only
      rw [lenB_lo (by omega)]
      simp
      omega
    by_cases h2 : x1 = 129
    · subst h2
      match r, hb, h with
      | [], hb, h => simp [rl] at h
      | x2 :: r, hb, h =>
        have b2 := hb x2 (by simp)
        by_cases h3 : x2 < 128
        · simp [rl, h3] at h
        · have e : rl (t :: 129 :: x2 :: r) = (3, x2.toNat, 0) := by simp [rl, h3]
          rw [e]
          simp only
          rw [lenB_mid (by omega) (by omega)]
          simp
          omega
    by_cases h3 : x1 = 130
    · subst h3
      match r, hb, h with
      | [], hb, h => simp [rl] at h
      | [x2], hb, h => simp [rl] at h
      | x2 :: x3 :: r, hb, h =>
        have b2 := hb x2 (by simp)
        have b3 := hb x3 (by simp)
        by_cases h4 : x2 * 256 + x3 < 256
        · simp [rl, h4] at h
        · have e : rl (t :: 130 :: x2 :: x3 :: r) = (4, (x2 * 256 + x3).toNat, 0) := by simp [rl, h4]
          rw [e]
          simp only
          rw [lenB_hi (by omega) (by omega)]
          simp
          omega
    · simp [rl, h1, h2, h3] at h

/-! ### What an encoding decodes to -/
theorem tagB_in {t : Int} (h : tagB t = true) : 1 ≤ t ∧ t ≤ 254 := by
  unfold tagB at h
  simp only [Bool.and_eq_true, decide_eq_true_eq] at h
  exact h.1
theorem errS_zero {α : Type} {ek : List α → Int → Int} {d : Int} {x : NodeOf α} (h : errS ek d x = 0) : tagB x.1 = true ∧ d ≤ 6 ∧ (nestB x.1 = true → x.2.1 = []) ∧ (nestB x.1 = false → x.2.2 = []) ∧ ek x.2.2 (d + 1) = 0 := by
  unfold errS at h
  split at h
  · simp at h
  rename_i h1
  split at h
  · simp at h
  rename_i h2
  split at h
  · simp at h
  rename_i h3
  refine ⟨by simpa using h1, by omega, fun hn => ?_, fun hn => ?_, h⟩
  · exact List.eq_nil_of_length_eq_zero (by
      rcases Nat.eq_zero_or_pos x.2.1.length with h | h
      · exact h
      · exact absurd (Or.inl ⟨hn, h⟩) h3)
  · exact List.eq_nil_of_length_eq_zero (by
      rcases Nat.eq_zero_or_pos x.2.2.length with h | h
      · exact h
      · exact absurd (Or.inr ⟨hn, h⟩) h3)
theorem dec_encS {α : Type} (ek : List α → List Int) (kid : List Int → List α × Int) (ck : List α → Int → Int) (d : Int) (hnil : ek [] = []) (r : List Int) : ∀ (l acc : List (NodeOf α)), (∀ x ∈ l, errS ck d x = 0) → (∀ x ∈ l, x.2.1.length + (ek x.2.2).length ≤ 65535) → (∀ x ∈ l, kid (ek x.2.2) = (x.2.2, 0)) →
    runD acc (decS d kid (encS ek l ++ r)) = runD (acc ++ l) (decS d kid r)
  | [], acc, _, _, _ => by simp [encS]
  | x :: l, acc, h1, h2, h3 => by
    have ih := dec_encS ek kid ck d hnil r l (acc ++ [x]) (fun y hy => h1 y (by simp [hy])) (fun y hy => h2 y (by simp [hy])) (fun y hy => h3 y (by simp [hy]))
    obtain ⟨ht, hd6, hn1, hn2, _⟩ := errS_zero (h1 x (by simp))
    have hb := h2 x (by simp)
    have hk := h3 x (by simp)
    obtain ⟨t, da, ks⟩ := x
    simp only at ht hn1 hn2 hb hk
    have htm : t % 256 = t := by have := tagB_in ht; omega
    have e : encS ek ((t, da, ks) :: l) ++ r = t :: (lenB (da ++ ek ks).length ++ ((da ++ ek ks) ++ (encS ek l ++ r))) := by
      simp [encS, encE, htm]
    rw [e]
    have hh := hd_enc t (da ++ ek ks).length ((da ++ ek ks) ++ (encS ek l ++ r)) d ht hd6 (by simpa using hb) (by simp)
    have hdr := drop_enc t (da ++ ek ks).length ((da ++ ek ks) ++ (encS ek l ++ r))
    generalize hB : t :: (lenB (da ++ ek ks).length ++ ((da ++ ek ks) ++ (encS ek l ++ r))) = B at *
    have hne : B ≠ [] := by rw [← hB]; simp
    have hbody : (B.drop (hd B d).2.1).take (hd B d).2.2.1 = da ++ ek ks := by
      rw [hh]; simp only; rw [hdr, List.take_left]
    have htail : B.drop ((hd B d).2.1 + (hd B d).2.2.1) = encS ek l ++ r := by
      rw [hh]; simp only; rw [← List.drop_drop, hdr, List.drop_left]
    have hst := decS_step d kid hne (by rw [hh]) (fun hn => by
      rw [hbody]
      rw [hh] at hn
      simp only at hn
      rw [hn1 hn, List.nil_append, hk]) acc
    rw [hst, htail, hbody, hh]
    simp only
    have hx : ((t, if nestB t = true then ([], (kid (da ++ ek ks)).1) else (da ++ ek ks, [])) : NodeOf α) = (t, da, ks) := by
      by_cases hn : nestB t = true
      · rw [if_pos hn, hn1 hn, List.nil_append, hk]
      · rw [if_neg hn, hn2 (by simpa using hn), hnil, List.append_nil]
    rw [hx, ih, List.append_assoc]
    rfl
theorem dec_encS1 {α : Type} (ek : List α → List Int) (kid : List Int → List α × Int) (ck : List α → Int → Int) (d : Int) (hnil : ek [] = []) (r : List Int) (l : List (NodeOf α)) (h1 : ∀ x ∈ l, errS ck d x = 0) (h2 : ∀ x ∈ l, x.2.1.length + (ek x.2.2).length ≤ 65535) (h3 : ∀ x ∈ l, kid (ek x.2.2) = (x.2.2, 0)) :
    decS d kid (encS ek l ++ r) = runD l (decS d kid r) := by
  have key := dec_encS ek kid ck d hnil r l [] h1 h2 h3
  rwa [runD_zero, List.nil_append] at key
theorem dec_encS0 {α : Type} (ek : List α → List Int) (kid : List Int → List α × Int) (ck : List α → Int → Int) (d : Int) (hnil : ek [] = []) (l : List (NodeOf α)) (h1 : ∀ x ∈ l, errS ck d x = 0) (h2 : ∀ x ∈ l, x.2.1.length + (ek x.2.2).length ≤ 65535) (h3 : ∀ x ∈ l, kid (ek x.2.2) = (x.2.2, 0)) :
    decS d kid (encS ek l) = (l, 0) := by
  have key := dec_encS1 ek kid ck d hnil [] l h1 h2 h3
  rwa [List.append_nil, runD_nil] at key
theorem szS_mem {α : Type} (zk : List α → Nat) (l : List (NodeOf α)) (x : NodeOf α) (h : x ∈ l) : x.2.1.length + zk x.2.2 ≤ szS zk l := by
  have := sum_mem_le (szE zk) l x h
  unfold szS
  unfold szE at this ⊢
  omega
theorem dec_encN : ∀ (n : Nat) (d : Int) (l : List (Nd n)), chkN n l d = 0 → szN n l ≤ 65535 → decN n d (encN n l) = (l, 0)
  | 0, d, l, _, _ => by rw [nd_zero l]; rfl
  | n + 1, d, l, h, hs => by
    have h1 : ∀ x ∈ (show List (NodeOf (Nd n)) from l), errS (chkN n) d x = 0 := fstErr_zero (errS (chkN n) d) l h
    have hz : ∀ x ∈ (show List (NodeOf (Nd n)) from l), x.2.1.length + szN n x.2.2 ≤ 65535 := fun x hx => Nat.le_trans (szS_mem (szN n) l x hx) hs
    exact dec_encS0 (encN n) (decN n (d + 1)) (chkN n) d (encN_nil n) l h1 (fun x hx => by rw [encN_len]; exact hz x hx) (fun x hx => dec_encN n (d + 1) x.2.2 (errS_zero (h1 x hx)).2.2.2.2 (by have := hz x hx; omega))
/-- The same, with bytes behind. -/
theorem dec_encN_more (n : Nat) (d : Int) (l : List (Nd (n + 1))) (r : List Int) (h : chkN (n + 1) l d = 0) (hs : szN (n + 1) l ≤ 65535) : decN (n + 1) d (encN (n + 1) l ++ r) = runD l (decN (n + 1) d r) := by
  have h1 : ∀ x ∈ (show List (NodeOf (Nd n)) from l), errS (chkN n) d x = 0 := fstErr_zero (errS (chkN n) d) l h
  have hz : ∀ x ∈ (show List (NodeOf (Nd n)) from l), x.2.1.length + szN n x.2.2 ≤ 65535 := fun x hx => Nat.le_trans (szS_mem (szN n) l x hx) hs
  exact dec_encS1 (encN n) (decN n (d + 1)) (chkN n) d (encN_nil n) r l h1 (fun x hx => by rw [encN_len]; exact hz x hx) (fun x hx => dec_encN n (d + 1) x.2.2 (errS_zero (h1 x hx)).2.2.2.2 (by have := hz x hx; omega))

/-! ### What is decoded encodes to the bytes -/
theorem enc_decF {α : Type} (ek : List α → List Int) (kid : List Int → List α × Int) (ck : List α → Int → Int) (d : Int) (hnil : ek [] = []) (hcnil : ck [] (d + 1) = 0)
    (hk : d ≤ 6 → ∀ b, Byt b → (kid b).2 = 0 → ck (kid b).1 (d + 1) = 0 ∧ ek (kid b).1 = b) : ∀ (f : Nat) (b : List Int), b.length ≤ f → Byt b → (decF d kid f b).2 = 0 → (∀ x ∈ (decF d kid f b).1, errS ck d x = 0) ∧ encS ek (decF d kid f b).1 = b
  | 0, b, hl, _, _ => by
    have : b = [] := List.eq_nil_of_length_eq_zero (by omega)
    subst this
    simp [decF, encS]
  | f + 1, b, hl, hb, h => by
    unfold decF at h ⊢
    by_cases h0 : b = []
    · rw [if_pos h0]; subst h0; simp [encS]
    rw [if_neg h0] at h ⊢
    by_cases h1 : (hd b d).2.2.2 ≠ 0
    · rw [if_pos h1] at h; exact absurd h h1
    rw [if_neg h1] at h ⊢
    have hz : (hd b d).2.2.2 = 0 := Classical.not_not.1 h1
    by_cases h2 : nestB (hd b d).1 = true ∧ (kid ((b.drop (hd b d).2.1).take (hd b d).2.2.1)).2 ≠ 0
    · rw [if_pos h2] at h; exact absurd h h2.2
    rw [if_neg h2] at h ⊢
    by_cases h3 : (decF d kid f (b.drop ((hd b d).2.1 + (hd b d).2.2.1))).2 ≠ 0
    · rw [if_pos h3] at h; exact absurd h h3
    rw [if_neg h3]
    have hg := hd_ok h0 hz
    obtain ⟨g1, g2, g3, g4, g5, g6, g7, g8⟩ := hg
    have ih := enc_decF ek kid ck d hnil hcnil hk f (b.drop ((hd b d).2.1 + (hd b d).2.2.1)) (by simp; omega) (hb.drop _) (Classical.not_not.1 h3)
    obtain ⟨t, r, htr⟩ : ∃ t r, b = t :: r := by
      cases b with
      | nil => exact absurd rfl h0
      | cons t r => exact ⟨t, r, rfl⟩
    have hinv := rl_inv (t := t) (r := r) (by rw [← htr]; exact hb) (by rw [← htr]; exact g8)
    rw [← htr, ← g6, ← g7] at hinv
    have htt : (hd b d).1 = t := by rw [htr] at g5 ⊢; simpa using g5.symm
    rw [htt] at h2 g4 ⊢
    generalize (hd b d).2.1 = F at *
    generalize (hd b d).2.2.1 = K at *
    have hX : ((b.drop F).take K).length = K := by simp; omega
    have hsplit : b = t :: (lenB K ++ ((b.drop F).take K ++ b.drop (F + K))) := by
      have e1 : b.drop F = (b.drop F).take K ++ b.drop (F + K) := by
        rw [← List.drop_drop]; exact (List.take_append_drop K (b.drop F)).symm
      rw [← e1]; exact hinv.2
    generalize hXX : (b.drop F).take K = X at *
    have hXb : Byt X := by rw [← hXX]; exact (hb.drop F).take K
    have htm : t % 256 = t := by have := tagB_in g4; omega
    by_cases hn : nestB t = true
    · rw [if_pos hn]
      have hk0 : (kid X).2 = 0 := by
        rcases Classical.em ((kid X).2 = 0) with h | h
        · exact h
        · exact absurd ⟨hn, h⟩ h2
      obtain ⟨k1, k2⟩ := hk g3 X hXb hk0
      refine ⟨fun x hx => ?_, ?_⟩
      · rcases List.mem_cons.1 hx with hx | hx
        · subst hx
          unfold errS
          simp only
          rw [if_neg (by simp [g4]), if_neg (by omega), if_neg (by simp [hn])]
          exact k1
        · exact ih.1 x hx
      · have e2 := ih.2
        unfold encS at e2 ⊢
        rw [List.flatMap_cons, e2]
        unfold encE
        simp only [k2, htm, List.length_nil, Nat.zero_add, List.nil_append, hX]
        rw [List.cons_append, List.append_assoc]
        exact hsplit.symm
    · rw [if_neg hn]
      have hn' : nestB t = false := by simpa using hn
      refine ⟨fun x hx => ?_, ?_⟩
      · rcases List.mem_cons.1 hx with hx | hx
        · subst hx
          unfold errS
          simp only
          rw [if_neg (by simp [g4]), if_neg (by omega), if_neg (by simp [hn'])]
          exact hcnil
        · exact ih.1 x hx
      · have e2 := ih.2
        unfold encS at e2 ⊢
        rw [List.flatMap_cons, e2]
        unfold encE
        simp only [hnil, htm, List.length_nil, Nat.add_zero, List.append_nil, hX]
        rw [List.cons_append, List.append_assoc]
        exact hsplit.symm
theorem enc_decN : ∀ (n : Nat) (d : Int) (b : List Int), 7 ≤ n + d → Byt b → (decN n d b).2 = 0 → chkN n (decN n d b).1 d = 0 ∧ encN n (decN n d b).1 = b
  | 0, d, b, h7, _, h => by
    by_cases h0 : b = []
    · subst h0; exact ⟨rfl, rfl⟩
    · have h1 : (hd b d).2.2.2 = 0 := by simpa [decN, h0] using h
      have := (hd_ok h0 h1).2.2.1
      omega
  | n + 1, d, b, h7, hb, h => by
    have key := enc_decF (encN n) (decN n (d + 1)) (chkN n) d (encN_nil n) (chkN_nil n _) (fun _ b' hb' h' => enc_decN n (d + 1) b' (by omega) hb' h') b.length b (Nat.le_refl _) hb h
    exact ⟨fstErr_of_zero (errS (chkN n) d) _ key.1, key.2⟩

/-! ### The statements' own words -/
theorem decTop_bad (n : Nat) (b : List Int) (h : (decTop n b).2 ≠ 0) : (decTop n b).1 = [] := by
  unfold decTop at h ⊢
  split
  · rfl
  · rename_i h1
    rw [if_neg h1] at h
    cases n with
    | zero => rfl
    | succ n =>
      have k := runD_zero 0 (decN n (0 + 1)) b
      have e : decN (n + 1) 0 b = decS 0 (decN n (0 + 1)) b := rfl
      rw [e] at h ⊢
      rw [← k]
      unfold runD
      rw [if_pos h]
      rfl
theorem canonical (n : Nat) (b : List Int) (h7 : 7 ≤ n) (hb : Byt b) (h : (decTop n b).2 = 0) : encErr n (decTop n b).1 = 0 ∧ encOut n (decTop n b).1 = b := by
  unfold decTop at h ⊢
  split at h
  · simp at h
  rename_i h1
  rw [if_neg h1]
  obtain ⟨k1, k2⟩ := enc_decN n 0 b (by omega) hb h
  have hs : szN n (decN n 0 b).1 ≤ 1500 := by rw [← encN_len, k2]; omega
  unfold encErr encOut
  rw [if_pos k1, if_pos hs, if_pos k1, if_pos hs]
  exact ⟨rfl, k2⟩
theorem encErr_zero {n : Nat} {l : List (Nd n)} (h : encErr n l = 0) : chkN n l 0 = 0 ∧ szN n l ≤ 1500 ∧ encOut n l = encN n l ∧ (encOut n l).length = szN n l := by
  unfold encErr at h
  by_cases h1 : chkN n l 0 = 0
  · rw [if_pos h1] at h
    by_cases h2 : szN n l ≤ 1500
    · have e : encOut n l = encN n l := by unfold encOut; rw [if_pos h1, if_pos h2]
      exact ⟨h1, h2, e, by rw [e, encN_len]⟩
    · rw [if_neg h2] at h; simp at h
  · rw [if_neg h1] at h; exact absurd h h1
theorem encOut_bad {n : Nat} {l : List (Nd n)} (h : encErr n l ≠ 0) : encOut n l = [] := by
  unfold encErr at h
  unfold encOut
  by_cases h1 : chkN n l 0 = 0
  · rw [if_pos h1] at h ⊢
    by_cases h2 : szN n l ≤ 1500
    · rw [if_pos h2] at h; exact absurd rfl h
    · rw [if_neg h2]
  · rw [if_neg h1]
theorem round_trip (n : Nat) (l : List (Nd n)) (h : encErr n l = 0) : decTop n (encOut n l) = (l, 0) ∧ sizeOut n l = (encOut n l).length ∧ (encOut n l).length ≤ 1500 := by
  obtain ⟨h1, h2, h3, h4⟩ := encErr_zero h
  refine ⟨?_, ?_, by omega⟩
  · unfold decTop
    rw [if_neg (by omega), h3]
    exact dec_encN n 0 l h1 (by omega)
  · unfold sizeOut
    rw [if_pos h1, h4]
end Go.Proofs.Ytimnepfdpehdmaa

namespace Go.Proofs.Ytimnepfdpehdmaa
open Go.RowKit
attribute [local go_sem ↓] Go.wp_at_zero Go.wp_at_succ

/-! ### What they compute -/
def sameE {α : Type} (sk : List α → List α → Bool) (x y : NodeOf α) : Bool := decide (x.1 = y.1) && decide (x.2.1 = y.2.1) && sk x.2.2 y.2.2
def sameS {α : Type} (sk : List α → List α → Bool) : List (NodeOf α) → List (NodeOf α) → Bool
  | [], [] => true
  | x :: a, y :: b => sameE sk x y && sameS sk a b
  | _, _ => false
def sameN : (n : Nat) → List (Nd n) → List (Nd n) → Bool
  | 0, _, _ => true
  | n + 1, a, b => sameS (sameN n) a b
theorem sameS_iff {α : Type} (sk : List α → List α → Bool) : ∀ (a b : List (NodeOf α)), sameS sk a b = true ↔ a.length = b.length ∧ ∀ i (h1 : i < a.length) (h2 : i < b.length), sameE sk a[i] b[i] = true
  | [], [] => by simp [sameS]
  | [], _ :: _ => by simp [sameS]
  | _ :: _, [] => by simp [sameS]
  | x :: a, y :: b => by
    simp only [sameS, Bool.and_eq_true, sameS_iff sk a b, List.length_cons]
    constructor
    · rintro ⟨h1, h2, h3⟩
      refine ⟨by omega, fun i hi hi2 => ?_⟩
      cases i with
      | zero => exact h1
      | succ i => exact h3 i (by omega) (by omega)
    · rintro ⟨h1, h2⟩
      exact ⟨h2 0 (by omega) (by omega), by omega, fun i hi hi2 => h2 (i + 1) (by omega) (by omega)⟩
theorem sameS_len {α : Type} (sk : List α → List α → Bool) (a b : List (NodeOf α)) (h : a.length ≠ b.length) : sameS sk a b = false := by
  rw [Bool.eq_false_iff]
  exact fun hh => h ((sameS_iff sk a b).1 hh).1
theorem sameS_at {α : Type} (sk : List α → List α → Bool) (a b : List (NodeOf α)) (i : Nat) (h1 : i < a.length) (h2 : i < b.length) (h : sameE sk a[i] b[i] = false) : sameS sk a b = false := by
  rw [Bool.eq_false_iff]
  intro hh
  have := ((sameS_iff sk a b).1 hh).2 i h1 h2
  rw [h] at this
  cases this
theorem sameN_iff : ∀ (n : Nat) (a b : List (Nd n)), sameN n a b = true ↔ a = b
  | 0, a, b => by
    have h1 := nd_zero a
    have h2 := nd_zero b
    subst h1 h2
    simp [sameN]
  | n + 1, a, b => by
    refine Iff.trans (sameS_iff (sameN n) a b) ?_
    constructor
    · rintro ⟨hl, h⟩
      refine List.ext_getElem hl fun i h1 h2 => ?_
      have h3 := h i h1 h2
      simp only [sameE, Bool.and_eq_true, decide_eq_true_eq, sameN_iff n] at h3
      exact Prod.ext h3.1.1 (Prod.ext h3.1.2 h3.2)
    · rintro rfl
      exact ⟨rfl, fun i h1 _ => by simp only [sameE, Bool.and_eq_true, decide_eq_true_eq, sameN_iff n, and_self]⟩

/-! ### bytes.Equal -/
/-! ### Same of the program -/
end Go.Proofs.Ytimnepfdpehdmaa

namespace Go.Proofs.Ytimnepfdpehdmaa
open Go.RowKit
attribute [local go_sem ↓] Go.wp_at_zero Go.wp_at_succ

end Go.Proofs.Ytimnepfdpehdmaa

namespace Go.Proofs.Ytimnepfdpehdmaa
open Go.RowKit
attribute [local go_sem ↓] Go.wp_at_zero Go.wp_at_succ

/-- What is decoded is no more than what came in. -/
theorem decF_cnt {α : Type} (ck : List α → Nat) (d : Int) (kid : List Int → List α × Int) (hk : ∀ b, ck (kid b).1 ≤ b.length) (hnil : ck [] = 0) : ∀ (f : Nat) (b : List Int), b.length ≤ f → cntS ck (decF d kid f b).1 ≤ b.length
  | 0, b, _ => by simp [decF, cntS]
  | f + 1, b, hf => by
    unfold decF
    split
    · simp [cntS]
    rename_i h0
    split
    · simp [cntS]
    rename_i h1
    split
    · simp [cntS]
    split
    · simp [cntS]
    have hk1 := hd_ok h0 (Classical.not_not.1 h1)
    have ih := decF_cnt ck d kid hk hnil f (b.drop ((hd b d).2.1 + (hd b d).2.2.1)) (by simp; omega)
    have hx : ((b.drop (hd b d).2.1).take (hd b d).2.2.1).length = (hd b d).2.2.1 := by simp; omega
    have hkk := hk ((b.drop (hd b d).2.1).take (hd b d).2.2.1)
    unfold cntS at ih ⊢
    simp only [List.length_cons, List.map_cons, List.sum_cons, List.length_drop] at ih ⊢
    split <;> simp only [List.length_nil] <;> omega
theorem cntN_nil' : ∀ n, cntN n [] = 0
  | 0 => rfl
  | _ + 1 => rfl
theorem decN_cnt : ∀ (n : Nat) (d : Int) (b : List Int), cntN n (decN n d b).1 ≤ b.length
  | 0, _, _ => Nat.zero_le _
  | n + 1, d, b => decF_cnt (cntN n) d (decN n (d + 1)) (fun b => decN_cnt n (d + 1) b) (cntN_nil' n) b.length b (Nat.le_refl _)
theorem decTop_cnt (n : Nat) (b : List Int) : cntN n (decTop n b).1 ≤ 1500 := by
  unfold decTop
  split
  · rw [cntN_nil']; omega
  · have := decN_cnt n 0 b; omega

end Go.Proofs.Ytimnepfdpehdmaa
