/- The walk of the statement TwinAccepts. -/
import Derived.Test.YtdnoejdhphpieaaTwD
import Derived.Test.YtdnoejdhphpieaaTwV
import Derived.Test.YtdnoejdhphpieaaTwinOnceWalk
import Derived.Deep.DeepCutAuto
import Derived.RegionTactic
import Derived.BigRegion
namespace Go.Proofs.Ytdnoejdhphpieaa
open Go.RowKit
attribute [local go_sem ↓] Go.wp_at_zero Go.wp_at_succ

/-- The two states lie in the variables' cells B and B + 1. -/
structure Two (B : Nat) (w : World) (L : List Src3) (n : Nat) (a : Option Addr) (c : Nat) (a' : Option Addr) (c' : Nat) : Prop where
  len : n = L.length
  cell : w.cell? ⟨B, 0, none⟩ = some (.slice a n c)
  cell' : w.cell? ⟨B + 1, 0, none⟩ = some (.slice a' n c')
  frozen : w.frozen? ⟨B, 0, none⟩ = false
  frozen' : w.frozen? ⟨B + 1, 0, none⟩ = false
  lt : B + 1 < w.heap.size
  rf : RF (fun k => k = B ∨ k = B + 1) 3 srcE w (.slice a n c) L
  rf' : RF (fun k => k = B ∨ k = B + 1) 3 srcE w (.slice a' n c') L
  nil : L = [] → a' = none ∧ c' = 0
theorem Two.ext {B : Nat} {w w' : World} {L : List Src3} {n : Nat} {a : Option Addr} {c : Nat} {a' : Option Addr} {c' : Nat} (h : Two B w L n a c a' c') (he : Ext w w') : Two B w' L n a c a' c' :=
  ⟨h.len, he.cell h.cell, he.cell h.cell', (he.frozen (by have := h.lt; simp only; omega)).trans h.frozen, (he.frozen h.lt).trans h.frozen', he.lt h.lt, h.rf.ext he, h.rf'.ext he, h.nil⟩

set_option maxRecDepth 100000 in
set_option maxHeartbeats 8000000 in
theorem accepts_walk (l : List (Int × Int)) (v : Value) (w : World) (h : RF Any 2 numE w v l) : Calls Try.prog 5 #[v] w fun e w' => e = .returned (.bool true) ∧ Ext w w' := by
  have hk := Lib.hid (known16_any w)
  obtain ⟨va, vc, rfl, _, hm⟩ := h.form
  have HL := Lib.hid h
  have hmax : l.length ≤ 9223372036854775807 := by unfold maxLen at hm; omega
  have HA := Lib.hid (fun L v s q w1 (h : RF Any 3 srcE w1 v L) (h2 : L.length ≤ 1000) (h3 : WfL L) => acceptP_any L v s q w1 h (by omega) h3)
  have HAR := Lib.hid (fun L v s q w1 (h : RF Any 3 srcE w1 v L) h1 (h2 : L.length ≤ 1000) (h3 : WfL L) (h4 : Asc L) => acceptR_any L v s q w1 h h1 (by omega) h3 h4)
  have HW := Lib.hid (fun L (h : WfL L) s q => accS_wf h s q)
  have HAS := Lib.hid (fun L (h : Asc L) s q => acc_asc h s q)
  clear h hm
  generalize hn : l.length = n at *
  have HN := Lib.hid hn
  clear hn
  go_enter Try.func5, Try.ntmps5
  go_wp2_with fail
  refine hk.out.mono ?_
  rintro e w1 ⟨rfl, x1⟩
  go_wp2_with fail
  have T0 : Two w1.heap.size ((w1.alloc (.cells #[.slice none 0 0] 28)).alloc (.cells #[.slice none 0 0] 41)) [] 0 none 0 none 0 :=
    ⟨rfl, cell_keep _ _ (cell_at _ _ _ _ 0 _ rfl rfl), cell_at _ _ _ _ 0 _ (by simp) rfl, (((Ext.refl _).alloc _).frozen (by simp)).trans (frozen_at _ _ _ _ 0 rfl), frozen_at _ _ _ _ 0 (by simp), by simp, RF.nil _ _ _ _, RF.nil _ _ _ _, fun _ => ⟨rfl, rfl⟩⟩
  have HT0 := Lib.hid T0
  have XB : Ext w ((w1.alloc (.cells #[.slice none 0 0] 28)).alloc (.cells #[.slice none 0 0] 41)) := (x1.alloc _).alloc _
  have hB1 := x1.size
  clear T0
  generalize w1.heap.size = B at *
  go_loopg [5] 300 (fun gk i wr => ∃ (k : Nat) (L : List Src3) (m : Nat) (a : Option Addr) (c : Nat) (a' : Option Addr) (c' : Nat), k ≤ n ∧ k ≤ 300 ∧ gk = 300 - k ∧ i = .int .i64 k ∧ L.length ≤ k ∧ WfL L ∧ Asc L ∧ Two B wr L m a c a' c' ∧ Ext w wr)
  case atStart => exact ⟨0, [], 0, none, 0, none, 0, Nat.zero_le _, Nat.zero_le _, rfl, rfl, Nat.le_refl _, (fun _ h => by cases h), List.Pairwise.nil, HT0.out, XB⟩
  case round =>
    clear HT0 XB
    obtain ⟨k, L, m, a, c, a', c', hk1, hk2, rfl, rfl, hLl, hwf, hasc, htwo, hx⟩ := hrel
    by_cases hlt : k < n ∧ k < 300
    · obtain ⟨hlt1, hlt2⟩ := hlt
      obtain ⟨y, hy⟩ : ∃ y, l[k]? = some y := ⟨_, List.getElem?_eq_getElem (by rw [HN.out]; exact hlt1)⟩
      obtain ⟨b, off, c1, hv, g0, g1⟩ := num_get (HL.out.ext hx) hy
      rw [HN.out] at hv
      simp only [Value.slice.injEq] at hv
      obtain ⟨rfl, -, rfl⟩ := hv
      clear hy
      obtain ⟨s, q⟩ := y
      simp only at g0 g1
      have HTW := Lib.hid htwo
      have b0 := htwo.cell
      have hBl := htwo.lt
      have lB : B < wr.heap.size := by omega
      have lb : b < wr.heap.size := World.block_lt_of_cell? wr _ g0
      have hA := Lib.hid (fun w' (he : Ext wr w') => HA.out L _ s q w' ((htwo.ext he).rf.any (by omega)) (by omega) hwf)
      have hAR := Lib.hid (fun w' (he : Ext wr w') => HAR.out L _ s q w' ((htwo.ext he).rf'.any (by omega)) (fun e => by obtain ⟨h1, h2⟩ := htwo.nil e; have := htwo.len; rw [e] at this; rw [h1, h2, this]; rfl) (by omega) hwf hasc)
      have hW := HW.out L hwf s q
      have hS := HAS.out L hasc s q
      clear htwo
      generalize accS L s q = z at *
      obtain ⟨z, zb⟩ := z
      simp only at hW hS
      obtain ⟨hW1, hW2⟩ := hW
      have HW1 := Lib.hid hW1
      have HASC := Lib.hid hS
      have hki : (k : Int) < n := by omega
      have hki2 : (k : Int) < 300 := by omega
      clear hW1 hwf hS hasc
      go_upto_region 7 with fail
      go_cut [6, 7] (fun s6 s7 wx => ∃ (B6 : Nat) (a5 : Option Addr) (c5 : Nat), s6 = .pointer (some ⟨B6, 0, none⟩) ∧ s7 = .bool zb ∧ wx.cell? ⟨B6, 0, none⟩ = some (.slice a5 z.length c5) ∧ RF (Old wr) 3 srcE wx (.slice a5 z.length c5) z ∧ Ext wr wx ∧ wr.heap.size ≤ B6)
      case first =>
        go_region_held3 (fun w' => w'.cell? ⟨B, 0, none⟩ = some (.slice a m c) ∧ w'.cell? ⟨b, off + k * 2, none⟩ = some (.int .i64 s) ∧ w'.cell? ⟨b, off + k * 2 + 1, none⟩ = some (.int .i64 q))
          (first | exact ⟨b0, g0, g1⟩ | exact ⟨b4, g04, g14⟩ | (refine ⟨?_, ?_, ?_⟩ <;> first | exact cell_keep _ _ b0 | exact cell_keep _ _ g0 | exact cell_keep _ _ g1 | exact cell_keep _ _ b4 | exact cell_keep _ _ g04 | exact cell_keep _ _ g14 | exact (World.cell?_setCell_far _ _ _ _ (by simp only; omega)).trans b4 | exact (World.cell?_setCell_far _ _ _ _ (by simp only; omega)).trans g04 | exact (World.cell?_setCell_far _ _ _ _ (by simp only; omega)).trans g14))
          (first | (go_at_call 12; refine (hA.out _ ?_).mono ?_; (first | exact (Ext.refl wr).drew | exact ((Ext.refl wr).alloc _).drew | exact (Ext.refl wr).drew.alloc _); rintro e w4 ⟨a5, c5, rfl, x4, r5⟩; have l4 : wr.heap.size ≤ w4.heap.size := (by have := x4.size; simp at this; omega); (first | (have q6 : w4.cell? ⟨wr.heap.size, 0, none⟩ = some (.slice none 0 0) := x4.cell (cell_at wr _ _ _ 0 _ rfl rfl); have p6 : w4.frozen? ⟨wr.heap.size, 0, none⟩ = false := (x4.frozen (by simp)).trans (frozen_at wr _ _ _ 0 rfl); have l6 : wr.heap.size < w4.heap.size := (by have := x4.size; simp at this; omega)) | skip); have b4 : w4.cell? ⟨B, 0, none⟩ = some (.slice a m c) := x4.cell (by first | exact b0 | exact cell_keep _ _ b0); have g04 : w4.cell? ⟨b, off + k * 2, none⟩ = some (.int .i64 s) := x4.cell (by first | exact g0 | exact cell_keep _ _ g0); have g14 : w4.cell? ⟨b, off + k * 2 + 1, none⟩ = some (.int .i64 q) := x4.cell (by first | exact g1 | exact cell_keep _ _ g1)))
        all_goals
          go_wp2_with fail
          go_meet
          first
            | exact ⟨w4.heap.size, a5, c5, rfl, rfl, cell_at _ _ _ _ 0 _ rfl rfl, (r5.weak (by omega) (fun k _ h => h)).ext ((Ext.refl _).alloc _), ((Ext.refl wr).drew.trans x4).alloc _, l4⟩
            | exact ⟨wr.heap.size, a5, c5, rfl, rfl, World.cell?_setCell_same _ _ _ q6, (r5.store wr.heap.size (by simp [Old]) _).weak (by omega) (fun k _ h => by have : k < wr.heap.size := h; simp [Old]; omega), (((Ext.refl wr).alloc _).drew.trans x4).setCell (Nat.le_refl _) _, Nat.le_refl _⟩
      case rest =>
        obtain ⟨B6, a5, c5, rfl, rfl, q6, r5, x5, hB6⟩ := hcut
        obtain ⟨wA, rfl⟩ : ∃ wA : World, wA = wc := ⟨_, rfl⟩
        have HR5 := Lib.hid r5
        clear r5 hA
        replace g0 := x5.cell g0
        replace g1 := x5.cell g1
        have b1 := x5.cell HTW.out.cell'
        have lb5 := x5.lt lb
        have lB5 := x5.lt hBl
        have hB6' : B + 1 < B6 := by omega
        clear b0 lB lb hBl
        have hz5 := x5.size
        go_upto_region 8 with fail
        go_cut [8, 9] (fun s8 s9 wx => ∃ (B8 : Nat) (a7 : Option Addr) (c7 : Nat), s8 = .pointer (some ⟨B8, 0, none⟩) ∧ s9 = .bool zb ∧ wx.cell? ⟨B8, 0, none⟩ = some (.slice a7 z.length c7) ∧ RF (fun k => k = B ∨ k = B + 1) 3 srcE wx (.slice a7 z.length c7) z ∧ (z = [] → a7 = none ∧ c7 = 0) ∧ Ext wA wx ∧ wA.heap.size ≤ B8)
        case first =>
          go_region_held3 (fun w' => w'.cell? ⟨B + 1, 0, none⟩ = some (.slice a' m c') ∧ w'.cell? ⟨b, off + k * 2, none⟩ = some (.int .i64 s) ∧ w'.cell? ⟨b, off + k * 2 + 1, none⟩ = some (.int .i64 q))
            (first | exact ⟨b1, g0, g1⟩ | exact ⟨b4, g04, g14⟩ | (refine ⟨?_, ?_, ?_⟩ <;> first | exact cell_keep _ _ b1 | exact cell_keep _ _ g0 | exact cell_keep _ _ g1 | exact cell_keep _ _ b4 | exact cell_keep _ _ g04 | exact cell_keep _ _ g14 | exact (World.cell?_setCell_far _ _ _ _ (by simp only; omega)).trans b4 | exact (World.cell?_setCell_far _ _ _ _ (by simp only; omega)).trans g04 | exact (World.cell?_setCell_far _ _ _ _ (by simp only; omega)).trans g14))
            (first | (go_at_call 13; refine (hAR.out _ ?_).mono ?_; (first | exact x5.drew | exact (x5.alloc _).drew | exact x5.drew.alloc _); rintro e w4 ⟨a7, c7, rfl, x4, r7, n7⟩; have l4 : wA.heap.size ≤ w4.heap.size := (by have := x4.size; simp at this; omega); (first | (have q8 : w4.cell? ⟨wA.heap.size, 0, none⟩ = some (.slice none 0 0) := x4.cell (cell_at wA _ _ _ 0 _ rfl rfl); have p8 : w4.frozen? ⟨wA.heap.size, 0, none⟩ = false := (x4.frozen (by simp)).trans (frozen_at wA _ _ _ 0 rfl); have l8 : wA.heap.size < w4.heap.size := (by have := x4.size; simp at this; omega)) | skip); have b4 : w4.cell? ⟨B + 1, 0, none⟩ = some (.slice a' m c') := x4.cell (by first | exact b1 | exact cell_keep _ _ b1); have g04 : w4.cell? ⟨b, off + k * 2, none⟩ = some (.int .i64 s) := x4.cell (by first | exact g0 | exact cell_keep _ _ g0); have g14 : w4.cell? ⟨b, off + k * 2 + 1, none⟩ = some (.int .i64 q) := x4.cell (by first | exact g1 | exact cell_keep _ _ g1)))
          all_goals
            go_wp2_with fail
            go_meet
            first
              | exact ⟨w4.heap.size, a7, c7, rfl, rfl, cell_at _ _ _ _ 0 _ rfl rfl, (r7 (fun k => k = B ∨ k = B + 1) (HTW.out.ext x5.drew).rf' (fun k h => by have : k = B ∨ k = B + 1 := h; simp; omega)).ext ((Ext.refl _).alloc _), n7, ((Ext.refl wA).drew.trans x4).alloc _, l4⟩
              | exact ⟨wA.heap.size, a7, c7, rfl, rfl, World.cell?_setCell_same _ _ _ q8, ((r7 (fun k => k = B ∨ k = B + 1 ∨ k = wA.heap.size) (((HTW.out.ext x5).rf'.weak (by omega) (fun k h1 h2 => by have : k = B ∨ k = B + 1 ∨ k = wA.heap.size := h2; show k = B ∨ k = B + 1; omega)).ext ((Ext.refl wA).alloc _).drew) (fun k h => by have : k = B ∨ k = B + 1 ∨ k = wA.heap.size := h; simp; omega)).store wA.heap.size (.inr (.inr rfl)) _).weak (by omega) (fun k _ h => by rcases h with h | h; exact .inl h; exact .inr (.inl h)), n7, (((Ext.refl wA).alloc _).drew.trans x4).setCell (Nat.le_refl _) _, Nat.le_refl _⟩
        case rest =>
          obtain ⟨B8, a7, c7, rfl, rfl, q8, r7, n7, x7, hB8⟩ := hcut
          obtain ⟨wB, rfl⟩ : ∃ wB : World, wB = wc := ⟨_, rfl⟩
          have x57 := x5.trans x7
          have HR7 := Lib.hid r7
          have HN7 := Lib.hid n7
          have KEEP : Hid (∀ w', Ext wB w' → w'.cell? ⟨B6, 0, none⟩ = some (.slice a5 z.length c5) ∧ w'.cell? ⟨B8, 0, none⟩ = some (.slice a7 z.length c7) ∧ w'.cell? ⟨B, 0, none⟩ = some (.slice a m c) ∧ w'.cell? ⟨B + 1, 0, none⟩ = some (.slice a' m c')) := fun w' he => ⟨he.cell (x7.cell q6), he.cell q8, (HTW.out.ext (x57.trans he)).cell, (HTW.out.ext (x57.trans he)).cell'⟩
          have HTO := Lib.hid (fun w' (he : Ext wB w') => to16_any z _ w' (((HR5.out.ext (x7.trans he))).any (by omega)) (by omega))
          have HS1 := Lib.hid (fun w' aT cT b' (ho : w'.ownsRow b' 75 3 (.slice aT z.length cT) z.length (z.flatMap srcE)) (he : Ext wB w') => (decide_eq_true (rfl : z = z)) ▸ sameTR_any z z (.slice aT z.length cT) (.slice a7 z.length c7) w' (RF.of_own srcE_len ho (fun _ h => h.elim)) ((HR7.out.ext he).any (by omega)))
          have HS2 := Lib.hid (fun w' (he : Ext wB w') => (decide_eq_true (rfl : z = z)) ▸ sameTP_any z z (.slice a5 z.length c5) (.slice a5 z.length c5) w' ((HR5.out.ext (x7.trans he)).any (by omega)) ((HR5.out.ext (x7.trans he)).any (by omega)))
          have HS3 := Lib.hid (fun w' (he : Ext wB w') => sameTP_any z L (.slice a5 z.length c5) (.slice a m c) w' ((HR5.out.ext (x7.trans he)).any (by omega)) ((HTW.out.ext (x57.trans he)).rf.any (by omega)))
          have HS4 := Lib.hid (fun w' (he : Ext wB w') => sameTR_any z L (.slice a7 z.length c7) (.slice a' m c') w' ((HR7.out.ext he).any (by omega)) ((HTW.out.ext (x57.trans he)).rf'.any (by omega)))
          generalize decide (z = L) = r at *
          generalize z.flatMap srcE = F at *
          obtain ⟨c1', c2', c3', c4'⟩ := KEEP.out _ (Ext.refl wB)
          have hzz : (zb != zb) = false := by simp
          have hrr : (r != r) = false := by simp
          clear r7 n7 q8 hAR g0 g1 b1
          go_upto_region 9 with fail
          go_cut [78] (fun s78 wx => s78 = .bool false ∧ Ext wB wx)
          case first =>
            go_region_held3 (fun w' => w'.cell? ⟨B6, 0, none⟩ = some (.slice a5 z.length c5) ∧ w'.cell? ⟨B8, 0, none⟩ = some (.slice a7 z.length c7) ∧ w'.cell? ⟨B, 0, none⟩ = some (.slice a m c) ∧ w'.cell? ⟨B + 1, 0, none⟩ = some (.slice a' m c'))
              (exact KEEP.out _ (by first | exact Ext.refl _ | exact (Ext.refl _).drew | exact E8 | exact E9 | exact E10 | exact E11 | exact E12))
              (first
                | (go_at_call 15; refine (HTO.out _ (by first | exact Ext.refl _ | exact (Ext.refl _).drew)).mono ?_; rintro e w8 ⟨aT, cT, rfl, x8, oT⟩; have E8 : Ext wB w8 := Ext.trans (by first | exact Ext.refl _ | exact (Ext.refl _).drew) x8; have OT := Lib.hid oT; clear oT)
                | (go_at_call 14; (with_reducible refine (HS1.out _ _ _ _ OT.out E8).mono ?_); rintro e w9 ⟨rfl, x9⟩; have E9 : Ext wB w9 := E8.trans x9)
                | (go_at_call 16; (with_reducible refine (HS2.out _ E9).mono ?_); rintro e w10 ⟨rfl, x10⟩; have E10 : Ext wB w10 := E9.trans x10)
                | (go_at_call 16; (with_reducible refine (HS3.out _ (by first | exact E10 | exact E12)).mono ?_); rintro e w11 ⟨rfl, x11⟩; have E11 : Ext wB w11 := Ext.trans (by first | exact E10 | exact E12) x11)
                | (go_at_call 14; (with_reducible refine (HS4.out _ (by first | exact E11 | exact E10)).mono ?_); rintro e w12 ⟨rfl, x12⟩; have E12 : Ext wB w12 := Ext.trans (by first | exact E11 | exact E10) x12))
            all_goals
              go_wp2_with fail
              go_meet
              exact ⟨rfl, by first | exact E12 | exact E11⟩
          case rest =>
            obtain ⟨rfl, xC⟩ := hcut
            obtain ⟨d1, d2, d3, d4⟩ := KEEP.out _ xC
            have hTW := HTW.out.ext (x57.trans xC)
            have fB := hTW.frozen
            have fB' := hTW.frozen'
            have lBC := hTW.lt
            have lBC' : B < wc.heap.size := by omega
            have n1 : ¬ (B = B6) := by omega
            have n2 : ¬ (B6 = B) := by omega
            have n3 : ¬ (B + 1 = B6) := by omega
            have n4 : ¬ (B6 = B + 1) := by omega
            have n5 : ¬ (B = B8) := by omega
            have n6 : ¬ (B8 = B) := by omega
            have n8 : ¬ (B + 1 = B8) := by omega
            have n9 : ¬ (B8 = B + 1) := by omega
            have RA := Lib.hid (HR5.out.ext (x7.trans xC))
            have RB := Lib.hid (HR7.out.ext xC)
            have hwrB : B + 1 < wr.heap.size := HTW.out.lt
            clear hTW c1' c2' c3' c4' HTO HS1 HS2 HS3 HS4 q6
            go_wp2_with fail
            go_region
            all_goals
              go_wp2_with fail
              go_roundg (300 - (k + 1))
              case measure => omega
              case rel =>
                refine ⟨k + 1, z, z.length, a5, c5, a7, c7, by omega, by omega, rfl, by go_num, by omega, HW1.out, HASC.out, ?_, ?_⟩
                · refine Two.ext ⟨rfl, (World.cell?_setCell_far _ _ _ _ (by simp only; omega)).trans (World.cell?_setCell_same _ _ _ d3), World.cell?_setCell_same _ _ _ ((World.cell?_setCell_far _ _ _ _ (by simp only; omega)).trans d4), by simpa using fB, by simpa using fB', by simpa using lBC, ?_, ?_, HN7.out⟩ (Ext.refl _).drew
                  · exact ((RA.out.store B (show B < wr.heap.size by omega) _).store (B + 1) hwrB _).weak (by omega) (fun g _ hg => by have : g = B ∨ g = B + 1 := hg; show g < wr.heap.size; omega)
                  · exact (RB.out.store B (.inl rfl) _).store (B + 1) (.inr rfl) _
                · exact (((hx.trans (x57.trans xC)).setCell (by simp only; omega) _).setCell (by simp only; omega) _).drew
    · have hend : ¬ ((k : Int) < n) ∨ (((k : Int) < n) ∧ ¬ ((k : Int) < 300)) := by omega
      clear htwo hwf hasc
      rcases hend with hend | ⟨hend, hend2⟩
      all_goals
        go_wp2_with fail
        go_ret
        exact ⟨rfl, hx⟩
end Go.Proofs.Ytdnoejdhphpieaa
