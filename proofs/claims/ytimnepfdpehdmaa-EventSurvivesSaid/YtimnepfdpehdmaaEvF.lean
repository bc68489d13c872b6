/- The two rings of the law EventSurvives. -/
import Derived.Test.YtimnepfdpehdmaaEvM
import Derived.RegionTactic
import Derived.BigRegion
import Derived.Deep.DeepCutAuto
import Derived.Deep.RegionHeld3
namespace Go.Proofs.Ytimnepfdpehdmaa
open Go.RowKit
attribute [local go_sem ↓] Go.wp_at_zero Go.wp_at_succ

def One (n : Nat) (g : Nat → Bool) : Prop := ∀ i j, i < n → j < n → g i = true → g j = true → i = j
theorem One.none (n : Nat) : One n (fun _ => false) := fun _ _ _ _ h => (by cases h)
theorem One.one (n k : Nat) : One n (fun i => false || decide (i = k)) := fun i j _ _ hi hj => by simp at hi hj; omega
theorem three {w W : World} {o1 o2 o3 : Obj} (h : W = (((w.alloc o1).alloc o2).alloc o3).drew) : W.heap[w.heap.size]? = some o1 ∧ W.heap[w.heap.size + 1]? = some o2 ∧ W.heap[w.heap.size + 1 + 1]? = some o3 ∧ Ext w W := by
  subst h
  have h1 : ((w.alloc o1).alloc o2).heap.size = w.heap.size + 1 + 1 := by simp
  have h2 : (w.alloc o1).heap.size = w.heap.size + 1 := by simp
  have a3 := heap_alloc_new ((w.alloc o1).alloc o2) o3
  have a2 := (heap_alloc_old ((w.alloc o1).alloc o2) o3 (r := (w.alloc o1).heap.size) (by omega)).trans (heap_alloc_new (w.alloc o1) o2)
  have a1 := (heap_alloc_old ((w.alloc o1).alloc o2) o3 (r := w.heap.size) (by omega)).trans ((heap_alloc_old (w.alloc o1) o2 (r := w.heap.size) (by omega)).trans (heap_alloc_new w o1))
  rw [h1] at a3
  rw [h2] at a2
  exact ⟨a1, a2, a3, ((((Ext.refl w).alloc o1).alloc o2).alloc o3).drew⟩
theorem TRow.setOther {W : World} {B n : Nat} {g : Nat → Bool} (h : TRow W B n g) {B' : Nat} (hB : B' ≠ B) (j : Nat) (v : Value) : TRow (W.setCell ⟨B', j, none⟩ v) B n g := by
  obtain ⟨cs, hb, hs, hc⟩ := h
  exact ⟨cs, hb.setOther hB j v, hs, hc⟩
theorem tmod_pos {c n : Int} (h : 0 ≤ c) : c.tmod n = c % n := Int.tmod_eq_emod_of_nonneg h
set_option maxRecDepth 100000 in
set_option maxHeartbeats 4000000 in
theorem fine17_any (a b c d : Int) (w : World) : Calls Try.prog 16 #[.agg #[.int .i64 a, .int .i64 b, .int .i64 c, .int .i64 d]] w fun e w' => ∃ (n fr A B : Nat) (gA gB : Nat → Bool), 3 ≤ n ∧ n ≤ 14 ∧ fr < n ∧ e = .returned (.tuple #[.int .i64 (n : Int), .int .i64 (fr : Int), .agg #[.slice (some ⟨A, 0, none⟩) n n, .slice (some ⟨B, 0, none⟩) n n]]) ∧ Ext w w' ∧ TRow w' A n gA ∧ TRow w' B n gB ∧ One n gA ∧ One n gB := by
  have HW := Lib.hid (fun w1 => within17_any a 12 w1 (by omega) (by omega))
  obtain ⟨r, hr, hr2⟩ : ∃ r : Nat, a % 12 = r ∧ r < 12 := ⟨(a % 12).toNat, by omega, by omega⟩
  rw [hr] at HW
  obtain ⟨n, hn⟩ : ∃ n, 3 + r = n := ⟨_, rfl⟩
  have hn3 : (3 : Int) + r = n := by omega
  have hw3 : IntKind.i64.wrap ((3 : Int) + r) = n := by rw [IntWalk.i64_in _ (by omega)]; omega
  have hw5 : wrap64 ((3 : Int) + r) = n := by unfold wrap64; omega
  have HN := Lib.hid (show 3 ≤ n ∧ n ≤ 14 by omega)
  have HF := Lib.hid (fun w1 => within17_any b n w1 (by omega) (by omega))
  obtain ⟨f, hf, hf2⟩ : ∃ f : Nat, b % n = f ∧ f < n := ⟨(b % n).toNat, by have := Int.emod_nonneg b (show (n : Int) ≠ 0 by omega); omega, by have := Int.emod_lt_of_pos b (show (0 : Int) < n by omega); omega⟩
  rw [hf] at HF
  have HFN := Lib.hid hf2
  obtain ⟨cur, hcs, hc0, hmk⟩ := make_bools n (by omega)
  have HCS := Lib.hid (And.intro hcs hc0)
  have hn0 : (0 : Int) ≤ n := by omega
  clear hcs hc0 hr hr2 hf hf2 hn hn3
  go_enter Try.func16, Try.ntmps16
  go_wp2_with fail
  refine (HW.out _).mono ?_
  rintro e w1 ⟨rfl, rfl⟩
  go_upto_region 2 with fail
  have B0 := Lib.hid ((Bk.new w #[.int .i64 a, .int .i64 b, .int .i64 c, .int .i64 d] 63 w.heap.size rfl).alloc (.cells #[.slice none 0 0, .slice none 0 0] 66))
  have B1 := Lib.hid (Bk.new (w.alloc (.cells #[.int .i64 a, .int .i64 b, .int .i64 c, .int .i64 d] 63)) #[.slice none 0 0, .slice none 0 0] 66 (w.heap.size + 1) (by simp))
  have E0 := Lib.hid (((Ext.refl w).alloc (.cells #[.int .i64 a, .int .i64 b, .int .i64 c, .int .i64 d] 63)).alloc (.cells #[.slice none 0 0, .slice none 0 0] 66))
  generalize (w.alloc (.cells #[.int .i64 a, .int .i64 b, .int .i64 c, .int .i64 d] 63)).alloc (.cells #[.slice none 0 0, .slice none 0 0] 66) = w2 at *
  go_cut [6] (fun v wx => ∃ A B R : Nat, v = .pointer (some ⟨R, 0, none⟩) ∧ Bk wx R 66 #[.slice (some ⟨A, 0, none⟩) n n, .slice (some ⟨B, 0, none⟩) n n] ∧ TRow wx A n (fun _ => false) ∧ TRow wx B n (fun _ => false) ∧ Ext w2 wx ∧ (w2.heap.size ≤ A ∧ w2.heap.size ≤ B ∧ w2.heap.size ≤ R ∧ A ≠ B ∧ A ≠ R ∧ B ≠ R))
  case first =>
    go_region
    all_goals
      go_wp2_with fail
      go_meet
      exact ⟨_, _, _, rfl, (by first | exact (three rfl).1 | exact (three rfl).2.1 | exact (three rfl).2.2.1), (by first | exact ⟨cur, (three rfl).1, HCS.out.1, HCS.out.2⟩ | exact ⟨cur, (three rfl).2.1, HCS.out.1, HCS.out.2⟩ | exact ⟨cur, (three rfl).2.2.1, HCS.out.1, HCS.out.2⟩), (by first | exact ⟨cur, (three rfl).1, HCS.out.1, HCS.out.2⟩ | exact ⟨cur, (three rfl).2.1, HCS.out.1, HCS.out.2⟩ | exact ⟨cur, (three rfl).2.2.1, HCS.out.1, HCS.out.2⟩), (three rfl).2.2.2, by omega⟩
  case rest =>
    obtain ⟨A, B, R, rfl, hR, hA, hB, hE, hne⟩ := hcut
    obtain ⟨w3, hw3⟩ : ∃ w3, w3 = wc := ⟨_, rfl⟩
    subst hw3
    have BX := Lib.hid (B0.out.ext hE)
    have BO := Lib.hid (B1.out.ext hE)
    have HS := Lib.hid (show w.heap.size + 1 < w2.heap.size from B1.out.lt)
    have HNE := Lib.hid hne
    have MA := Lib.hid (And.intro hR (And.intro hA (And.intro hB (E0.out.trans hE))))
    have qX : ∀ j, w3.cell? ⟨w.heap.size, j, none⟩ = (#[.int .i64 a, .int .i64 b, .int .i64 c, .int .i64 d] : Array Value)[j]? := BX.out.cell
    clear hR hA hB hE hne B0 B1 E0
    go_upto_if 20 with fail
    go_cut [6] (fun v wx => v = .pointer (some ⟨R, 0, none⟩) ∧ ∃ gA, One n gA ∧ Bk wx R 66 #[.slice (some ⟨A, 0, none⟩) n n, .slice (some ⟨B, 0, none⟩) n n] ∧ TRow wx A n gA ∧ TRow wx B n (fun _ => false) ∧ Ext w wx ∧ Bk wx w.heap.size 63 #[.int .i64 a, .int .i64 b, .int .i64 c, .int .i64 d] ∧ Bk wx (w.heap.size + 1) 66 #[.slice none 0 0, .slice none 0 0])
    case first =>
      by_cases hc : 0 ≤ c
      · have hcb : decide (0 ≤ c) = true := by simpa using hc
        obtain ⟨k, hk, hkn⟩ : ∃ k : Nat, c % n = k ∧ k < n := ⟨(c % n).toNat, by have := HN.out; have := Int.emod_nonneg c (show (n : Int) ≠ 0 by omega); omega, by have := HN.out; have := Int.emod_lt_of_pos c (show (0 : Int) < n by omega); omega⟩
        have hk2 : c.tmod n = k := by rw [tmod_pos hc, hk]
        have hk0 : (0 : Int) ≤ k := by omega
        have hk1 : (k : Int) < n := by omega
        have hnz : ((n : Int) == 0) = false := by have := HN.out; simp; omega
        obtain ⟨hR, hA, hB, hX⟩ := MA.out
        have HH := Lib.hid (And.intro (And.intro hR (And.intro hA (And.intro hB hX))) (And.intro BX.out BO.out))
        have cR := hR.cell
        have cA := hA.cell hkn
        have fA := hA.frozen k
        clear hR hA hB hX
        go_upto_region 4 with fail
        go_region
        all_goals
          go_wp2_with fail
          go_meet
          obtain ⟨⟨hR, hA, hB, hX⟩, hBX, hBO⟩ := HH.out
          have hle := HS.out
          have hne := HNE.out
          exact ⟨rfl, _, One.one n k, hR.setOther (by omega) _ _, (hA.set hkn), (hB.setOther HNE.out.2.2.2.1 _ _), (hX.setCell (p := ⟨A, k, none⟩) (by simp only; omega) _).drew, hBX.setOther (by omega) _ _, hBO.setOther (by omega) _ _⟩
      · have hcb : decide (0 ≤ c) = false := by simpa using hc
        go_wp2_with fail
        go_meet
        exact ⟨rfl, _, One.none n, MA.out.1, MA.out.2.1, MA.out.2.2.1, MA.out.2.2.2, BX.out, BO.out⟩
    case rest =>
      obtain ⟨rfl, gA, hone, hR, hA, hB, hX, hBX, hBO⟩ := hcut
      obtain ⟨w4, hw4⟩ : ∃ w3, w3 = wc := ⟨_, rfl⟩
      subst hw4
      clear MA BX BO qX
      have BX := Lib.hid hBX
      have BO := Lib.hid hBO
      have OA := Lib.hid hone
      have MA := Lib.hid (And.intro hR (And.intro hA (And.intro hB hX)))
      have qX : ∀ j, w4.cell? ⟨w.heap.size, j, none⟩ = (#[.int .i64 a, .int .i64 b, .int .i64 c, .int .i64 d] : Array Value)[j]? := BX.out.cell
      clear hR hA hB hX hBX hBO hone
      go_upto_if 31 with fail
      go_cut [6] (fun v wx => v = .pointer (some ⟨R, 0, none⟩) ∧ ∃ gB, One n gB ∧ Bk wx R 66 #[.slice (some ⟨A, 0, none⟩) n n, .slice (some ⟨B, 0, none⟩) n n] ∧ TRow wx A n gA ∧ TRow wx B n gB ∧ Ext w wx ∧ Bk wx w.heap.size 63 #[.int .i64 a, .int .i64 b, .int .i64 c, .int .i64 d] ∧ Bk wx (w.heap.size + 1) 66 #[.slice none 0 0, .slice none 0 0])
      case first =>
        by_cases hc : 0 ≤ d
        · have hcb : decide (0 ≤ d) = true := by simpa using hc
          obtain ⟨k, hk, hkn⟩ : ∃ k : Nat, d % n = k ∧ k < n := ⟨(d % n).toNat, by have := HN.out; have := Int.emod_nonneg d (show (n : Int) ≠ 0 by omega); omega, by have := HN.out; have := Int.emod_lt_of_pos d (show (0 : Int) < n by omega); omega⟩
          have hk2 : d.tmod n = k := by rw [tmod_pos hc, hk]
          have hk0 : (0 : Int) ≤ k := by omega
          have hk1 : (k : Int) < n := by omega
          have hnz : ((n : Int) == 0) = false := by have := HN.out; simp; omega
          obtain ⟨hR, hA, hB, hX⟩ := MA.out
          have HH := Lib.hid (And.intro (And.intro hR (And.intro hA (And.intro hB hX))) (And.intro BX.out BO.out))
          have cR := hR.cell
          have cA := hB.cell hkn
          have fA := hB.frozen k
          clear hR hA hB hX
          go_upto_region 6 with fail
          go_region
          all_goals
            go_wp2_with fail
            go_meet
            obtain ⟨⟨hR, hA, hB, hX⟩, hBX, hBO⟩ := HH.out
            have hle := HS.out
            have hne := HNE.out
            exact ⟨rfl, _, One.one n k, hR.setOther (by omega) _ _, (hA.setOther (Ne.symm HNE.out.2.2.2.1) _ _), (hB.set hkn), (hX.setCell (p := ⟨B, k, none⟩) (by simp only; omega) _).drew, hBX.setOther (by omega) _ _, hBO.setOther (by omega) _ _⟩
        · have hcb : decide (0 ≤ d) = false := by simpa using hc
          go_wp2_with fail
          go_meet
          exact ⟨rfl, _, One.none n, MA.out.1, MA.out.2.1, MA.out.2.2.1, MA.out.2.2.2, BX.out, BO.out⟩
      case rest =>
        obtain ⟨rfl, gB, hone, hR, hA, hB, hX, hBX, hBO⟩ := hcut
        obtain ⟨w5, hw5⟩ : ∃ w3, w3 = wc := ⟨_, rfl⟩
        subst hw5
        clear MA BX BO qX
        have BX := Lib.hid hBX
        have BO := Lib.hid hBO
        have OB := Lib.hid hone
        have MA := Lib.hid (And.intro hR (And.intro hA (And.intro hB hX)))
        have qX : ∀ j, w5.cell? ⟨w.heap.size, j, none⟩ = (#[.int .i64 a, .int .i64 b, .int .i64 c, .int .i64 d] : Array Value)[j]? := BX.out.cell
        clear hR hA hB hX hBX hBO hone
        have qR := MA.out.1.cell
        have qO := BO.out.cell
        have fO := BO.out.frozen
        go_upto_region 7 with fail
        go_region_with (go_at_call 5; (with_reducible refine (HF.out _).mono ?_); rintro e w6 ⟨rfl, hw6⟩; subst hw6)
        all_goals
          obtain ⟨hR, hA, hB, hX⟩ := MA.out
          have hne := HNE.out
          have hle := HS.out
          have W1 := Lib.hid (show Bk ((w5.setCell ⟨w.heap.size + 1, 0, none⟩ (.slice (some ⟨A, 0, none⟩) n n)).setCell ⟨w.heap.size + 1, 1, none⟩ (.slice (some ⟨B, 0, none⟩) n n)).drew (w.heap.size + 1) 66 #[.slice (some ⟨A, 0, none⟩) n n, .slice (some ⟨B, 0, none⟩) n n] from (BO.out.setCell 0 _).setCell 1 _)
          have W2 := Lib.hid (show TRow ((w5.setCell ⟨w.heap.size + 1, 0, none⟩ (.slice (some ⟨A, 0, none⟩) n n)).setCell ⟨w.heap.size + 1, 1, none⟩ (.slice (some ⟨B, 0, none⟩) n n)).drew A n gA from (hA.setOther (by omega) _ _).setOther (by omega) _ _)
          have W3 := Lib.hid (show TRow ((w5.setCell ⟨w.heap.size + 1, 0, none⟩ (.slice (some ⟨A, 0, none⟩) n n)).setCell ⟨w.heap.size + 1, 1, none⟩ (.slice (some ⟨B, 0, none⟩) n n)).drew B n gB from (hB.setOther (by omega) _ _).setOther (by omega) _ _)
          have W4 := Lib.hid (((hX.setCell (p := ⟨w.heap.size + 1, 0, none⟩) (by simp only; omega) (.slice (some ⟨A, 0, none⟩) n n)).setCell (p := ⟨w.heap.size + 1, 1, none⟩) (by simp only; omega) (.slice (some ⟨B, 0, none⟩) n n)).drew)
          clear hR hA hB hX hne hle qO fO qR qX
          generalize ((w5.setCell ⟨w.heap.size + 1, 0, none⟩ (.slice (some ⟨A, 0, none⟩) n n)).setCell ⟨w.heap.size + 1, 1, none⟩ (.slice (some ⟨B, 0, none⟩) n n)).drew = w8 at *
          go_wp2_with fail
          have c0 := W1.out.cell 0
          have c1 := W1.out.cell 1
          simp only [List.getElem?_toArray, List.getElem?_cons_zero, List.getElem?_cons_succ] at c0 c1
          exact bodyPost_ret (v := .tuple #[.int .i64 (n : Int), .int .i64 (f : Int), .agg #[.slice (some ⟨A, 0, none⟩) n n, .slice (some ⟨B, 0, none⟩) n n]]) (by simp [results, Try.results16, go_sem, c0, c1]) rfl ⟨n, f, A, B, gA, gB, HN.out.1, HN.out.2, HFN.out, rfl, W4.out, W2.out, W3.out, OA.out, OB.out⟩
end Go.Proofs.Ytimnepfdpehdmaa
