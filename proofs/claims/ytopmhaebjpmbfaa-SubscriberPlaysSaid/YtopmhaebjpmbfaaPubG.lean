/- Truth, Values, New, made, stamp: layers 11 and 13. -/
import Derived.Test.YtopmhaebjpmbfaaPubF
import Derived.Test.YtopmhaebjpmbfaaWithin13
import Derived.Deep.DeepCutAuto
namespace Go.Proofs.Ytopmhaebjpmbfaa
open Go.RowKit
attribute [local go_sem ↓] Go.wp_at_zero Go.wp_at_succ

def nul : ByteArray := ⟨#[]⟩
def tru (b : Bool) : Val := ⟨1, if b = true then 1 else 0, ⟨#[]⟩, 0, 0, 0⟩
theorem truth_any (b : Bool) (w : World) : Calls Try.prog 48 #[.bool b] w fun e w' => e = .returned (valA (tru b)) ∧ Ext w w' := by
  cases b
  · go_enter Try.func48, Try.ntmps48
    go_wp2
    exact bodyPost_ret (v := .agg #[.int .i64 1, .int .i64 0, .string ⟨#[]⟩, .int .i64 0, .int .i64 0, .int .i64 0]) (by simp [results, Try.results48, go_sem]) rfl ⟨rfl, (Ext.refl _).alloc _⟩
  · go_enter Try.func48, Try.ntmps48
    go_wp2
    exact bodyPost_ret (v := .agg #[.int .i64 1, .int .i64 1, .string ⟨#[]⟩, .int .i64 0, .int .i64 0, .int .i64 0]) (by simp [results, Try.results48, go_sem]) rfl ⟨rfl, (Ext.refl _).alloc _⟩
def V0 : List Val := [⟨1, 0, ⟨#[]⟩, 0, 0, 0⟩]
def V1 : List Val := [⟨1, 1, ⟨#[]⟩, 0, 0, 0⟩, ⟨2, 5, ⟨#[]⟩, 0, 0, 0⟩]
def V2 : List Val := [⟨4, 0, ⟨#[120]⟩, 0, 0, 0⟩]
def valsOf (n : Int) : List Val := if n.tmod 3 = 0 then V0 else if n.tmod 3 = 1 then V1 else V2
theorem RetV.lit {w w1 : World} (l : List Val) (cs : Array Value) (B n : Nat) (hB : w1.heap.size = B) (hn : l.length = n) (hl : n ≤ 1000000000) (hc : cs.toList = l.flatMap valE) (hx : Ext w w1) :
    RetV w l (.returned (.slice (some ⟨B, 0, none⟩) n n)) (w1.alloc (.cells cs 47)) := by
  subst hB hn
  refine ⟨_, _, rfl, hx.alloc _, RF.of_own (base := w.heap.size) (e := 47) valE_len ?_ (fun _ h => h)⟩
  rw [← hc]
  exact World.ownsRow_lit w1 cs l.length hx.size (by unfold maxLen; omega) (by rw [← Array.length_toList, hc, flat_len valE_len])
theorem values_any (n : Int) (w : World) : Calls Try.prog 18 #[.int .i64 n] w (RetV w (valsOf n)) := by
  have HT := Lib.hid (fun b w1 => truth_any b w1)
  unfold valsOf
  by_cases h0 : n.tmod 3 = 0
  · rw [if_pos h0]
    have HL := Lib.hid (fun w1 (hx : Ext w w1) => RetV.lit (w := w) (w1 := w1) V0 #[.int .i64 1, .int .i64 0, .string ⟨#[]⟩, .int .i64 0, .int .i64 0, .int .i64 0] _ 1 rfl rfl (by omega) rfl hx)
    have h0' : (n.tmod 3 == 0) = true := by simpa using h0
    generalize V0 = V at *
    clear h0
    go_enter Try.func18, Try.ntmps18
    go_wp2_with fail
    refine (HT.out _ _).mono ?_
    rintro e w1 ⟨rfl, x1⟩
    simp only [tru]
    go_wp2_with fail
    go_ret
    exact HL.out _ x1
  · rw [if_neg h0]
    have h0' : (n.tmod 3 == 0) = false := by simpa using h0
    by_cases h1 : n.tmod 3 = 1
    · rw [if_pos h1]
      have HL := Lib.hid (fun w1 (hx : Ext w w1) => RetV.lit (w := w) (w1 := w1) V1 #[.int .i64 1, .int .i64 1, .string ⟨#[]⟩, .int .i64 0, .int .i64 0, .int .i64 0, .int .i64 2, .int .i64 5, .string ⟨#[]⟩, .int .i64 0, .int .i64 0, .int .i64 0] _ 2 rfl rfl (by omega) rfl hx)
      have h1' : (n.tmod 3 == 1) = true := by simpa using h1
      generalize V1 = V at *
      clear h0 h1
      go_enter Try.func18, Try.ntmps18
      go_wp2_with fail
      refine (HT.out _ _).mono ?_
      rintro e w1 ⟨rfl, x1⟩
      simp only [tru]
      go_wp2_with fail
      go_ret
      exact HL.out _ x1
    · rw [if_neg h1]
      have HL := Lib.hid (fun w1 (hx : Ext w w1) => RetV.lit (w := w) (w1 := w1) V2 #[.int .i64 4, .int .i64 0, .string ⟨#[120]⟩, .int .i64 0, .int .i64 0, .int .i64 0] _ 1 rfl rfl (by omega) rfl hx)
      have h1' : (n.tmod 3 == 1) = false := by simpa using h1
      generalize V2 = V at *
      clear h0 h1
      go_enter Try.func18, Try.ntmps18
      go_wp2_with fail
      go_ret
      exact HL.out _ (Ext.refl _)
/-- A publisher that has not sent anything. -/
def newS (p f m r : Int) : PSt := ⟨p, f, m, r, false, 0, 0, 0, 0, 0, 0, 0, []⟩
set_option maxRecDepth 100000 in
theorem new_any (p f m r : Int) (w : World) (h1 : 0 ≤ p) (h2 : p ≤ 999) (h3 : 1 ≤ f) (h4 : f ≤ 100) (h5 : f ≤ m) (h6 : m ≤ 1000) (h7 : 0 ≤ r) (h8 : r ≤ 4294967295) :
    Calls Try.prog 40 #[.int .i64 p, .int .i64 f, .int .i64 m, .int .i64 r] w fun e w' => e = .returned (.tuple #[pubA (newS p f m r) (.slice none 0 0), .int .i64 0]) ∧ Ext w w' := by
  go_enter Try.func40, Try.ntmps40
  go_wp2
  exact bodyPost_ret (v := .tuple #[.agg #[.int .i64 p, .int .i64 f, .int .i64 m, .int .i64 r, .bool false, .int .i64 0, .int .i64 0, .int .i64 0, .int .i64 0, .int .i64 0, .int .i64 0, .int .i64 0, .slice none 0 0], .int .i64 0]) (by simp [results, Try.results40, go_sem]) rfl ⟨rfl, (Ext.refl _).alloc _⟩
def fst13 (x : Int) : Int := 1 + x % 100
def max13 (x y : Int) : Int := fst13 x + y % (1001 - fst13 x)
theorem made_le (x y : Int) : 1 ≤ fst13 x ∧ fst13 x ≤ 100 ∧ fst13 x ≤ max13 x y ∧ max13 x y ≤ 1000 := by
  unfold max13
  have h1 : 1 ≤ fst13 x ∧ fst13 x ≤ 100 := by unfold fst13; omega
  have h2 := Int.emod_nonneg y (show 1001 - fst13 x ≠ 0 by omega)
  have h3 := Int.emod_lt_of_pos y (show 0 < 1001 - fst13 x by omega)
  omega
set_option maxRecDepth 100000 in
set_option maxHeartbeats 4000000 in
theorem made_any (x y : Int) (w : World) : Calls Try.prog 15 #[.int .i64 x, .int .i64 y] w fun e w' => e = .returned (pubA (newS 7 (fst13 x) (max13 x y) 9) (.slice none 0 0)) ∧ Ext w w' := by
  obtain ⟨h1, h2, h3, h4⟩ := made_le x y
  have W1 := Lib.hid (fun w1 => within13_any x 100 w1 (by omega) (by omega))
  have W2 := Lib.hid (fun w1 => within13_any y (1001 - fst13 x) w1 (by omega) (by omega))
  have N := Lib.hid (fun w1 => new_any 7 (fst13 x) (max13 x y) 9 w1 (by omega) (by omega) h1 h2 h3 h4 (by omega) (by omega))
  have hm : Hid (max13 x y = fst13 x + y % (1001 - fst13 x)) := Lib.hid rfl
  have hf : Hid (fst13 x = 1 + x % 100) := Lib.hid rfl
  have e1 : 0 ≤ x % 100 ∧ x % 100 < 100 := by omega
  generalize max13 x y = M at *
  generalize fst13 x = F at *
  generalize x % 100 = r at *
  obtain ⟨e1, e2⟩ := e1
  have e3 : 0 ≤ y % (1001 - F) := Int.emod_nonneg y (by omega)
  have e4 : y % (1001 - F) < 1001 - F := Int.emod_lt_of_pos y (by omega)
  generalize y % (1001 - F) = q at *
  obtain rfl := hf.out
  obtain rfl := hm.out
  go_enter Try.func15, Try.ntmps15
  go_wp2_with fail
  refine (W1.out _).mono ?_
  rintro e w1 ⟨rfl, rfl⟩
  go_wp2_with fail
  refine (W2.out _).mono ?_
  rintro e w1 ⟨rfl, rfl⟩
  go_wp2_with fail
  refine (N.out _).mono ?_
  rintro e w2 ⟨rfl, x2⟩
  simp only [newS]
  obtain ⟨k1, k2⟩ := ext_cells x2
  have hz : w.heap.size < w2.heap.size := by have := x2.size; simp at this; omega
  have B2 := (Bk.new w #[.int .i64 0, .int .i64 0, .int .i64 0, .int .i64 0, .bool false, .int .i64 0, .int .i64 0, .int .i64 0, .int .i64 0, .int .i64 0, .int .i64 0, .int .i64 0, .slice none 0 0] 28 w.heap.size rfl).ext x2
  have HB2 := Lib.hid (B2.alloc (.cells #[.int .i64 7, .int .i64 (1 + r), .int .i64 (1 + r + q), .int .i64 9, .bool false, .int .i64 0, .int .i64 0, .int .i64 0, .int .i64 0, .int .i64 0, .int .i64 0, .int .i64 0, .slice none 0 0] 28))
  have HX := Lib.hid (((Ext.refl w).alloc (.cells #[.int .i64 0, .int .i64 0, .int .i64 0, .int .i64 0, .bool false, .int .i64 0, .int .i64 0, .int .i64 0, .int .i64 0, .int .i64 0, .int .i64 0, .int .i64 0, .slice none 0 0] 28)).trans x2)
  have HC2 := Lib.hid (Bk.new w2 #[.int .i64 7, .int .i64 (1 + r), .int .i64 (1 + r + q), .int .i64 9, .bool false, .int .i64 0, .int .i64 0, .int .i64 0, .int .i64 0, .int .i64 0, .int .i64 0, .int .i64 0, .slice none 0 0] 28 w2.heap.size rfl)
  have HX2 := Lib.hid (HX.out.alloc (.cells #[.int .i64 7, .int .i64 (1 + r), .int .i64 (1 + r + q), .int .i64 9, .bool false, .int .i64 0, .int .i64 0, .int .i64 0, .int .i64 0, .int .i64 0, .int .i64 0, .int .i64 0, .slice none 0 0] 28))
  clear x2 k1 k2 B2
  go_upto_region 3 with fail
  generalize w2.alloc (.cells #[.int .i64 7, .int .i64 (1 + r), .int .i64 (1 + r + q), .int .i64 9, .bool false, .int .i64 0, .int .i64 0, .int .i64 0, .int .i64 0, .int .i64 0, .int .i64 0, .int .i64 0, .slice none 0 0] 28) = w3 at *
  have k1 := HB2.out.cell
  have k2 := HB2.out.frozen
  have k3 := HC2.out.cell
  generalize w2.heap.size = b2 at *
  clear W1 W2 N hm hf h1 h2 h3 h4 e1 e2 e3 e4
  go_wp2_with fail
  change bodyPost _ _ _ _ _ (put w3 w.heap.size 0 [.int .i64 7, .int .i64 (1 + r), .int .i64 (1 + r + q), .int .i64 9, .bool false, .int .i64 0, .int .i64 0, .int .i64 0, .int .i64 0, .int .i64 0, .int .i64 0, .int .i64 0, .slice none 0 0])
  have C3 := put_all (vs := [.int .i64 7, .int .i64 (1 + r), .int .i64 (1 + r + q), .int .i64 9, .bool false, .int .i64 0, .int .i64 0, .int .i64 0, .int .i64 0, .int .i64 0, .int .i64 0, .int .i64 0, .slice none 0 0]) HB2.out rfl
  have X3 := put_ext (a := w) (Nat.le_refl _) [.int .i64 7, .int .i64 (1 + r), .int .i64 (1 + r + q), .int .i64 9, .bool false, .int .i64 0, .int .i64 0, .int .i64 0, .int .i64 0, .int .i64 0, .int .i64 0, .int .i64 0, .slice none 0 0] 0 _ HX2.out
  generalize put w3 w.heap.size 0 [.int .i64 7, .int .i64 (1 + r), .int .i64 (1 + r + q), .int .i64 9, .bool false, .int .i64 0, .int .i64 0, .int .i64 0, .int .i64 0, .int .i64 0, .int .i64 0, .int .i64 0, .slice none 0 0] = w4 at *
  have c3 := C3.cell
  exact bodyPost_ret (v := .agg #[.int .i64 7, .int .i64 (1 + r), .int .i64 (1 + r + q), .int .i64 9, .bool false, .int .i64 0, .int .i64 0, .int .i64 0, .int .i64 0, .int .i64 0, .int .i64 0, .int .i64 0, .slice none 0 0]) (by simp [results, Try.results15, go_sem, c3]) rfl ⟨rfl, X3⟩
end Go.Proofs.Ytopmhaebjpmbfaa
