/- Contracts of Encode and Size, of the program and of the reference: layer 10. -/
import Derived.Test.YtjaofbfppnmdjaaTlvW
import Derived.Test.YtjaofbfppnmdjaaStr
namespace Go.Proofs.Ytjaofbfppnmdjaa
open Go.RowKit
attribute [local go_sem ↓] Go.wp_at_zero Go.wp_at_succ

/-- It returns a new byte slice and an error. -/
def RetBE (w : World) (bs : List Int) (er : Int) (e : Ending) (w' : World) : Prop :=
  ∃ a c, e = .returned (.tuple #[.slice a bs.length c, .int .i64 er]) ∧ Ext w w' ∧ ∀ V : Nat → Prop, (∀ k, V k → k < w.heap.size) → RB V w' (.slice a bs.length c) bs
theorem RetBE.nil {w w' : World} (er : Int) (h : Ext w w') : RetBE w [] er (.returned (.tuple #[.slice none 0 0, .int .i64 er])) w' := ⟨none, 0, rfl, h, fun V _ => RB.nil V w'⟩
/-- What Encode gives. -/
def encOut (n : Nat) (l : List (Nd n)) : List Int := if chkN n l 0 = 0 then if szN n l ≤ 1500 then encN n l else [] else []
def encErr (n : Nat) (l : List (Nd n)) : Int := if chkN n l 0 = 0 then if szN n l ≤ 1500 then 0 else 4 else chkN n l 0

set_option maxRecDepth 100000 in
set_option maxHeartbeats 1000000 in
theorem encodeP_any (n : Nat) (V : Nat → Prop) (l : List (Nd n)) (v : Value) (w : World) (h : (RkN n).rk V w v l) (hb : cntN n l ≤ 1000000000) :
    Calls Try.prog 46 #[v] w (RetBE w (encOut n l) (encErr n l)) := by
  have HM := Lib.hid (measure_any n V l 0 v w h (by omega) (by omega) hb)
  have HL := Lib.hid (encN_len n l)
  by_cases he : chkN n l 0 = 0
  · rw [he] at HM
    by_cases hs : szN n l ≤ 1500
    · have HE : Hid (RetBE w (encOut n l) (encErr n l) = RetBE w (encN n l) 0) := by
        show RetBE w (encOut n l) (encErr n l) = RetBE w (encN n l) 0
        unfold encOut encErr; rw [if_pos he, if_pos hs, if_pos he, if_pos hs]
      rw [HE.out]
      have HW := Lib.hid (fun (w1 : World) (hw1 : Ext w w1) (v0 : Value) (ho : w1.ownsRow w.heap.size 5 1 v0 0 []) => write_any n l v v0 w.heap.size [] w1 ((RkN n).ext ((RkN n).weak h (fun k hk hh => by have := (ho.lt k hh).1; omega)) hw1) ho hw1.size Byt.nil (okN_of n l 0 he) hb (by simp))
      obtain ⟨i0, hi0, hz0, hz1, hz2⟩ := info_parts info_byte
      have HN : Hid (numErr (szN n l) 0 = .tuple #[.int .i64 ((szN n l : Nat) : Int), .int .i64 0]) := rfl
      rw [HN.out] at HM
      clear h he HE HN
      generalize szN n l = sz at *
      generalize encN n l = bs at *
      have hs2 : ¬ (1500 : Int) < sz := by omega
      go_enter Try.func46, Try.ntmps46
      go_wp2_with (first
        | (go_at_call 67; refine HM.out.mono ?_; rintro e w1 ⟨rfl, he1⟩)
        | (at_make; refine wpList_make_own _ rfl _ _ 25 rfl w.heap.size 5 i0 _ 1 Try.underlying25 hi0 hz0 hz1 _ _ _ sz rfl rfl (by omega) (by rw [hz2]; omega) (by unfold maxLen; omega) he1.size ?_; intro w2 hown2 hg2; have he2 := he1.trans (ext_of_grown hg2))
        | (go_at_call 68; refine (HW.out _ he2 _ hown2).mono ?_; rintro e w3 ⟨a3, c3, rfl, hg3, hr3⟩))
      go_ret2
      refine ⟨a3, c3, by simp, he2.grown hg3 (fun k hk => (hown2.lt k hk).1), fun V' hV' => ?_⟩
      exact hr3.weak (fun k _ hk => hV' k hk)
    · have HE : Hid (RetBE w (encOut n l) (encErr n l) = RetBE w [] 4) := by
        show RetBE w (encOut n l) (encErr n l) = RetBE w [] 4
        unfold encOut encErr; rw [if_pos he, if_neg hs, if_pos he, if_neg hs]
      rw [HE.out]
      have HN : Hid (numErr (szN n l) 0 = .tuple #[.int .i64 ((szN n l : Nat) : Int), .int .i64 0]) := rfl
      rw [HN.out] at HM
      clear h he HE HN
      generalize szN n l = sz at *
      have hs2 : (1500 : Int) < sz := by omega
      go_enter Try.func46, Try.ntmps46
      go_wp2_with (go_at_call 67; refine HM.out.mono ?_; rintro e w1 ⟨rfl, he1⟩)
      go_ret2
      exact RetBE.nil 4 he1
  · have HE : Hid (RetBE w (encOut n l) (encErr n l) = RetBE w [] (chkN n l 0)) := by
      show RetBE w (encOut n l) (encErr n l) = RetBE w [] (chkN n l 0)
      unfold encOut encErr; rw [if_neg he, if_neg he]
    rw [HE.out]
    have HN : Hid (numErr (szN n l) (chkN n l 0) = .tuple #[.int .i64 0, .int .i64 (chkN n l 0)]) := by show numErr _ _ = _; unfold numErr; rw [if_neg he]
    rw [HN.out] at HM
    clear h HE HN
    generalize chkN n l 0 = ee at *
    have he1 : (ee != 0) = true := by simp [he]
    go_enter Try.func46, Try.ntmps46
    go_wp2_with (go_at_call 67; refine HM.out.mono ?_; rintro e w1 ⟨rfl, hx1⟩)
    go_ret2
    exact RetBE.nil ee hx1

set_option maxRecDepth 100000 in
set_option maxHeartbeats 1000000 in
theorem encodeR_any (n : Nat) (V : Nat → Prop) (l : List (Nd n)) (v : Value) (w : World) (h : (RkN n).rk V w v l) (hb : cntN n l ≤ 1000000000) :
    Calls Try.prog 47 #[v] w (RetBE w (encOut n l) (encErr n l)) := by
  have HC := Lib.hid (check10_any n V l 0 v w h (by omega) (by omega))
  have HS := Lib.hid (fun w1 (hx : Ext w w1) => size10_any n V l v w1 ((RkN n).ext h hx) hb)
  have HE := Lib.hid (fun w1 (hx : Ext w w1) => encode10_any n V l v w1 ((RkN n).ext h hx) hb)
  by_cases he : chkN n l 0 = 0
  · rw [he] at HC
    by_cases hs : szN n l ≤ 1500
    · have HQ : Hid (RetBE w (encOut n l) (encErr n l) = RetBE w (encN n l) 0) := by
        show RetBE w (encOut n l) (encErr n l) = RetBE w (encN n l) 0
        unfold encOut encErr; rw [if_pos he, if_pos hs, if_pos he, if_pos hs]
      rw [HQ.out]
      clear h he HQ
      generalize szN n l = sz at *
      generalize encN n l = bs at *
      have hs2 : ¬ (1500 : Int) < sz := by omega
      go_enter Try.func47, Try.ntmps47
      go_wp2_with (first
        | (go_at_call 69; refine HC.out.mono ?_; rintro e w1 ⟨rfl, he1⟩)
        | (go_at_call 70; refine (HS.out _ he1).mono ?_; rintro e w2 ⟨rfl, he2⟩)
        | (go_at_call 71; refine (HE.out _ (he1.trans he2)).mono ?_; rintro e w3 ⟨a3, c3, rfl, he3, hr3⟩))
      go_ret2
      exact ⟨a3, c3, by simp, (he1.trans he2).trans he3, fun V' hV' => hr3 V' (fun k hk => (he1.trans he2).lt (hV' k hk))⟩
    · have HQ : Hid (RetBE w (encOut n l) (encErr n l) = RetBE w [] 4) := by
        show RetBE w (encOut n l) (encErr n l) = RetBE w [] 4
        unfold encOut encErr; rw [if_pos he, if_neg hs, if_pos he, if_neg hs]
      rw [HQ.out]
      clear h he HQ HE
      generalize szN n l = sz at *
      have hs2 : (1500 : Int) < sz := by omega
      go_enter Try.func47, Try.ntmps47
      go_wp2_with (first
        | (go_at_call 69; refine HC.out.mono ?_; rintro e w1 ⟨rfl, he1⟩)
        | (go_at_call 70; refine (HS.out _ he1).mono ?_; rintro e w2 ⟨rfl, he2⟩))
      go_ret2
      exact RetBE.nil 4 (he1.trans he2)
  · have HQ : Hid (RetBE w (encOut n l) (encErr n l) = RetBE w [] (chkN n l 0)) := by
      show RetBE w (encOut n l) (encErr n l) = RetBE w [] (chkN n l 0)
      unfold encOut encErr; rw [if_neg he, if_neg he]
    rw [HQ.out]
    clear h HQ HS HE
    generalize chkN n l 0 = ee at *
    have he1 : (ee != 0) = true := by simp [he]
    go_enter Try.func47, Try.ntmps47
    go_wp2_with (go_at_call 69; refine HC.out.mono ?_; rintro e w1 ⟨rfl, hx1⟩)
    go_ret2
    exact RetBE.nil ee hx1

/-! ### Size -/
def sizeOut (n : Nat) (l : List (Nd n)) : Nat := if chkN n l 0 = 0 then szN n l else 0
end Go.Proofs.Ytjaofbfppnmdjaa
