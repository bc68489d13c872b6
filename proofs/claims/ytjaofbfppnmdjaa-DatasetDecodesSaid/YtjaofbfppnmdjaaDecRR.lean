/- Values out of tags and bytes as the reference guesses them: layer 11, plain. -/
import Derived.Test.YtjaofbfppnmdjaaDecZZ
import Derived.Test.YtjaofbfppnmdjaaDatS
import Derived.Test.YtjaofbfppnmdjaaDatT
namespace Go.Proofs.Ytjaofbfppnmdjaa
open Go.RowKit

/-- The bytes of the string that the reference makes of bits. -/
def gBits (D : List Int) : List Int := if 1 < D.length ∧ D.getD 0 0 < 8 then bl D ((min (8 * D.length) 600 - 8) - (D.getD 0 0).toNat) else bl D (min (8 * D.length) 600 - 8)
/-- What guess gives. -/
def guessV (k : Int) (D : List Int) : Val :=
  if k = 1 then ⟨1, if 0 < D.length then D.getD 0 0 else 0, noStr, 0, 0, 0⟩
  else if k = 2 then ⟨2, if 0 < D.length ∧ D.length ≤ 8 then sgnV D else 0, noStr, 0, 0, 0⟩
  else if k = 3 then ⟨3, 0, strOfNums (gBits D), 0, 0, 0⟩
  else if k = 4 then ⟨4, 0, strOfNums D, 0, 0, 0⟩
  else if k = 5 then (if D.length = 8 then ⟨5, 0, noStr, joinU (D.take 4), joinU ((D.drop 4).take 3), D.getD 7 0⟩ else ⟨5, 0, noStr, 0, 0, 0⟩)
  else ⟨k, 0, noStr, 0, 0, 0⟩
theorem guess_kind (k : Int) (D : List Int) : (guessV k D).kind = k := by
  unfold guessV
  split
  · rename_i h; exact h.symm
  split
  · rename_i h; exact h.symm
  split
  · rename_i h; exact h.symm
  split
  · rename_i h; exact h.symm
  split
  · rename_i h
    split <;> exact h.symm
  · rfl
theorem guess_of_read (t : Int) (D : List Int) (v : Val) (h : readV t D = some v) : guessV (kindT t) D = v := by
  unfold readV at h
  split at h
  · rename_i ht
    subst ht
    split at h
    · rename_i h1
      injection h with h
      subst h
      show guessV 1 D = _
      unfold guessV
      rw [if_pos rfl, if_pos (by omega)]
    · cases h
  split at h
  · rename_i ht
    subst ht
    split at h
    · rename_i h1
      injection h with h
      subst h
      show guessV 3 D = _
      unfold guessV
      rw [if_neg (by omega), if_neg (by omega), if_pos rfl, ← bl_str]
      congr 2
      obtain ⟨h1, h9, h7, hc, _⟩ := h1
      unfold gBits cntB
      by_cases hl : 1 < D.length
      · rw [if_pos ⟨hl, by omega⟩]
        congr 1
        omega
      · rw [if_neg (fun h => hl h.1)]
        congr 1
        omega
    · cases h
  split at h
  · rename_i ht
    subst ht
    split at h
    · rename_i h1
      injection h with h
      subst h
      show guessV 2 D = _
      unfold guessV
      rw [if_neg (by omega), if_pos rfl, if_pos (by omega)]
    · cases h
  split at h
  · rename_i ht
    subst ht
    split at h
    · rename_i h1
      simp only [Option.some.injEq] at h
      show guessV 4 D = _
      unfold guessV
      rw [if_neg (by omega), if_neg (by omega), if_neg (by omega), if_pos rfl]
      exact h
    · cases h
  split at h
  · rename_i ht
    subst ht
    split at h
    · rename_i h1
      injection h with h
      subst h
      show guessV 5 D = _
      unfold guessV
      rw [if_neg (by omega), if_neg (by omega), if_neg (by omega), if_neg (by omega), if_pos rfl, if_pos h1]
    · cases h
  · cases h
theorem sgnV_in {D : List Int} (hb : Byt D) (h1 : 0 < D.length) (h8 : D.length ≤ 8) : -9223372036854775808 ≤ sgnV D ∧ sgnV D ≤ 9223372036854775807 := by
  rcases Nat.lt_or_ge D.length 8 with h | h
  · have hu := joinU_lt D hb
    have hp := p2_le (8 * D.length) 56 (by omega)
    rw [show (2 : Int) ^ 56 = 72057594037927936 by decide] at hp
    unfold sgnV
    split <;> omega
  · rw [← sgn_eight hb (by omega), IntKind.wrap_i64]
    omega
theorem guess_in {D : List Int} (hb : Byt D) (k : Int) : inN (guessV k D) := by
  unfold guessV inN
  split
  · simp only
    have := getD_byt hb 0
    split <;> omega
  split
  · simp only
    split
    · rename_i h; exact sgnV_in hb h.1 h.2
    · omega
  split
  · simp only; omega
  split
  · simp only; omega
  split
  · split <;> (simp only; omega)
  · simp only; omega
theorem kind_tag {t : Int} (h : kindT t ≠ 0) (v : Val) (hv : v.kind = kindT t) : tagV v = t := by
  unfold kindT at h hv
  unfold tagV
  by_cases h1 : t = 131
  · rw [if_pos h1] at hv; rw [if_pos hv]; exact h1.symm
  rw [if_neg h1] at h hv
  by_cases h2 : t = 132
  · rw [if_pos h2] at hv; rw [if_neg (by omega), if_neg (by omega), if_pos hv]; exact h2.symm
  rw [if_neg h2] at h hv
  by_cases h3 : t = 133
  · rw [if_pos h3] at hv; rw [if_neg (by omega), if_pos hv]; exact h3.symm
  rw [if_neg h3] at h hv
  by_cases h4 : t = 138
  · rw [if_pos h4] at hv; rw [if_neg (by omega), if_neg (by omega), if_neg (by omega), if_pos hv]; exact h4.symm
  rw [if_neg h4] at h hv
  by_cases h5 : t = 145
  · rw [if_pos h5] at hv; rw [if_neg (by omega), if_neg (by omega), if_neg (by omega), if_neg (by omega)]; exact h5.symm
  · rw [if_neg h5] at h; exact absurd rfl h
/-- The reference's two tests say what read says. -/
theorem means_iff {t : Int} {D : List Int} (hb : Byt D) (ht : kindT t ≠ 0) : (chk (guessV (kindT t) D) = 0 ∧ datV (guessV (kindT t) D) = D → readV t D = some (guessV (kindT t) D)) ∧ (¬ (chk (guessV (kindT t) D) = 0 ∧ datV (guessV (kindT t) D) = D) → readV t D = none) := by
  constructor
  · rintro ⟨h1, h2⟩
    have h3 := readV_back _ h1 (guess_in hb (kindT t))
    rw [kind_tag ht _ (guess_kind _ D), h2] at h3
    exact h3
  · intro hn
    cases hr : readV t D with
    | none => rfl
    | some v =>
      have hg := guess_of_read t D v hr
      obtain ⟨c1, _, c3, _⟩ := readV_canon t D hb v hr
      rw [hg] at hn
      exact absurd ⟨c1, c3⟩ hn
end Go.Proofs.Ytjaofbfppnmdjaa

namespace Go.Proofs.Ytjaofbfppnmdjaa
open Go.RowKit
attribute [local go_sem ↓] Go.wp_at_zero Go.wp_at_succ
attribute [local go_sem high] slice_h4 slice_47

set_option maxHeartbeats 2000000 in
theorem numberR_any {V : Nat → Prop} (D : List Int) (v : Value) (w : World) (h : RB V w v D) (hl : D.length ≤ 8) : Calls Try.prog 90 #[v] w fun e w' => e = .returned (.int .i64 (IntKind.i64.wrap (joinU D))) ∧ w = w' := by
  have HB := Lib.hid h.byt
  have HC := Lib.hid (fun k (hk : k < D.length) => h.cellD hk)
  have HT := Lib.hid (fun k (hk : k < D.length) => joinU_take hk)
  have HA : Hid (D.take D.length = D) := List.take_length
  have HL : Hid (∀ k, k < D.length → (D.take k).length ≤ 7) := fun k hk => by rw [List.length_take]; omega
  obtain ⟨a, c, rfl, _, _⟩ := h.form
  generalize D.length = n at *
  clear h
  go_enter Try.func90, Try.ntmps90
  go_wp2
  go_loop [3, 4] (fun m i => ∃ k : Nat, k ≤ n ∧ i = .int .i64 k ∧ m = .int .i64 (IntKind.i64.wrap (joinU (D.take k)))) (fun _ i => n - (intOf i).toNat)
  case atStart => exact ⟨0, by omega, rfl, by rw [List.take_zero, show joinU [] = 0 from rfl, wrap_zero]⟩
  case round =>
    obtain ⟨k, hk, rfl, rfl⟩ := hrel
    by_cases hlt : k < n
    · obtain ⟨b, off, c', hv, hcap, g0⟩ := HC.out k hlt
      simp only [Value.slice.injEq] at hv
      obtain ⟨rfl, -, rfl⟩ := hv
      have hU := joinU_56 (HB.out.take k) (HL.out k hlt)
      have hx := getD_byt HB.out k
      have HT1 := Lib.hid (HT.out k hlt)
      generalize joinU (D.take k) = U at *
      generalize D.getD k 0 = x at *
      have hor := or_join U x hx
      rw [← HT1.out] at hor
      have hwU : IntKind.i64.wrap U = U := IntWalk.i64_in U (by omega)
      rw [hwU]
      obtain ⟨s, hs⟩ : ∃ s, IntKind.i64.wrap (U * 256) = s := ⟨_, rfl⟩
      rw [hs] at hor
      obtain ⟨hx1, hx2⟩ := hx
      have hki : (k : Int) < n := by omega
      clear hwU hU
      generalize hz : IntKind.i64.wrap (joinU (D.take (k + 1))) = z at *
      have HZ := Lib.hid hz
      clear hz
      go_wp2_with fail
      go_round
      case rel => exact ⟨k + 1, by omega, by go_num, by rw [HZ.out]⟩
      case measure => simp [intOf]; omega
    · have hki : ¬ (k : Int) < n := by omega
      obtain rfl : k = n := by omega
      rw [HA.out]
      obtain ⟨z, hz⟩ : ∃ z, IntKind.i64.wrap (joinU D) = z := ⟨_, rfl⟩
      have HZ := Lib.hid hz
      rw [hz]
      clear hz
      go_wp2_with fail
      go_ret
      exact ⟨by rw [HZ.out]; rfl, rfl⟩
theorem kindR_any (t : Int) (w : World) : Calls Try.prog 56 #[.int .i64 t] w fun e w' => e = .returned (.int .i64 (kindT t)) ∧ w = w' := by
  by_cases h : t = 131 ∨ t = 132 ∨ t = 133 ∨ t = 138 ∨ t = 145
  · rcases h with rfl | rfl | rfl | rfl | rfl
    all_goals
      go_enter Try.func56, Try.ntmps56
      go_wp2_with fail
      go_ret
      exact ⟨rfl, rfl⟩
  · have hk : kindT t = 0 := by
      unfold kindT
      rw [if_neg (by omega), if_neg (by omega), if_neg (by omega), if_neg (by omega), if_neg (by omega)]
    have e1 : (t == 131) = false := by simp only [beq_eq_false_iff_ne, ne_eq]; omega
    have e2 : (t == 132) = false := by simp only [beq_eq_false_iff_ne, ne_eq]; omega
    have e3 : (t == 133) = false := by simp only [beq_eq_false_iff_ne, ne_eq]; omega
    have e4 : (t == 138) = false := by simp only [beq_eq_false_iff_ne, ne_eq]; omega
    have e5 : (t == 145) = false := by simp only [beq_eq_false_iff_ne, ne_eq]; omega
    rw [hk]
    clear h hk
    go_enter Try.func56, Try.ntmps56
    go_wp2_with fail
    go_ret
    exact ⟨rfl, rfl⟩



/-- It returns a value. -/
def RetVal (w : World) (x : Val) (e : Ending) (w' : World) : Prop := e = .returned (valA x) ∧ Ext w w'

set_option maxRecDepth 100000 in
set_option maxHeartbeats 8000000 in
theorem guessR_4 {V : Nat → Prop} (D : List Int) (v : Value) (w : World) (h : RB V w v D) : Calls Try.prog 79 #[.int .i64 4, v] w (RetVal w (guessV 4 D)) := by
  obtain ⟨a, c, rfl, _, _⟩ := h.form
  have HCV := Lib.hid (fun w1 (he : Ext w w1) => (h.ext he).conv (P := Try.prog) 25 9 5 Try.underlying25 Try.underlying5 Try.underlying9)
  have hg : guessV 4 D = ⟨4, 0, strOfNums D, 0, 0, 0⟩ := by
    unfold guessV
    rw [if_neg (by omega), if_neg (by omega), if_neg (by omega), if_pos rfl]
  rw [hg]
  generalize strOfNums D = S at *
  generalize D.length = n at *
  clear h hg
  go_enter Try.func79, Try.ntmps79
  go_upto_region 2 with fail
  have B4 := (Bk.new w #[.int .i64 0, .int .i64 0, .string ⟨#[]⟩, .int .i64 0, .int .i64 0, .int .i64 0] 54 w.heap.size rfl).alloc (.cells #[.int .i64 4, .int .i64 0, .string ⟨#[]⟩, .int .i64 0, .int .i64 0, .int .i64 0] 54)
  have B5 := Bk.new (w.alloc (.cells #[.int .i64 0, .int .i64 0, .string ⟨#[]⟩, .int .i64 0, .int .i64 0, .int .i64 0] 54)) #[.int .i64 4, .int .i64 0, .string ⟨#[]⟩, .int .i64 0, .int .i64 0, .int .i64 0] 54 (w.heap.size + 1) (by simp)
  have X0 : Ext w ((w.alloc (.cells #[.int .i64 0, .int .i64 0, .string ⟨#[]⟩, .int .i64 0, .int .i64 0, .int .i64 0] 54)).alloc (.cells #[.int .i64 4, .int .i64 0, .string ⟨#[]⟩, .int .i64 0, .int .i64 0, .int .i64 0] 54)) := ((Ext.refl w).alloc _).alloc _
  generalize (w.alloc (.cells #[.int .i64 0, .int .i64 0, .string ⟨#[]⟩, .int .i64 0, .int .i64 0, .int .i64 0] 54)).alloc (.cells #[.int .i64 4, .int .i64 0, .string ⟨#[]⟩, .int .i64 0, .int .i64 0, .int .i64 0] 54) = W at *
  have q5 : ∀ j, W.cell? ⟨w.heap.size + 1, j, none⟩ = (#[.int .i64 4, .int .i64 0, .string ⟨#[]⟩, .int .i64 0, .int .i64 0, .int .i64 0] : Array Value)[j]? := B5.cell
  have f5 := fun j => B5.frozen j
  have hcv := HCV.out W X0
  go_upto_region 25 with fail
  have C5 : Bk (W.setCell ⟨w.heap.size + 1, 2, none⟩ (.string S)) (w.heap.size + 1) 54 #[.int .i64 4, .int .i64 0, .string S, .int .i64 0, .int .i64 0, .int .i64 0] := B5.setCell 2 _
  have C4 := B4.setOther (B' := w.heap.size + 1) (by omega) 2 (.string S)
  have X1 : Ext w (W.setCell ⟨w.heap.size + 1, 2, none⟩ (.string S)) := X0.setCell (Nat.le_succ _) _
  generalize W.setCell ⟨w.heap.size + 1, 2, none⟩ (.string S) = W1 at *
  clear q5 f5 B4 B5 X0 hcv
  have z5 : ∀ j, W1.cell? ⟨w.heap.size + 1, j, none⟩ = (#[.int .i64 4, .int .i64 0, .string S, .int .i64 0, .int .i64 0, .int .i64 0] : Array Value)[j]? := C5.cell
  have z4 : ∀ j, W1.cell? ⟨w.heap.size, j, none⟩ = (#[.int .i64 0, .int .i64 0, .string ⟨#[]⟩, .int .i64 0, .int .i64 0, .int .i64 0] : Array Value)[j]? := C4.cell
  have g4 := fun j => C4.frozen j
  go_wp2_with fail
  change bodyPost Try.prog Try.f79 _ Exit.ret _ (put W1 w.heap.size 0 [.int .i64 4, .int .i64 0, .string S, .int .i64 0, .int .i64 0, .int .i64 0])
  have Q4 := (put_all (vs := [.int .i64 4, .int .i64 0, .string S, .int .i64 0, .int .i64 0, .int .i64 0]) C4 rfl).cell
  have XX := put_ext (a := w) (Nat.le_refl _) [.int .i64 4, .int .i64 0, .string S, .int .i64 0, .int .i64 0, .int .i64 0] 0 W1 X1
  generalize put W1 w.heap.size 0 [.int .i64 4, .int .i64 0, .string S, .int .i64 0, .int .i64 0, .int .i64 0] = W9 at *
  exact bodyPost_ret (v := .agg #[.int .i64 4, .int .i64 0, .string S, .int .i64 0, .int .i64 0, .int .i64 0]) (by simp [results, Try.results79, go_sem, Q4]) rfl ⟨rfl, XX⟩

set_option maxRecDepth 100000 in
set_option maxHeartbeats 8000000 in
theorem guessR_1 {V : Nat → Prop} (D : List Int) (v : Value) (w : World) (h : RB V w v D) : Calls Try.prog 79 #[.int .i64 1, v] w (RetVal w (guessV 1 D)) := by
  obtain ⟨a, c, rfl, _, hcm⟩ := h.form
  by_cases hl : 0 < D.length
  · have hg : guessV 1 D = ⟨1, D.getD 0 0, noStr, 0, 0, 0⟩ := by
      unfold guessV
      rw [if_pos rfl, if_pos hl]
    have HC := Lib.hid (fun w1 (he : Ext w w1) => (h.ext he).cellD hl)
    have hd0 := getD_byt h.byt 0
    obtain ⟨d01, d02⟩ := hd0
    rw [hg]
    generalize D.getD 0 0 = d0 at *
    generalize D.length = n at *
    have hli : (0 : Int) < n := by omega
    clear h hg hl
    go_enter Try.func79, Try.ntmps79
    go_upto_region 2 with fail
    have B4 := (Bk.new w #[.int .i64 0, .int .i64 0, .string ⟨#[]⟩, .int .i64 0, .int .i64 0, .int .i64 0] 54 w.heap.size rfl).alloc (.cells #[.int .i64 1, .int .i64 0, .string ⟨#[]⟩, .int .i64 0, .int .i64 0, .int .i64 0] 54)
    have B5 := Bk.new (w.alloc (.cells #[.int .i64 0, .int .i64 0, .string ⟨#[]⟩, .int .i64 0, .int .i64 0, .int .i64 0] 54)) #[.int .i64 1, .int .i64 0, .string ⟨#[]⟩, .int .i64 0, .int .i64 0, .int .i64 0] 54 (w.heap.size + 1) (by simp)
    have X0 : Ext w ((w.alloc (.cells #[.int .i64 0, .int .i64 0, .string ⟨#[]⟩, .int .i64 0, .int .i64 0, .int .i64 0] 54)).alloc (.cells #[.int .i64 1, .int .i64 0, .string ⟨#[]⟩, .int .i64 0, .int .i64 0, .int .i64 0] 54)) := ((Ext.refl w).alloc _).alloc _
    generalize (w.alloc (.cells #[.int .i64 0, .int .i64 0, .string ⟨#[]⟩, .int .i64 0, .int .i64 0, .int .i64 0] 54)).alloc (.cells #[.int .i64 1, .int .i64 0, .string ⟨#[]⟩, .int .i64 0, .int .i64 0, .int .i64 0] 54) = W at *
    have q5 : ∀ j, W.cell? ⟨w.heap.size + 1, j, none⟩ = (#[.int .i64 1, .int .i64 0, .string ⟨#[]⟩, .int .i64 0, .int .i64 0, .int .i64 0] : Array Value)[j]? := B5.cell
    have f5 := fun j => B5.frozen j
    obtain ⟨b, off, c', hv, hcap, g0⟩ := HC.out W X0
    simp only [Value.slice.injEq] at hv
    obtain ⟨rfl, -, rfl⟩ := hv
    rw [Nat.add_zero] at g0
    go_upto_region 25 with fail
    have C5 : Bk (W.setCell ⟨w.heap.size + 1, 1, none⟩ (.int .i64 d0)) (w.heap.size + 1) 54 #[.int .i64 1, .int .i64 d0, .string ⟨#[]⟩, .int .i64 0, .int .i64 0, .int .i64 0] := B5.setCell 1 _
    have C4 := B4.setOther (B' := w.heap.size + 1) (by omega) 1 (.int .i64 d0)
    have X1 : Ext w (W.setCell ⟨w.heap.size + 1, 1, none⟩ (.int .i64 d0)) := X0.setCell (Nat.le_succ _) _
    generalize W.setCell ⟨w.heap.size + 1, 1, none⟩ (.int .i64 d0) = W1 at *
    clear q5 f5 B4 B5 X0 g0
    have z5 : ∀ j, W1.cell? ⟨w.heap.size + 1, j, none⟩ = (#[.int .i64 1, .int .i64 d0, .string ⟨#[]⟩, .int .i64 0, .int .i64 0, .int .i64 0] : Array Value)[j]? := C5.cell
    have z4 : ∀ j, W1.cell? ⟨w.heap.size, j, none⟩ = (#[.int .i64 0, .int .i64 0, .string ⟨#[]⟩, .int .i64 0, .int .i64 0, .int .i64 0] : Array Value)[j]? := C4.cell
    have g4 := fun j => C4.frozen j
    go_wp2_with fail
    change bodyPost Try.prog Try.f79 _ Exit.ret _ (put W1 w.heap.size 0 [.int .i64 1, .int .i64 d0, .string ⟨#[]⟩, .int .i64 0, .int .i64 0, .int .i64 0])
    have Q4 := (put_all (vs := [.int .i64 1, .int .i64 d0, .string ⟨#[]⟩, .int .i64 0, .int .i64 0, .int .i64 0]) C4 rfl).cell
    have XX := put_ext (a := w) (Nat.le_refl _) [.int .i64 1, .int .i64 d0, .string ⟨#[]⟩, .int .i64 0, .int .i64 0, .int .i64 0] 0 W1 X1
    generalize put W1 w.heap.size 0 [.int .i64 1, .int .i64 d0, .string ⟨#[]⟩, .int .i64 0, .int .i64 0, .int .i64 0] = W9 at *
    exact bodyPost_ret (v := .agg #[.int .i64 1, .int .i64 d0, .string ⟨#[]⟩, .int .i64 0, .int .i64 0, .int .i64 0]) (by simp [results, Try.results79, go_sem, Q4]) rfl ⟨rfl, XX⟩
  · have hg : guessV 1 D = ⟨1, 0, noStr, 0, 0, 0⟩ := by
      unfold guessV
      rw [if_pos rfl, if_neg hl]
    rw [hg]
    generalize D.length = n at *
    have hli : ¬ (0 : Int) < n := by omega
    clear h hg hl
    go_enter Try.func79, Try.ntmps79
    go_upto_region 2 with fail
    have B4 := (Bk.new w #[.int .i64 0, .int .i64 0, .string ⟨#[]⟩, .int .i64 0, .int .i64 0, .int .i64 0] 54 w.heap.size rfl).alloc (.cells #[.int .i64 1, .int .i64 0, .string ⟨#[]⟩, .int .i64 0, .int .i64 0, .int .i64 0] 54)
    have B5 := Bk.new (w.alloc (.cells #[.int .i64 0, .int .i64 0, .string ⟨#[]⟩, .int .i64 0, .int .i64 0, .int .i64 0] 54)) #[.int .i64 1, .int .i64 0, .string ⟨#[]⟩, .int .i64 0, .int .i64 0, .int .i64 0] 54 (w.heap.size + 1) (by simp)
    have X0 : Ext w ((w.alloc (.cells #[.int .i64 0, .int .i64 0, .string ⟨#[]⟩, .int .i64 0, .int .i64 0, .int .i64 0] 54)).alloc (.cells #[.int .i64 1, .int .i64 0, .string ⟨#[]⟩, .int .i64 0, .int .i64 0, .int .i64 0] 54)) := ((Ext.refl w).alloc _).alloc _
    generalize (w.alloc (.cells #[.int .i64 0, .int .i64 0, .string ⟨#[]⟩, .int .i64 0, .int .i64 0, .int .i64 0] 54)).alloc (.cells #[.int .i64 1, .int .i64 0, .string ⟨#[]⟩, .int .i64 0, .int .i64 0, .int .i64 0] 54) = W at *
    have q5 : ∀ j, W.cell? ⟨w.heap.size + 1, j, none⟩ = (#[.int .i64 1, .int .i64 0, .string ⟨#[]⟩, .int .i64 0, .int .i64 0, .int .i64 0] : Array Value)[j]? := B5.cell
    have f5 := fun j => B5.frozen j
    go_upto_region 25 with fail
    have z5 : ∀ j, W.cell? ⟨w.heap.size + 1, j, none⟩ = (#[.int .i64 1, .int .i64 0, .string ⟨#[]⟩, .int .i64 0, .int .i64 0, .int .i64 0] : Array Value)[j]? := B5.cell
    have z4 : ∀ j, W.cell? ⟨w.heap.size, j, none⟩ = (#[.int .i64 0, .int .i64 0, .string ⟨#[]⟩, .int .i64 0, .int .i64 0, .int .i64 0] : Array Value)[j]? := B4.cell
    have g4 := fun j => B4.frozen j
    go_wp2_with fail
    change bodyPost Try.prog Try.f79 _ Exit.ret _ (put W w.heap.size 0 [.int .i64 1, .int .i64 0, .string ⟨#[]⟩, .int .i64 0, .int .i64 0, .int .i64 0])
    have Q4 := (put_all (vs := [.int .i64 1, .int .i64 0, .string ⟨#[]⟩, .int .i64 0, .int .i64 0, .int .i64 0]) B4 rfl).cell
    have XX := put_ext (a := w) (Nat.le_refl _) [.int .i64 1, .int .i64 0, .string ⟨#[]⟩, .int .i64 0, .int .i64 0, .int .i64 0] 0 W X0
    generalize put W w.heap.size 0 [.int .i64 1, .int .i64 0, .string ⟨#[]⟩, .int .i64 0, .int .i64 0, .int .i64 0] = W9 at *
    exact bodyPost_ret (v := .agg #[.int .i64 1, .int .i64 0, .string ⟨#[]⟩, .int .i64 0, .int .i64 0, .int .i64 0]) (by simp [results, Try.results79, go_sem, Q4]) rfl ⟨rfl, XX⟩

set_option maxRecDepth 100000 in
set_option maxHeartbeats 8000000 in
theorem guessR_2 {V : Nat → Prop} (D : List Int) (v : Value) (w : World) (h : RB V w v D) : Calls Try.prog 79 #[.int .i64 2, v] w (RetVal w (guessV 2 D)) := by
  obtain ⟨a, c, rfl, _, hcm⟩ := h.form
  have hnm : D.length ≤ maxLen := h.le
  unfold maxLen at hnm
  by_cases hlen : 0 < D.length ∧ D.length ≤ 8
  · have hg : guessV 2 D = ⟨2, sgnV D, noStr, 0, 0, 0⟩ := by
      unfold guessV
      rw [if_neg (by omega), if_pos rfl, if_pos hlen]
    obtain ⟨h1, h8⟩ := hlen
    have HC := Lib.hid (fun w1 (he : Ext w w1) => (h.ext he).cellD (k := 0) h1)
    have HJ := Lib.hid (fun w1 (he : Ext w w1) => numberR_any D _ w1 (h.ext he) h8)
    have hd0 := getD_byt h.byt 0
    have HS8 := Lib.hid (fun hl => sgn_eight h.byt hl)
    have HS7 : Hid (∀ m, D.length = m → m < 8 → IntKind.i64.wrap (joinU D) = joinU D ∧ sgnV D = if 128 ≤ D.getD 0 0 then joinU D - 2 ^ (8 * m) else joinU D) := fun m hm h7 => by
      have := joinU_56 h.byt (by omega)
      exact ⟨IntWalk.i64_in _ (by omega), by subst hm; rfl⟩
    have HU : Hid (∀ m, D.length = m → m < 8 → 0 ≤ joinU D ∧ joinU D < 72057594037927936) := fun m hm h7 => joinU_56 h.byt (by omega)
    rw [hg]
    clear h hg
    generalize D.getD 0 0 = d0 at *
    generalize joinU D = U at *
    generalize sgnV D = S at *
    generalize D.length = n at *
    obtain ⟨d01, d02⟩ := hd0
    have hsgn : ∃ J, IntKind.i64.wrap U = J ∧ ((n = 8 ∧ J = S) ∨ (n < 8 ∧ 128 ≤ d0 ∧ S = J - 2 ^ (8 * n) ∧ 0 ≤ J ∧ J < 72057594037927936) ∨ (n < 8 ∧ d0 < 128 ∧ J = S)) := by
      refine ⟨_, rfl, ?_⟩
      rcases Nat.lt_or_ge n 8 with h | h
      · have h7 := HS7.out n rfl h
        have hu := HU.out n rfl h
        rw [h7.1, h7.2]
        by_cases hd : 128 ≤ d0
        · rw [if_pos hd]; exact .inr (.inl ⟨h, hd, rfl, hu⟩)
        · rw [if_neg hd]; exact .inr (.inr ⟨h, by omega, rfl⟩)
      · exact .inl ⟨by omega, HS8.out (by omega)⟩
    obtain ⟨J, hJ, hsgn⟩ := hsgn
    rw [hJ] at HJ
    have e8 : (n : Int) ≤ 8 := by omega
    have e1 : (0 : Int) < n := by omega
    clear HS8 HS7 HU hJ
    go_enter Try.func79, Try.ntmps79
    go_upto_region 2 with fail
    have B4 := (Bk.new w #[.int .i64 0, .int .i64 0, .string ⟨#[]⟩, .int .i64 0, .int .i64 0, .int .i64 0] 54 w.heap.size rfl).alloc (.cells #[.int .i64 2, .int .i64 0, .string ⟨#[]⟩, .int .i64 0, .int .i64 0, .int .i64 0] 54)
    have B5 := Bk.new (w.alloc (.cells #[.int .i64 0, .int .i64 0, .string ⟨#[]⟩, .int .i64 0, .int .i64 0, .int .i64 0] 54)) #[.int .i64 2, .int .i64 0, .string ⟨#[]⟩, .int .i64 0, .int .i64 0, .int .i64 0] 54 (w.heap.size + 1) (by simp)
    have X0 : Ext w ((w.alloc (.cells #[.int .i64 0, .int .i64 0, .string ⟨#[]⟩, .int .i64 0, .int .i64 0, .int .i64 0] 54)).alloc (.cells #[.int .i64 2, .int .i64 0, .string ⟨#[]⟩, .int .i64 0, .int .i64 0, .int .i64 0] 54)) := ((Ext.refl w).alloc _).alloc _
    generalize (w.alloc (.cells #[.int .i64 0, .int .i64 0, .string ⟨#[]⟩, .int .i64 0, .int .i64 0, .int .i64 0] 54)).alloc (.cells #[.int .i64 2, .int .i64 0, .string ⟨#[]⟩, .int .i64 0, .int .i64 0, .int .i64 0] 54) = W at *
    have q5 : ∀ j, W.cell? ⟨w.heap.size + 1, j, none⟩ = (#[.int .i64 2, .int .i64 0, .string ⟨#[]⟩, .int .i64 0, .int .i64 0, .int .i64 0] : Array Value)[j]? := B5.cell
    have f5 := fun j => B5.frozen j
    have HJ1 := Lib.hid (HJ.out W X0)
    go_wp2_with fail
    refine HJ1.out.mono ?_
    rintro e w1 ⟨rfl, rfl⟩
    go_upto_region 9 with fail
    have C5 : Bk (W.setCell ⟨w.heap.size + 1, 1, none⟩ (.int .i64 J)) (w.heap.size + 1) 54 #[.int .i64 2, .int .i64 J, .string ⟨#[]⟩, .int .i64 0, .int .i64 0, .int .i64 0] := B5.setCell 1 _
    have C4 := B4.setOther (B' := w.heap.size + 1) (by omega) 1 (.int .i64 J)
    have X1 : Ext w (W.setCell ⟨w.heap.size + 1, 1, none⟩ (.int .i64 J)) := X0.setCell (Nat.le_succ _) _
    generalize W.setCell ⟨w.heap.size + 1, 1, none⟩ (.int .i64 J) = W1 at *
    clear q5 f5 B4 B5 X0
    obtain ⟨b, off, c', hv, hcap, g0⟩ := HC.out W1 X1
    simp only [Value.slice.injEq] at hv
    obtain ⟨rfl, -, rfl⟩ := hv
    rw [Nat.add_zero] at g0
    have y5 : ∀ j, W1.cell? ⟨w.heap.size + 1, j, none⟩ = (#[.int .i64 2, .int .i64 J, .string ⟨#[]⟩, .int .i64 0, .int .i64 0, .int .i64 0] : Array Value)[j]? := C5.cell
    have k5 := fun j => C5.frozen j
    rcases hsgn with ⟨rfl, rfl⟩ | ⟨h7, hdg, hS, hj0, hj1⟩ | ⟨h7, hdg, rfl⟩
    · by_cases hdg : 128 ≤ d0
      · have hdb : decide (128 ≤ d0) = true := by simpa using hdg
        go_upto_region 25 with fail
        clear y5 k5
        have z5 : ∀ j, W1.cell? ⟨w.heap.size + 1, j, none⟩ = (#[.int .i64 2, .int .i64 J, .string ⟨#[]⟩, .int .i64 0, .int .i64 0, .int .i64 0] : Array Value)[j]? := C5.cell
        have z4 : ∀ j, W1.cell? ⟨w.heap.size, j, none⟩ = (#[.int .i64 0, .int .i64 0, .string ⟨#[]⟩, .int .i64 0, .int .i64 0, .int .i64 0] : Array Value)[j]? := C4.cell
        have g4 := fun j => C4.frozen j
        go_wp2_with fail
        change bodyPost Try.prog Try.f79 _ Exit.ret _ (put W1 w.heap.size 0 [.int .i64 2, .int .i64 J, .string ⟨#[]⟩, .int .i64 0, .int .i64 0, .int .i64 0])
        have Q4 := (put_all (vs := [.int .i64 2, .int .i64 J, .string ⟨#[]⟩, .int .i64 0, .int .i64 0, .int .i64 0]) C4 rfl).cell
        have XX := put_ext (a := w) (Nat.le_refl _) [.int .i64 2, .int .i64 J, .string ⟨#[]⟩, .int .i64 0, .int .i64 0, .int .i64 0] 0 W1 X1
        generalize put W1 w.heap.size 0 [.int .i64 2, .int .i64 J, .string ⟨#[]⟩, .int .i64 0, .int .i64 0, .int .i64 0] = W9 at *
        exact bodyPost_ret (v := .agg #[.int .i64 2, .int .i64 J, .string ⟨#[]⟩, .int .i64 0, .int .i64 0, .int .i64 0]) (by simp [results, Try.results79, go_sem, Q4]) rfl ⟨rfl, XX⟩
      · have hdb : decide (128 ≤ d0) = false := by simpa using hdg
        go_upto_region 25 with fail
        clear y5 k5
        have z5 : ∀ j, W1.cell? ⟨w.heap.size + 1, j, none⟩ = (#[.int .i64 2, .int .i64 J, .string ⟨#[]⟩, .int .i64 0, .int .i64 0, .int .i64 0] : Array Value)[j]? := C5.cell
        have z4 : ∀ j, W1.cell? ⟨w.heap.size, j, none⟩ = (#[.int .i64 0, .int .i64 0, .string ⟨#[]⟩, .int .i64 0, .int .i64 0, .int .i64 0] : Array Value)[j]? := C4.cell
        have g4 := fun j => C4.frozen j
        go_wp2_with fail
        change bodyPost Try.prog Try.f79 _ Exit.ret _ (put W1 w.heap.size 0 [.int .i64 2, .int .i64 J, .string ⟨#[]⟩, .int .i64 0, .int .i64 0, .int .i64 0])
        have Q4 := (put_all (vs := [.int .i64 2, .int .i64 J, .string ⟨#[]⟩, .int .i64 0, .int .i64 0, .int .i64 0]) C4 rfl).cell
        have XX := put_ext (a := w) (Nat.le_refl _) [.int .i64 2, .int .i64 J, .string ⟨#[]⟩, .int .i64 0, .int .i64 0, .int .i64 0] 0 W1 X1
        generalize put W1 w.heap.size 0 [.int .i64 2, .int .i64 J, .string ⟨#[]⟩, .int .i64 0, .int .i64 0, .int .i64 0] = W9 at *
        exact bodyPost_ret (v := .agg #[.int .i64 2, .int .i64 J, .string ⟨#[]⟩, .int .i64 0, .int .i64 0, .int .i64 0]) (by simp [results, Try.results79, go_sem, Q4]) rfl ⟨rfl, XX⟩
    · have e7 : (n : Int) < 8 := by omega
      have hdb : decide (128 ≤ d0) = true := by simpa using hdg
      have HPW : Hid (wrap64 (J - wrap64 (2 ^ (8 * n))) = S) := by
        have hp1 := p2_le (8 * n) 56 (by omega)
        have hp0 : (0 : Int) < 2 ^ (8 * n) := Int.pow_pos (by omega)
        rw [show (2 : Int) ^ 56 = 72057594037927936 by decide] at hp1
        show wrap64 (J - wrap64 (2 ^ (8 * n))) = S
        rw [hS]
        generalize (2 : Int) ^ (8 * n) = P at *
        unfold wrap64
        omega
      clear hS
      go_upto_region 25 with fail
      rw [HPW.out]
      have E5 : Bk (W1.setCell ⟨w.heap.size + 1, 1, none⟩ (.int .i64 S)) (w.heap.size + 1) 54 #[.int .i64 2, .int .i64 S, .string ⟨#[]⟩, .int .i64 0, .int .i64 0, .int .i64 0] := C5.setCell 1 _
      have E4 := C4.setOther (B' := w.heap.size + 1) (by omega) 1 (.int .i64 S)
      have X2 : Ext w (W1.setCell ⟨w.heap.size + 1, 1, none⟩ (.int .i64 S)) := X1.setCell (Nat.le_succ _) _
      generalize W1.setCell ⟨w.heap.size + 1, 1, none⟩ (.int .i64 S) = W2 at *
      clear y5 k5 C5 C4 X1
      have z5 : ∀ j, W2.cell? ⟨w.heap.size + 1, j, none⟩ = (#[.int .i64 2, .int .i64 S, .string ⟨#[]⟩, .int .i64 0, .int .i64 0, .int .i64 0] : Array Value)[j]? := E5.cell
      have z4 : ∀ j, W2.cell? ⟨w.heap.size, j, none⟩ = (#[.int .i64 0, .int .i64 0, .string ⟨#[]⟩, .int .i64 0, .int .i64 0, .int .i64 0] : Array Value)[j]? := E4.cell
      have g4 := fun j => E4.frozen j
      go_wp2_with fail
      change bodyPost Try.prog Try.f79 _ Exit.ret _ (put W2 w.heap.size 0 [.int .i64 2, .int .i64 S, .string ⟨#[]⟩, .int .i64 0, .int .i64 0, .int .i64 0])
      have Q4 := (put_all (vs := [.int .i64 2, .int .i64 S, .string ⟨#[]⟩, .int .i64 0, .int .i64 0, .int .i64 0]) E4 rfl).cell
      have XX := put_ext (a := w) (Nat.le_refl _) [.int .i64 2, .int .i64 S, .string ⟨#[]⟩, .int .i64 0, .int .i64 0, .int .i64 0] 0 W2 X2
      generalize put W2 w.heap.size 0 [.int .i64 2, .int .i64 S, .string ⟨#[]⟩, .int .i64 0, .int .i64 0, .int .i64 0] = W9 at *
      exact bodyPost_ret (v := .agg #[.int .i64 2, .int .i64 S, .string ⟨#[]⟩, .int .i64 0, .int .i64 0, .int .i64 0]) (by simp [results, Try.results79, go_sem, Q4]) rfl ⟨rfl, XX⟩
    · have e7 : (n : Int) < 8 := by omega
      have hdb : decide (128 ≤ d0) = false := by simpa using hdg
      go_upto_region 25 with fail
      clear y5 k5
      have z5 : ∀ j, W1.cell? ⟨w.heap.size + 1, j, none⟩ = (#[.int .i64 2, .int .i64 J, .string ⟨#[]⟩, .int .i64 0, .int .i64 0, .int .i64 0] : Array Value)[j]? := C5.cell
      have z4 : ∀ j, W1.cell? ⟨w.heap.size, j, none⟩ = (#[.int .i64 0, .int .i64 0, .string ⟨#[]⟩, .int .i64 0, .int .i64 0, .int .i64 0] : Array Value)[j]? := C4.cell
      have g4 := fun j => C4.frozen j
      go_wp2_with fail
      change bodyPost Try.prog Try.f79 _ Exit.ret _ (put W1 w.heap.size 0 [.int .i64 2, .int .i64 J, .string ⟨#[]⟩, .int .i64 0, .int .i64 0, .int .i64 0])
      have Q4 := (put_all (vs := [.int .i64 2, .int .i64 J, .string ⟨#[]⟩, .int .i64 0, .int .i64 0, .int .i64 0]) C4 rfl).cell
      have XX := put_ext (a := w) (Nat.le_refl _) [.int .i64 2, .int .i64 J, .string ⟨#[]⟩, .int .i64 0, .int .i64 0, .int .i64 0] 0 W1 X1
      generalize put W1 w.heap.size 0 [.int .i64 2, .int .i64 J, .string ⟨#[]⟩, .int .i64 0, .int .i64 0, .int .i64 0] = W9 at *
      exact bodyPost_ret (v := .agg #[.int .i64 2, .int .i64 J, .string ⟨#[]⟩, .int .i64 0, .int .i64 0, .int .i64 0]) (by simp [results, Try.results79, go_sem, Q4]) rfl ⟨rfl, XX⟩
  · have hg : guessV 2 D = ⟨2, 0, noStr, 0, 0, 0⟩ := by
      unfold guessV
      rw [if_neg (by omega), if_pos rfl, if_neg hlen]
    rw [hg]
    have hw2 : ¬ (0 : Int) < D.length ∨ (0 : Int) < D.length ∧ decide ((D.length : Int) ≤ 8) = false := by
      by_cases h : 0 < D.length
      · exact .inr ⟨by omega, by simp only [decide_eq_false_iff_not]; omega⟩
      · exact .inl (by omega)
    generalize D.length = n at *
    clear h hg hlen
    rcases hw2 with hli | ⟨hli, hlb⟩
    all_goals
      go_enter Try.func79, Try.ntmps79
      go_upto_region 2 with fail
      have B4 := (Bk.new w #[.int .i64 0, .int .i64 0, .string ⟨#[]⟩, .int .i64 0, .int .i64 0, .int .i64 0] 54 w.heap.size rfl).alloc (.cells #[.int .i64 2, .int .i64 0, .string ⟨#[]⟩, .int .i64 0, .int .i64 0, .int .i64 0] 54)
      have B5 := Bk.new (w.alloc (.cells #[.int .i64 0, .int .i64 0, .string ⟨#[]⟩, .int .i64 0, .int .i64 0, .int .i64 0] 54)) #[.int .i64 2, .int .i64 0, .string ⟨#[]⟩, .int .i64 0, .int .i64 0, .int .i64 0] 54 (w.heap.size + 1) (by simp)
      have X0 : Ext w ((w.alloc (.cells #[.int .i64 0, .int .i64 0, .string ⟨#[]⟩, .int .i64 0, .int .i64 0, .int .i64 0] 54)).alloc (.cells #[.int .i64 2, .int .i64 0, .string ⟨#[]⟩, .int .i64 0, .int .i64 0, .int .i64 0] 54)) := ((Ext.refl w).alloc _).alloc _
      generalize (w.alloc (.cells #[.int .i64 0, .int .i64 0, .string ⟨#[]⟩, .int .i64 0, .int .i64 0, .int .i64 0] 54)).alloc (.cells #[.int .i64 2, .int .i64 0, .string ⟨#[]⟩, .int .i64 0, .int .i64 0, .int .i64 0] 54) = W at *
      have q5 : ∀ j, W.cell? ⟨w.heap.size + 1, j, none⟩ = (#[.int .i64 2, .int .i64 0, .string ⟨#[]⟩, .int .i64 0, .int .i64 0, .int .i64 0] : Array Value)[j]? := B5.cell
      have f5 := fun j => B5.frozen j
      go_upto_region 25 with fail
      have z5 : ∀ j, W.cell? ⟨w.heap.size + 1, j, none⟩ = (#[.int .i64 2, .int .i64 0, .string ⟨#[]⟩, .int .i64 0, .int .i64 0, .int .i64 0] : Array Value)[j]? := B5.cell
      have z4 : ∀ j, W.cell? ⟨w.heap.size, j, none⟩ = (#[.int .i64 0, .int .i64 0, .string ⟨#[]⟩, .int .i64 0, .int .i64 0, .int .i64 0] : Array Value)[j]? := B4.cell
      have g4 := fun j => B4.frozen j
      go_wp2_with fail
      change bodyPost Try.prog Try.f79 _ Exit.ret _ (put W w.heap.size 0 [.int .i64 2, .int .i64 0, .string ⟨#[]⟩, .int .i64 0, .int .i64 0, .int .i64 0])
      have Q4 := (put_all (vs := [.int .i64 2, .int .i64 0, .string ⟨#[]⟩, .int .i64 0, .int .i64 0, .int .i64 0]) B4 rfl).cell
      have XX := put_ext (a := w) (Nat.le_refl _) [.int .i64 2, .int .i64 0, .string ⟨#[]⟩, .int .i64 0, .int .i64 0, .int .i64 0] 0 W X0
      generalize put W w.heap.size 0 [.int .i64 2, .int .i64 0, .string ⟨#[]⟩, .int .i64 0, .int .i64 0, .int .i64 0] = W9 at *
      exact bodyPost_ret (v := .agg #[.int .i64 2, .int .i64 0, .string ⟨#[]⟩, .int .i64 0, .int .i64 0, .int .i64 0]) (by simp [results, Try.results79, go_sem, Q4]) rfl ⟨rfl, XX⟩

end Go.Proofs.Ytjaofbfppnmdjaa

namespace Go.Proofs.Ytjaofbfppnmdjaa
open Go.RowKit
attribute [local go_sem ↓] Go.wp_at_zero Go.wp_at_succ
attribute [local go_sem high] slice_h4 slice_47 slice_h

theorem slice_7 (w : World) (b off cap : Nat) : (Instr.slice 25 (.slice (some ⟨b, off, none⟩) 8 cap) (some (.int .i64 7)) none none).run Try.prog w = .ok (.slice (cutA b off cap 7) 1 (cap - 7)) w := slice_l w b off 8 cap 7 0 (by omega)
attribute [local go_sem high] slice_7
theorem bit_of : ∀ (x : Fin 256) (r : Fin 8), bits .and .u8 ((x.1 : Int) / 2 ^ (7 - r.1)) 1 = if x.1.testBit (7 - r.1) then 1 else 0 := by decide +kernel
theorem bit_ofAt {D : List Int} (hb : Byt D) (k q : Nat) (hq : q = 8 + k) : bits .and .u8 (D.getD (q / 8) 0 / 2 ^ (7 - q % 8)) 1 = if bitAt D k = true then 1 else 0 := by
  have hx := getD_byt hb (q / 8)
  have h := bit_of ⟨(D.getD (q / 8) 0).toNat, by omega⟩ ⟨q % 8, Nat.mod_lt _ (by omega)⟩
  simp only at h
  rw [Int.toNat_of_nonneg hx.1] at h
  have h2 : bitAt D k = (D.getD (q / 8) 0).toNat.testBit (7 - q % 8) := by
    unfold bitAt
    rw [show q / 8 = 1 + k / 8 by omega, show q % 8 = k % 8 by omega]
  rw [h2]
  exact h
theorem Bk.grown {w w' : World} {B : Nat} {t : TypeId} {cs : Array Value} {row : Option Nat} (h : Bk w B t cs) (hg : w.grownBy w' row) (hr : row ≠ some B) : Bk w' B t cs := (hg.block B h.lt (fun e => hr e.symm)).trans h
theorem RB.takeN {V : Nat → Prop} {w : World} {a : Option Addr} {n c : Nat} {bs : List Int} (h : RB V w (.slice a n c) bs) (k : Nat) (hk : k ≤ bs.length) : RB V w (.slice a k c) (bs.take k) := by
  obtain ⟨hb, a', c', hv, h1, h2, h3⟩ := h
  simp only [Value.slice.injEq] at hv
  obtain ⟨rfl, rfl, rfl⟩ := hv
  have hl : (bs.take k).length = k := by rw [List.length_take]; omega
  refine ⟨hb.take k, a, c, by rw [hl], by omega, h2, fun hne => ?_⟩
  obtain ⟨b, off, rfl, hV, hc⟩ := h3 (fun e => by subst e; simp at hne)
  refine ⟨b, off, rfl, hV, fun j hj => ?_⟩
  rw [List.getElem_take]
  exact hc j (by omega)
theorem bl_take (D : List Int) (m p : Nat) (h : p ≤ m) : (bl D m).take p = bl D p := by
  unfold bl
  rw [← List.map_take, List.take_range, Nat.min_eq_left h]
theorem own_slice {w : World} {base : Nat} {e : TypeId} {v : Value} {n : Nat} {xs : List Value} (h : w.ownsRow base e 1 v n xs) (hn : 0 < n) : ∃ g c, v = .slice (some ⟨g, 0, none⟩) n c ∧ n ≤ c ∧ base ≤ g := by
  rcases h.2 with ⟨rfl, h0⟩ | ⟨g, cap, cur, rfl, hb, _, hc, _⟩
  · omega
  · exact ⟨g, cap, rfl, hc, hb⟩

set_option maxRecDepth 100000 in
set_option maxHeartbeats 16000000 in
theorem guessR_3 {V : Nat → Prop} (D : List Int) (v : Value) (w : World) (h : RB V w v D) (hnm : D.length ≤ 140737488355328) : Calls Try.prog 79 #[.int .i64 3, v] w (RetVal w (guessV 3 D)) := by
  obtain ⟨i0, hi0, hz0, hz1, hz2⟩ := info_parts info_byte
  obtain ⟨a, c, rfl, _, hcm⟩ := h.form
  have HC := Lib.hid (fun w1 (he : Ext w w1) k (hk : k < D.length) => (h.ext he).cellD hk)
  have HBA := Lib.hid (fun k q (hq : q = 8 + k) => bit_ofAt h.byt k q hq)
  have HBS := Lib.hid (bl_snoc D)
  have HBB := Lib.hid (bl_byt D)
  have HBN := Lib.hid (bl_len D)
  have HBT := Lib.hid (bl_take D)
  have hd0 := getD_byt h.byt 0
  obtain ⟨S, hS⟩ : ∃ S, strOfNums (gBits D) = S := ⟨_, rfl⟩
  have hg : guessV 3 D = ⟨3, 0, S, 0, 0, 0⟩ := by
    rw [← hS]
    unfold guessV
    rw [if_neg (by omega), if_neg (by omega), if_pos rfl]
  rw [hg]
  have HGB : Hid (gBits D = if 1 < D.length ∧ D.getD 0 0 < 8 then bl D ((min (8 * D.length) 600 - 8) - (D.getD 0 0).toNat) else bl D (min (8 * D.length) 600 - 8)) := rfl
  have HSS := Lib.hid hS
  clear h hg hS
  obtain ⟨m, hm⟩ : ∃ m, m = min (8 * D.length) 600 - 8 := ⟨_, rfl⟩
  rw [← hm] at HGB
  have HM := Lib.hid hm
  generalize D.length = n at *
  have hm6 : m ≤ 592 := by omega
  clear hm
  have HNM := Lib.hid hnm
  have e8 : IntKind.i64.wrap (8 * (n : Int)) = 8 * (n : Int) := IntWalk.i64_in _ (by omega)
  clear hnm
  go_enter Try.func79, Try.ntmps79
  go_upto_region 2 with fail
  have B4 := (Bk.new w #[.int .i64 0, .int .i64 0, .string ⟨#[]⟩, .int .i64 0, .int .i64 0, .int .i64 0] 54 w.heap.size rfl).alloc (.cells #[.int .i64 3, .int .i64 0, .string ⟨#[]⟩, .int .i64 0, .int .i64 0, .int .i64 0] 54)
  have B5 := Bk.new (w.alloc (.cells #[.int .i64 0, .int .i64 0, .string ⟨#[]⟩, .int .i64 0, .int .i64 0, .int .i64 0] 54)) #[.int .i64 3, .int .i64 0, .string ⟨#[]⟩, .int .i64 0, .int .i64 0, .int .i64 0] 54 (w.heap.size + 1) (by simp)
  have X0 : Ext w ((w.alloc (.cells #[.int .i64 0, .int .i64 0, .string ⟨#[]⟩, .int .i64 0, .int .i64 0, .int .i64 0] 54)).alloc (.cells #[.int .i64 3, .int .i64 0, .string ⟨#[]⟩, .int .i64 0, .int .i64 0, .int .i64 0] 54)) := ((Ext.refl w).alloc _).alloc _
  generalize (w.alloc (.cells #[.int .i64 0, .int .i64 0, .string ⟨#[]⟩, .int .i64 0, .int .i64 0, .int .i64 0] 54)).alloc (.cells #[.int .i64 3, .int .i64 0, .string ⟨#[]⟩, .int .i64 0, .int .i64 0, .int .i64 0] 54) = W at *
  have q5 : ∀ j, W.cell? ⟨w.heap.size + 1, j, none⟩ = (#[.int .i64 3, .int .i64 0, .string ⟨#[]⟩, .int .i64 0, .int .i64 0, .int .i64 0] : Array Value)[j]? := B5.cell
  have f5 := fun j => B5.frozen j
  go_upto_region 14 with fail
  have B4' := B4.alloc (.cells #[] 5)
  have B5' := B5.alloc (.cells #[] 5)
  have X1 := X0.alloc (.cells #[] 5)
  have HO0 := Lib.hid (World.ownsRow_litB W W.heap.size rfl)
  have HB2 : Hid (w.heap.size + 2 ≤ W.heap.size) := by have : w.heap.size + 2 ≤ W.heap.size := by have := B5.lt; omega
                                                       exact this
  have HBL0 : Hid (W.heap.size ≤ (W.alloc (.cells #[] 5)).heap.size) := ((Ext.refl W).alloc _).size
  clear q5 f5 B4 B5 X0
  generalize W.alloc (.cells #[] 5) = W0 at *
  generalize W.heap.size = B at *
  go_loopw [6, 7] (fun o i wr => ∃ (q k : Nat), q = 8 + k ∧ k ≤ m ∧ i = .int .i64 q ∧ wr.ownsRow B 5 1 o k ((bl D k).map (Value.int .u8)) ∧ Bk wr (w.heap.size + 1) 54 #[.int .i64 3, .int .i64 0, .string ⟨#[]⟩, .int .i64 0, .int .i64 0, .int .i64 0] ∧ Bk wr w.heap.size 54 #[.int .i64 0, .int .i64 0, .string ⟨#[]⟩, .int .i64 0, .int .i64 0, .int .i64 0] ∧ Ext w wr ∧ B ≤ wr.heap.size) (fun _ i _ => 8 + m - (intOf i).toNat)
  case atStart => exact ⟨8, 0, by omega, by omega, rfl, HO0.out, B5', B4', X1, HBL0.out⟩
  case round =>
    obtain ⟨q, k, hq, hk, rfl, hown, hb5, hb4, hx, hbl⟩ := hrel
    have HQ := Lib.hid hq
    have HO := Lib.hid hown
    have HX := Lib.hid hx
    have HB5 := Lib.hid hb5
    have HB4 := Lib.hid hb4
    have HBL := Lib.hid hbl
    clear hown hb5 hb4 hbl B4' B5' X1
    by_cases hlt : k < m
    · have hm1 := HM.out
      have hq8 : q < 8 * n := by omega
      have hq6 : q < 600 := by omega
      have i1 : (q : Int) < 8 * n := by omega
      have i2 : (q : Int) < 600 := by omega
      obtain ⟨b, off, c', hv, hcap, q0⟩ := HC.out wr hx (q / 8) (by omega)
      simp only [Value.slice.injEq] at hv
      obtain ⟨rfl, -, rfl⟩ := hv
      have h1 : (q : Int) / 8 < n := by omega
      have h2 : (0 : Int) ≤ (q : Int) / 8 := by omega
      have h3 : ((q : Int) / 8).toNat = q / 8 := by omega
      have h4 : (7 - (q : Int) % 8).toNat = 7 - q % 8 := by omega
      have h7 : (0 : Int) ≤ 7 - (q : Int) % 8 := by omega
      have h8 : 7 - (q : Int) % 8 ≤ 8 := by omega
      have e1 : IntKind.i64.wrap ((q : Int) / 8) = (q : Int) / 8 := IntWalk.i64_in _ (by omega)
      have e4 : (q : Int).tmod 8 = (q : Int) % 8 := Int.tmod_eq_emod_of_nonneg (by omega)
      have e5 : IntKind.i64.wrap (7 - (q : Int) % 8) = 7 - (q : Int) % 8 := IntWalk.i64_in _ (by omega)
      have e6 : IntKind.u64.wrap (7 - (q : Int) % 8) = 7 - (q : Int) % 8 := by rw [IntKind.wrap_u64]; omega
      have hand := HBA.out k q hq
      have hsn := HBS.out k
      obtain ⟨xs, hxs⟩ : ∃ xs, (bl D k).map (Value.int .u8) = xs := ⟨_, rfl⟩
      have HXS := Lib.hid hxs
      rw [hxs] at HO
      generalize D.getD (q / 8) 0 = x at *
      clear hxs hx hm1 hq
      cases hbv : bitAt D k
      · rw [hbv, if_neg (by simp)] at hand hsn
        have HSN := Lib.hid hsn
        clear hsn hbv
        go_wp2_with (at_builtin; refine wpList_append_src _ rfl (.tmp 66) (.tmp 79) _ rfl B 5 i0 _ 1 1 Try.underlying25 hi0 hz0 hz1 hz2 rfl (by omega) _ k xs rfl (own_ext HO.out ((Ext.refl wr).alloc _)) _ 1 1 [.int .u8 48] rfl (Src.litB _ #[.int .u8 48] 5 1 _ (by simp) rfl (by simp [Value.oneCell'])) (by unfold maxLen; omega) (by omega) (Nat.le_trans HBL.out (by simp)) ?_; intro A1 c1 w1 hown1 hg1 hat1)
        have hX1 : Ext w w1 := (HX.out.alloc _).grown hg1 (fun g hg => by have := (HO.out.lt g hg).1; have := HB2.out; omega)
        have HB51 := Lib.hid ((HB5.out.alloc (.cells #[.int .u8 48] 5)).grown hg1 (fun e => by have := (HO.out.lt _ e).1; have := HB2.out; omega))
        have HB41 := Lib.hid ((HB4.out.alloc (.cells #[.int .u8 48] 5)).grown hg1 (fun e => by have := (HO.out.lt _ e).1; have := HB2.out; omega))
        have HBL1 : Hid (B ≤ w1.heap.size) := Nat.le_trans HBL.out (Nat.le_trans (by simp) hg1.size)
        have HO1 := Lib.hid hown1
        clear hown1 hg1 hat1
        go_wp2_with fail
        go_roundw
        case rel => exact ⟨q + 1, k + 1, by have := HQ.out; omega, by omega, by go_num, by rw [HSN.out, List.map_append, HXS.out]; exact HO1.out, HB51.out, HB41.out, hX1, HBL1.out⟩
        case measure => (have := HQ.out; simp [intOf]; omega)
      · rw [hbv, if_pos rfl] at hand hsn
        have HSN := Lib.hid hsn
        clear hsn hbv
        go_wp2_with (at_builtin; refine wpList_append_src _ rfl (.tmp 66) (.tmp 79) _ rfl B 5 i0 _ 1 1 Try.underlying25 hi0 hz0 hz1 hz2 rfl (by omega) _ k xs rfl (own_ext HO.out ((Ext.refl wr).alloc _)) _ 1 1 [.int .u8 49] rfl (Src.litB _ #[.int .u8 49] 5 1 _ (by simp) rfl (by simp [Value.oneCell'])) (by unfold maxLen; omega) (by omega) (Nat.le_trans HBL.out (by simp)) ?_; intro A1 c1 w1 hown1 hg1 hat1)
        have hX1 : Ext w w1 := (HX.out.alloc _).grown hg1 (fun g hg => by have := (HO.out.lt g hg).1; have := HB2.out; omega)
        have HB51 := Lib.hid ((HB5.out.alloc (.cells #[.int .u8 49] 5)).grown hg1 (fun e => by have := (HO.out.lt _ e).1; have := HB2.out; omega))
        have HB41 := Lib.hid ((HB4.out.alloc (.cells #[.int .u8 49] 5)).grown hg1 (fun e => by have := (HO.out.lt _ e).1; have := HB2.out; omega))
        have HBL1 : Hid (B ≤ w1.heap.size) := Nat.le_trans HBL.out (Nat.le_trans (by simp) hg1.size)
        have HO1 := Lib.hid hown1
        clear hown1 hg1 hat1
        go_wp2_with fail
        go_roundw
        case rel => exact ⟨q + 1, k + 1, by have := HQ.out; omega, by omega, by go_num, by rw [HSN.out, List.map_append, HXS.out]; exact HO1.out, HB51.out, HB41.out, hX1, HBL1.out⟩
        case measure => (have := HQ.out; simp [intOf]; omega)
    · have hmk : k = m := by omega
      have hm1 := HM.out
      subst hmk
      have hnq : ¬ (q : Int) < 8 * n ∨ (q : Int) < 8 * n ∧ decide ((q : Int) < 600) = false := by
        by_cases h : q < 8 * n
        · exact .inr ⟨by omega, by simp only [decide_eq_false_iff_not]; omega⟩
        · exact .inl (by omega)
      have hown2 : wr.ownsRow B 5 1 u6 (bl D k).length ((bl D k).map (Value.int .u8)) := by rw [HBN.out]; exact HO.out
      have B5 := HB5.out
      have B4 := HB4.out
      have X0 := HX.out
      have q5 : ∀ j, wr.cell? ⟨w.heap.size + 1, j, none⟩ = (#[.int .i64 3, .int .i64 0, .string ⟨#[]⟩, .int .i64 0, .int .i64 0, .int .i64 0] : Array Value)[j]? := B5.cell
      have f5 := fun j => B5.frozen j
      have z4 : ∀ j, wr.cell? ⟨w.heap.size, j, none⟩ = (#[.int .i64 0, .int .i64 0, .string ⟨#[]⟩, .int .i64 0, .int .i64 0, .int .i64 0] : Array Value)[j]? := B4.cell
      have g4 := fun j => B4.frozen j
      by_cases hn1 : 1 < n
      · have hn1i : (1 : Int) < n := by omega
        obtain ⟨g, c2, rfl, hc2, _⟩ := own_slice HO.out (by omega)
        have hr := RB.of_own hown2 (HBB.out k) (V := Any) (fun _ h => h.elim)
        obtain ⟨b, off, c', hv, hcap, q0⟩ := HC.out wr hx 0 (by omega)
        simp only [Value.slice.injEq] at hv
        obtain ⟨rfl, -, rfl⟩ := hv
        rw [Nat.add_zero] at q0
        by_cases hd8 : D.getD 0 0 < 8
        · obtain ⟨p, hp⟩ : ∃ p : Nat, (k : Int) - D.getD 0 0 = p := ⟨(k : Int).toNat - (D.getD 0 0).toNat, by omega⟩
          have hpk : p ≤ k := by omega
          have hr2 := hr.takeN p (by rw [HBN.out]; exact hpk)
          rw [HBT.out k p hpk] at hr2
          have hgb : gBits D = bl D p := by
            rw [HGB.out, if_pos ⟨hn1, hd8⟩]
            congr 1
            omega
          have hcv := hr2.conv (P := Try.prog) 25 9 5 Try.underlying25 Try.underlying5 Try.underlying9
          rw [← hgb, HSS.out] at hcv
          have hp0 : (0 : Int) < p := by omega
          have hp1 : 0 < p := by omega
          have hpc : p ≤ c2 := by omega
          clear hr hr2 hown2 hgb hm1 hq
          generalize D.getD 0 0 = x0 at *
          rcases hnq with hnq | ⟨hnq1, hnq2⟩
          all_goals
            go_wp2_with fail
            change bodyPost Try.prog Try.f79 _ Exit.ret _ (put (wr.setCell ⟨w.heap.size + 1, 2, none⟩ (.string S)) w.heap.size 0 [.int .i64 3, .int .i64 0, .string S, .int .i64 0, .int .i64 0, .int .i64 0])
            have C4 := B4.setOther (B' := w.heap.size + 1) (by omega) 2 (.string S)
            have X9 : Ext w (wr.setCell ⟨w.heap.size + 1, 2, none⟩ (.string S)) := X0.setCell (Nat.le_succ _) _
            have Q4 := (put_all (vs := [.int .i64 3, .int .i64 0, .string S, .int .i64 0, .int .i64 0, .int .i64 0]) C4 rfl).cell
            have XX := put_ext (a := w) (Nat.le_refl _) [.int .i64 3, .int .i64 0, .string S, .int .i64 0, .int .i64 0, .int .i64 0] 0 _ X9
            generalize put (wr.setCell ⟨w.heap.size + 1, 2, none⟩ (.string S)) w.heap.size 0 [.int .i64 3, .int .i64 0, .string S, .int .i64 0, .int .i64 0, .int .i64 0] = W9 at *
            exact bodyPost_ret (v := .agg #[.int .i64 3, .int .i64 0, .string S, .int .i64 0, .int .i64 0, .int .i64 0]) (by simp [results, Try.results79, go_sem, Q4]) rfl ⟨rfl, XX⟩
        · have hgb : gBits D = bl D k := by rw [HGB.out, if_neg (fun h => hd8 h.2)]
          have hcv := hr.conv (P := Try.prog) 25 9 5 Try.underlying25 Try.underlying5 Try.underlying9
          rw [← hgb, HSS.out] at hcv
          have hd8b : decide (D.getD 0 0 < 8) = false := by simpa using hd8
          clear hr hown2 hgb hd8 hm1 hq
          generalize D.getD 0 0 = x0 at *
          rcases hnq with hnq | ⟨hnq1, hnq2⟩
          all_goals
            go_wp2_with fail
            change bodyPost Try.prog Try.f79 _ Exit.ret _ (put (wr.setCell ⟨w.heap.size + 1, 2, none⟩ (.string S)) w.heap.size 0 [.int .i64 3, .int .i64 0, .string S, .int .i64 0, .int .i64 0, .int .i64 0])
            have C4 := B4.setOther (B' := w.heap.size + 1) (by omega) 2 (.string S)
            have X9 : Ext w (wr.setCell ⟨w.heap.size + 1, 2, none⟩ (.string S)) := X0.setCell (Nat.le_succ _) _
            have Q4 := (put_all (vs := [.int .i64 3, .int .i64 0, .string S, .int .i64 0, .int .i64 0, .int .i64 0]) C4 rfl).cell
            have XX := put_ext (a := w) (Nat.le_refl _) [.int .i64 3, .int .i64 0, .string S, .int .i64 0, .int .i64 0, .int .i64 0] 0 _ X9
            generalize put (wr.setCell ⟨w.heap.size + 1, 2, none⟩ (.string S)) w.heap.size 0 [.int .i64 3, .int .i64 0, .string S, .int .i64 0, .int .i64 0, .int .i64 0] = W9 at *
            exact bodyPost_ret (v := .agg #[.int .i64 3, .int .i64 0, .string S, .int .i64 0, .int .i64 0, .int .i64 0]) (by simp [results, Try.results79, go_sem, Q4]) rfl ⟨rfl, XX⟩
      · have hn1i : ¬ (1 : Int) < n := by omega
        have hgb : gBits D = bl D k := by rw [HGB.out, if_neg (fun h => hn1 h.1)]
        obtain ⟨a2, c2, rfl⟩ := owns_slice HO.out
        have hr := RB.of_own hown2 (HBB.out k) (V := Any) (fun _ h => h.elim)
        have hcv := hr.conv (P := Try.prog) 25 9 5 Try.underlying25 Try.underlying5 Try.underlying9
        rw [← hgb, HSS.out] at hcv
        have hx2 : ¬ ((q : Int) < 8 * n) := by omega
        clear hr hown2 hgb hn1 hm1 hq hnq
        · go_wp2_with fail
          change bodyPost Try.prog Try.f79 _ Exit.ret _ (put (wr.setCell ⟨w.heap.size + 1, 2, none⟩ (.string S)) w.heap.size 0 [.int .i64 3, .int .i64 0, .string S, .int .i64 0, .int .i64 0, .int .i64 0])
          have C4 := B4.setOther (B' := w.heap.size + 1) (by omega) 2 (.string S)
          have X9 : Ext w (wr.setCell ⟨w.heap.size + 1, 2, none⟩ (.string S)) := X0.setCell (Nat.le_succ _) _
          have Q4 := (put_all (vs := [.int .i64 3, .int .i64 0, .string S, .int .i64 0, .int .i64 0, .int .i64 0]) C4 rfl).cell
          have XX := put_ext (a := w) (Nat.le_refl _) [.int .i64 3, .int .i64 0, .string S, .int .i64 0, .int .i64 0, .int .i64 0] 0 _ X9
          generalize put (wr.setCell ⟨w.heap.size + 1, 2, none⟩ (.string S)) w.heap.size 0 [.int .i64 3, .int .i64 0, .string S, .int .i64 0, .int .i64 0, .int .i64 0] = W9 at *
          exact bodyPost_ret (v := .agg #[.int .i64 3, .int .i64 0, .string S, .int .i64 0, .int .i64 0, .int .i64 0]) (by simp [results, Try.results79, go_sem, Q4]) rfl ⟨rfl, XX⟩

set_option maxRecDepth 100000 in
set_option maxHeartbeats 16000000 in
theorem guessR_5 {V : Nat → Prop} (D : List Int) (v : Value) (w : World) (h : RB V w v D) : Calls Try.prog 79 #[.int .i64 5, v] w (RetVal w (guessV 5 D)) := by
  obtain ⟨a, c, rfl, _, hcm⟩ := h.form
  by_cases hl : D.length = 8
  · have hg : guessV 5 D = ⟨5, 0, noStr, joinU (D.take 4), joinU ((D.drop 4).take 3), D.getD 7 0⟩ := by
      unfold guessV
      rw [if_neg (by omega), if_neg (by omega), if_neg (by omega), if_neg (by omega), if_pos rfl, if_pos hl]
    obtain ⟨b, off, c', hv, hcap, _⟩ := h.cellD (k := 7) (by omega)
    simp only [Value.slice.injEq] at hv
    obtain ⟨rfl, -, rfl⟩ := hv
    rw [hl] at hcap
    have hcm2 := hcm
    unfold maxLen at hcm2
    have e7 : IntKind.i64.wrap (joinU ((D.drop 7).take 1)) = D.getD 7 0 := by
      have hb := getD_byt h.byt 7
      match D, hl with
      | [x0, x1, x2, x3, x4, x5, x6, x7], _ =>
        show IntKind.i64.wrap (0 * 256 + x7) = x7
        rw [show 0 * 256 + x7 = x7 by omega]
        have hb' : 0 ≤ x7 ∧ x7 ≤ 255 := hb
        exact IntWalk.i64_in _ (by omega)
    have u4 := joinU_56 (D := D.take 4) (h.byt.take 4) (by simp; omega)
    have u3 := joinU_56 (D := (D.drop 4).take 3) ((h.byt.drop 4).take 3) (by simp; omega)
    have HJ1 := Lib.hid (fun w1 (he : Ext w w1) => numberR_any (D.take 4) (.slice (some ⟨b, off, none⟩) 4 c) w1 (by
      have h5 := h.cut 0 4 (c + 1) c (by omega) (by omega) (by omega) hcm
      unfold cutA at h5
      rw [if_neg (by omega)] at h5
      exact h5.ext he) (by simp; omega))
    have HJ2 := Lib.hid (fun w1 (he : Ext w w1) => numberR_any ((D.drop 4).take 3) (.slice (cutA b off c 4) 3 (c - 4)) w1 ((h.cut 4 3 c (c - 4) (by omega) (by omega) (by omega) (by omega)).ext he) (by simp; omega))
    have HJ3 := Lib.hid (fun w1 (he : Ext w w1) => numberR_any ((D.drop 7).take 1) (.slice (cutA b off c 7) 1 (c - 7)) w1 ((h.cut 7 1 c (c - 7) (by omega) (by omega) (by omega) (by omega)).ext he) (by simp; omega))
    rw [IntWalk.i64_in _ (by omega)] at HJ1 HJ2
    rw [e7] at HJ3
    rw [hg]
    rw [hl] at *
    clear h hg hl e7 u4 u3
    generalize joinU (D.take 4) = j1 at *
    generalize joinU ((D.drop 4).take 3) = j2 at *
    generalize D.getD 7 0 = d7 at *
    have c4 : 4 ≤ c := by omega
    have c7 : 7 ≤ c := by omega
    go_enter Try.func79, Try.ntmps79
    go_upto_region 2 with fail
    have B4 := (Bk.new w #[.int .i64 0, .int .i64 0, .string ⟨#[]⟩, .int .i64 0, .int .i64 0, .int .i64 0] 54 w.heap.size rfl).alloc (.cells #[.int .i64 5, .int .i64 0, .string ⟨#[]⟩, .int .i64 0, .int .i64 0, .int .i64 0] 54)
    have B5 := Bk.new (w.alloc (.cells #[.int .i64 0, .int .i64 0, .string ⟨#[]⟩, .int .i64 0, .int .i64 0, .int .i64 0] 54)) #[.int .i64 5, .int .i64 0, .string ⟨#[]⟩, .int .i64 0, .int .i64 0, .int .i64 0] 54 (w.heap.size + 1) (by simp)
    have X0 : Ext w ((w.alloc (.cells #[.int .i64 0, .int .i64 0, .string ⟨#[]⟩, .int .i64 0, .int .i64 0, .int .i64 0] 54)).alloc (.cells #[.int .i64 5, .int .i64 0, .string ⟨#[]⟩, .int .i64 0, .int .i64 0, .int .i64 0] 54)) := ((Ext.refl w).alloc _).alloc _
    generalize (w.alloc (.cells #[.int .i64 0, .int .i64 0, .string ⟨#[]⟩, .int .i64 0, .int .i64 0, .int .i64 0] 54)).alloc (.cells #[.int .i64 5, .int .i64 0, .string ⟨#[]⟩, .int .i64 0, .int .i64 0, .int .i64 0] 54) = W at *
    have q5 : ∀ j, W.cell? ⟨w.heap.size + 1, j, none⟩ = (#[.int .i64 5, .int .i64 0, .string ⟨#[]⟩, .int .i64 0, .int .i64 0, .int .i64 0] : Array Value)[j]? := B5.cell
    have f5 := fun j => B5.frozen j
    go_upto_region 24 with fail
    have HX0 := Lib.hid X0
    have HJ1' := Lib.hid (HJ1.out _ X0.drew)
    have HJ2' := Lib.hid (HJ2.out _ X0.drew)
    have HJ3' := Lib.hid (HJ3.out _ X0.drew)
    go_region_held3 (fun w' => True)
      (first | trivial | fail)
      (first
        | (go_at_call 90; (with_reducible refine HJ1'.out.mono ?_); rintro e y1 ⟨rfl, rfl⟩)
        | (go_at_call 90; (with_reducible refine HJ2'.out.mono ?_); rintro e y2 ⟨rfl, rfl⟩)
        | (go_at_call 90; (with_reducible refine HJ3'.out.mono ?_); rintro e y3 ⟨rfl, rfl⟩)
        | fail)
    have C5 : Bk ((((W.setCell ⟨w.heap.size + 1, 3, none⟩ (.int .i64 j1)).setCell ⟨w.heap.size + 1, 4, none⟩ (.int .i64 j2)).setCell ⟨w.heap.size + 1, 5, none⟩ (.int .i64 d7)).drew) (w.heap.size + 1) 54 #[.int .i64 5, .int .i64 0, .string ⟨#[]⟩, .int .i64 j1, .int .i64 j2, .int .i64 d7] := (((B5.setCell 3 _).setCell 4 _).setCell 5 _).drew
    have C4 : Bk ((((W.setCell ⟨w.heap.size + 1, 3, none⟩ (.int .i64 j1)).setCell ⟨w.heap.size + 1, 4, none⟩ (.int .i64 j2)).setCell ⟨w.heap.size + 1, 5, none⟩ (.int .i64 d7)).drew) w.heap.size 54 #[.int .i64 0, .int .i64 0, .string ⟨#[]⟩, .int .i64 0, .int .i64 0, .int .i64 0] := (((B4.setOther (B' := w.heap.size + 1) (by omega) 3 _).setOther (B' := w.heap.size + 1) (by omega) 4 _).setOther (B' := w.heap.size + 1) (by omega) 5 _).drew
    have X1 : Ext w ((((W.setCell ⟨w.heap.size + 1, 3, none⟩ (.int .i64 j1)).setCell ⟨w.heap.size + 1, 4, none⟩ (.int .i64 j2)).setCell ⟨w.heap.size + 1, 5, none⟩ (.int .i64 d7)).drew) := (((X0.setCell (Nat.le_succ _) _).setCell (Nat.le_succ _) _).setCell (Nat.le_succ _) _).drew
    generalize (((W.setCell ⟨w.heap.size + 1, 3, none⟩ (.int .i64 j1)).setCell ⟨w.heap.size + 1, 4, none⟩ (.int .i64 j2)).setCell ⟨w.heap.size + 1, 5, none⟩ (.int .i64 d7)).drew = W1 at *
    clear q5 f5 B4 B5 X0
    have z5 : ∀ j, W1.cell? ⟨w.heap.size + 1, j, none⟩ = (#[.int .i64 5, .int .i64 0, .string ⟨#[]⟩, .int .i64 j1, .int .i64 j2, .int .i64 d7] : Array Value)[j]? := C5.cell
    have z4 : ∀ j, W1.cell? ⟨w.heap.size, j, none⟩ = (#[.int .i64 0, .int .i64 0, .string ⟨#[]⟩, .int .i64 0, .int .i64 0, .int .i64 0] : Array Value)[j]? := C4.cell
    have g4 := fun j => C4.frozen j
    go_wp2_with fail
    change bodyPost Try.prog Try.f79 _ Exit.ret _ (put W1 w.heap.size 0 [.int .i64 5, .int .i64 0, .string ⟨#[]⟩, .int .i64 j1, .int .i64 j2, .int .i64 d7])
    have Q4 := (put_all (vs := [.int .i64 5, .int .i64 0, .string ⟨#[]⟩, .int .i64 j1, .int .i64 j2, .int .i64 d7]) C4 rfl).cell
    have XX := put_ext (a := w) (Nat.le_refl _) [.int .i64 5, .int .i64 0, .string ⟨#[]⟩, .int .i64 j1, .int .i64 j2, .int .i64 d7] 0 W1 X1
    generalize put W1 w.heap.size 0 [.int .i64 5, .int .i64 0, .string ⟨#[]⟩, .int .i64 j1, .int .i64 j2, .int .i64 d7] = W9 at *
    exact bodyPost_ret (v := .agg #[.int .i64 5, .int .i64 0, .string ⟨#[]⟩, .int .i64 j1, .int .i64 j2, .int .i64 d7]) (by simp [results, Try.results79, go_sem, Q4]) rfl ⟨rfl, XX⟩
  · have hg : guessV 5 D = ⟨5, 0, noStr, 0, 0, 0⟩ := by
      unfold guessV
      rw [if_neg (by omega), if_neg (by omega), if_neg (by omega), if_neg (by omega), if_pos rfl, if_neg hl]
    have hlb : ((D.length : Int) == 8) = false := by simp only [beq_eq_false_iff_ne, ne_eq]; omega
    rw [hg]
    clear h hg hl
    generalize D.length = n at *
    go_enter Try.func79, Try.ntmps79
    go_upto_region 2 with fail
    have B4 := (Bk.new w #[.int .i64 0, .int .i64 0, .string ⟨#[]⟩, .int .i64 0, .int .i64 0, .int .i64 0] 54 w.heap.size rfl).alloc (.cells #[.int .i64 5, .int .i64 0, .string ⟨#[]⟩, .int .i64 0, .int .i64 0, .int .i64 0] 54)
    have B5 := Bk.new (w.alloc (.cells #[.int .i64 0, .int .i64 0, .string ⟨#[]⟩, .int .i64 0, .int .i64 0, .int .i64 0] 54)) #[.int .i64 5, .int .i64 0, .string ⟨#[]⟩, .int .i64 0, .int .i64 0, .int .i64 0] 54 (w.heap.size + 1) (by simp)
    have X0 : Ext w ((w.alloc (.cells #[.int .i64 0, .int .i64 0, .string ⟨#[]⟩, .int .i64 0, .int .i64 0, .int .i64 0] 54)).alloc (.cells #[.int .i64 5, .int .i64 0, .string ⟨#[]⟩, .int .i64 0, .int .i64 0, .int .i64 0] 54)) := ((Ext.refl w).alloc _).alloc _
    generalize (w.alloc (.cells #[.int .i64 0, .int .i64 0, .string ⟨#[]⟩, .int .i64 0, .int .i64 0, .int .i64 0] 54)).alloc (.cells #[.int .i64 5, .int .i64 0, .string ⟨#[]⟩, .int .i64 0, .int .i64 0, .int .i64 0] 54) = W at *
    have q5 : ∀ j, W.cell? ⟨w.heap.size + 1, j, none⟩ = (#[.int .i64 5, .int .i64 0, .string ⟨#[]⟩, .int .i64 0, .int .i64 0, .int .i64 0] : Array Value)[j]? := B5.cell
    have f5 := fun j => B5.frozen j
    go_upto_region 25 with fail
    have z5 : ∀ j, W.cell? ⟨w.heap.size + 1, j, none⟩ = (#[.int .i64 5, .int .i64 0, .string ⟨#[]⟩, .int .i64 0, .int .i64 0, .int .i64 0] : Array Value)[j]? := B5.cell
    have z4 : ∀ j, W.cell? ⟨w.heap.size, j, none⟩ = (#[.int .i64 0, .int .i64 0, .string ⟨#[]⟩, .int .i64 0, .int .i64 0, .int .i64 0] : Array Value)[j]? := B4.cell
    have g4 := fun j => B4.frozen j
    go_wp2_with fail
    change bodyPost Try.prog Try.f79 _ Exit.ret _ (put W w.heap.size 0 [.int .i64 5, .int .i64 0, .string ⟨#[]⟩, .int .i64 0, .int .i64 0, .int .i64 0])
    have Q4 := (put_all (vs := [.int .i64 5, .int .i64 0, .string ⟨#[]⟩, .int .i64 0, .int .i64 0, .int .i64 0]) B4 rfl).cell
    have XX := put_ext (a := w) (Nat.le_refl _) [.int .i64 5, .int .i64 0, .string ⟨#[]⟩, .int .i64 0, .int .i64 0, .int .i64 0] 0 W X0
    generalize put W w.heap.size 0 [.int .i64 5, .int .i64 0, .string ⟨#[]⟩, .int .i64 0, .int .i64 0, .int .i64 0] = W9 at *
    exact bodyPost_ret (v := .agg #[.int .i64 5, .int .i64 0, .string ⟨#[]⟩, .int .i64 0, .int .i64 0, .int .i64 0]) (by simp [results, Try.results79, go_sem, Q4]) rfl ⟨rfl, XX⟩

theorem guessR_any {V : Nat → Prop} (k : Int) (hk : 1 ≤ k ∧ k ≤ 5) (D : List Int) (v : Value) (w : World) (h : RB V w v D) (hl : D.length ≤ 140737488355328) : Calls Try.prog 79 #[.int .i64 k, v] w (RetVal w (guessV k D)) := by
  obtain h1 | h1 | h1 | h1 | h1 : k = 1 ∨ k = 2 ∨ k = 3 ∨ k = 4 ∨ k = 5 := by omega
  · subst h1; exact guessR_1 D v w h
  · subst h1; exact guessR_2 D v w h
  · subst h1; exact guessR_3 D v w h hl
  · subst h1; exact guessR_4 D v w h
  · subst h1; exact guessR_5 D v w h
end Go.Proofs.Ytjaofbfppnmdjaa

namespace Go.Proofs.Ytjaofbfppnmdjaa
open Go.RowKit
attribute [local go_sem ↓] Go.wp_at_zero Go.wp_at_succ

/-- No value. -/
def zeroV : Val := ⟨0, 0, noStr, 0, 0, 0⟩
/-- What Means gives. -/
def RetMe (w : World) (r : Option Val) (e : Ending) (w' : World) : Prop := e = .returned (.tuple #[valA (r.getD zeroV), .bool r.isSome]) ∧ Ext w w'
set_option maxRecDepth 100000 in
set_option maxHeartbeats 16000000 in
theorem meansR_any {V : Nat → Prop} (t : Int) (ht : kindT t ≠ 0) (D : List Int) (v : Value) (w : World) (h : RB V w v D) (hl : D.length ≤ 140737488355328) : Calls Try.prog 57 #[.int .i64 (kindT t), v] w (RetMe w (readV t D)) := by
  have hk15 : 1 ≤ kindT t ∧ kindT t ≤ 5 := by
    revert ht
    unfold kindT
    repeat' split
    all_goals omega
  have HGU := Lib.hid (fun w1 (he : Ext w w1) => guessR_any (kindT t) hk15 D v w1 (h.ext he) hl)
  have HME := Lib.hid (means_iff h.byt ht)
  have HBY := Lib.hid h.byt
  have HCV := Lib.hid (fun w1 (he : Ext w w1) => h.ext he)
  obtain ⟨a, c, rfl, _, _⟩ := h.form
  have HCK := Lib.hid (fun w1 => checkVR_any (guessV (kindT t) D) w1)
  have HDA := Lib.hid (fun w1 hc => dataR_any (guessV (kindT t) D) w1 hc)
  clear h
  generalize hgv : guessV (kindT t) D = g at *
  clear hgv
  generalize kindT t = k at *
  by_cases hc : chk g = 0
  · have HDA1 := Lib.hid (fun w1 => HDA.out w1 hc)
    rw [hc] at HCK
    have HM := Lib.hid HME.out
    have hdq : datV g = D ∨ datV g ≠ D := by
      by_cases hd : datV g = D
      · exact .inl hd
      · exact .inr hd
    rcases hdq with hd | hd
    · have hr := HME.out.1 ⟨hc, hd⟩
      rw [hr]
      rw [hd] at HDA1
      generalize tagV g = tg at *
      have hcc := Lib.hid hc
      clear hr hd hc HDA HM HME
      obtain ⟨gk, gn, gs, ga, gb, gc⟩ := g
      generalize hn : D.length = n at *
      have HN := Lib.hid hn
      clear hn
      try simp only at *
      go_enter Try.func57, Try.ntmps57
      go_upto_region 1 with fail
      have B0 := Bk.new w #[.int .i64 0, .int .i64 0, .string ⟨#[]⟩, .int .i64 0, .int .i64 0, .int .i64 0] 54 w.heap.size rfl
      have X0 : Ext w (w.alloc (.cells #[.int .i64 0, .int .i64 0, .string ⟨#[]⟩, .int .i64 0, .int .i64 0, .int .i64 0] 54)) := (Ext.refl w).alloc _
      generalize w.alloc (.cells #[.int .i64 0, .int .i64 0, .string ⟨#[]⟩, .int .i64 0, .int .i64 0, .int .i64 0] 54) = W at *
      go_wp2_with fail
      refine (HGU.out W X0).mono ?_
      rintro e w1 ⟨rfl, x1⟩
      go_upto_region 2 with fail
      have B1 := (B0.ext x1).alloc (.cells #[.int .i64 gk, .int .i64 gn, .string gs, .int .i64 ga, .int .i64 gb, .int .i64 gc] 54)
      have C1 := Bk.new w1 #[.int .i64 gk, .int .i64 gn, .string gs, .int .i64 ga, .int .i64 gb, .int .i64 gc] 54 w1.heap.size rfl
      have X1 : Ext w (w1.alloc (.cells #[.int .i64 gk, .int .i64 gn, .string gs, .int .i64 ga, .int .i64 gb, .int .i64 gc] 54)) := (X0.trans x1).alloc _
      have hlt : w.heap.size < w1.heap.size := (B0.ext x1).lt
      generalize w1.alloc (.cells #[.int .i64 gk, .int .i64 gn, .string gs, .int .i64 ga, .int .i64 gb, .int .i64 gc] 54) = W1 at *
      generalize w1.heap.size = X at *
      have q1 : ∀ j, W1.cell? ⟨X, j, none⟩ = (#[.int .i64 gk, .int .i64 gn, .string gs, .int .i64 ga, .int .i64 gb, .int .i64 gc] : Array Value)[j]? := C1.cell
      clear B0 X0 x1
      go_wp2_with fail
      refine (HCK.out W1).mono ?_
      rintro e w2 ⟨rfl, x2⟩
      have B2 := B1.ext x2
      have C2 := C1.ext x2
      have X2 := X1.trans x2
      have q2 : ∀ j, w2.cell? ⟨X, j, none⟩ = (#[.int .i64 gk, .int .i64 gn, .string gs, .int .i64 ga, .int .i64 gb, .int .i64 gc] : Array Value)[j]? := C2.cell
      clear q1 B1 C1 X1 x2
      go_wp2_with fail
      refine (HDA1.out w2).mono ?_
      rintro e w3 ⟨a3, c3, he3, x3, r3⟩
      rw [HN.out] at he3 r3
      subst he3
      have B3 := B2.ext x3
      have C3 := C2.ext x3
      have X3 := X2.trans x3
      have q3 : ∀ j, w3.cell? ⟨X, j, none⟩ = (#[.int .i64 gk, .int .i64 gn, .string gs, .int .i64 ga, .int .i64 gb, .int .i64 gc] : Array Value)[j]? := C3.cell
      have z3 : ∀ j, w3.cell? ⟨w.heap.size, j, none⟩ = (#[.int .i64 0, .int .i64 0, .string ⟨#[]⟩, .int .i64 0, .int .i64 0, .int .i64 0] : Array Value)[j]? := B3.cell
      have g3 := fun j => B3.frozen j
      clear q2 B2 C2 X2 x3
      have R3 := r3 Any (fun _ h => h.elim)
      have hc1 := R3.conv (P := Try.prog) 25 9 5 Try.underlying25 Try.underlying5 Try.underlying9
      have hc2 := (HCV.out w3 X3).conv (P := Try.prog) 25 9 5 Try.underlying25 Try.underlying5 Try.underlying9
      generalize strOfNums D = S at *
      have hss : (S.toList != S.toList) = false := by simp
      clear r3 R3
      go_wp2_with fail
      change bodyPost Try.prog Try.f57 _ Exit.ret _ (put w3 w.heap.size 0 [.int .i64 gk, .int .i64 gn, .string gs, .int .i64 ga, .int .i64 gb, .int .i64 gc])
      have Q4 := (put_all (vs := [.int .i64 gk, .int .i64 gn, .string gs, .int .i64 ga, .int .i64 gb, .int .i64 gc]) B3 rfl).cell
      have XX := put_ext (a := w) (Nat.le_refl _) [.int .i64 gk, .int .i64 gn, .string gs, .int .i64 ga, .int .i64 gb, .int .i64 gc] 0 w3 X3
      generalize put w3 w.heap.size 0 [.int .i64 gk, .int .i64 gn, .string gs, .int .i64 ga, .int .i64 gb, .int .i64 gc] = W9 at *
      exact bodyPost_ret (v := .tuple #[.agg #[.int .i64 gk, .int .i64 gn, .string gs, .int .i64 ga, .int .i64 gb, .int .i64 gc], .bool true]) (by simp [results, Try.results57, go_sem, Q4]) rfl ⟨rfl, XX⟩
    · have hr := HME.out.2 (fun h => hd h.2)
      rw [hr]
      generalize tagV g = tg at *
      generalize datV g = DG at *
      have HD := Lib.hid hd
      clear hr hd hc HDA HM HME
      obtain ⟨gk, gn, gs, ga, gb, gc⟩ := g
      generalize hn : D.length = n at *
      try simp only at *
      go_enter Try.func57, Try.ntmps57
      go_upto_region 1 with fail
      have B0 := Bk.new w #[.int .i64 0, .int .i64 0, .string ⟨#[]⟩, .int .i64 0, .int .i64 0, .int .i64 0] 54 w.heap.size rfl
      have X0 : Ext w (w.alloc (.cells #[.int .i64 0, .int .i64 0, .string ⟨#[]⟩, .int .i64 0, .int .i64 0, .int .i64 0] 54)) := (Ext.refl w).alloc _
      generalize w.alloc (.cells #[.int .i64 0, .int .i64 0, .string ⟨#[]⟩, .int .i64 0, .int .i64 0, .int .i64 0] 54) = W at *
      go_wp2_with fail
      refine (HGU.out W X0).mono ?_
      rintro e w1 ⟨rfl, x1⟩
      go_upto_region 2 with fail
      have B1 := (B0.ext x1).alloc (.cells #[.int .i64 gk, .int .i64 gn, .string gs, .int .i64 ga, .int .i64 gb, .int .i64 gc] 54)
      have C1 := Bk.new w1 #[.int .i64 gk, .int .i64 gn, .string gs, .int .i64 ga, .int .i64 gb, .int .i64 gc] 54 w1.heap.size rfl
      have X1 : Ext w (w1.alloc (.cells #[.int .i64 gk, .int .i64 gn, .string gs, .int .i64 ga, .int .i64 gb, .int .i64 gc] 54)) := (X0.trans x1).alloc _
      have hlt : w.heap.size < w1.heap.size := (B0.ext x1).lt
      generalize w1.alloc (.cells #[.int .i64 gk, .int .i64 gn, .string gs, .int .i64 ga, .int .i64 gb, .int .i64 gc] 54) = W1 at *
      generalize w1.heap.size = X at *
      have q1 : ∀ j, W1.cell? ⟨X, j, none⟩ = (#[.int .i64 gk, .int .i64 gn, .string gs, .int .i64 ga, .int .i64 gb, .int .i64 gc] : Array Value)[j]? := C1.cell
      clear B0 X0 x1
      go_wp2_with fail
      refine (HCK.out W1).mono ?_
      rintro e w2 ⟨rfl, x2⟩
      have B2 := B1.ext x2
      have C2 := C1.ext x2
      have X2 := X1.trans x2
      have q2 : ∀ j, w2.cell? ⟨X, j, none⟩ = (#[.int .i64 gk, .int .i64 gn, .string gs, .int .i64 ga, .int .i64 gb, .int .i64 gc] : Array Value)[j]? := C2.cell
      clear q1 B1 C1 X1 x2
      go_wp2_with fail
      refine (HDA1.out w2).mono ?_
      rintro e w3 ⟨a3, c3, he3, x3, r3⟩

      subst he3
      have B3 := B2.ext x3
      have C3 := C2.ext x3
      have X3 := X2.trans x3
      have q3 : ∀ j, w3.cell? ⟨X, j, none⟩ = (#[.int .i64 gk, .int .i64 gn, .string gs, .int .i64 ga, .int .i64 gb, .int .i64 gc] : Array Value)[j]? := C3.cell
      have z3 : ∀ j, w3.cell? ⟨w.heap.size, j, none⟩ = (#[.int .i64 0, .int .i64 0, .string ⟨#[]⟩, .int .i64 0, .int .i64 0, .int .i64 0] : Array Value)[j]? := B3.cell
      have g3 := fun j => B3.frozen j
      clear q2 B2 C2 X2 x3
      have R3 := r3 Any (fun _ h => h.elim)
      have hse : ((strOfNums DG).toList == (strOfNums D).toList) = false := by
        rw [str_eq R3.byt HBY.out, decide_eq_false HD.out]
      have hc1 := R3.conv (P := Try.prog) 25 9 5 Try.underlying25 Try.underlying5 Try.underlying9
      have hc2 := (HCV.out w3 X3).conv (P := Try.prog) 25 9 5 Try.underlying25 Try.underlying5 Try.underlying9
      generalize strOfNums DG = S1 at *
      generalize strOfNums D = S2 at *
      generalize DG.length = dg at *
      clear r3 R3 hn
      go_wp2_with fail
      change bodyPost Try.prog Try.f57 _ Exit.ret _ (put w3 w.heap.size 0 [.int .i64 0, .int .i64 0, .string ⟨#[]⟩, .int .i64 0, .int .i64 0, .int .i64 0])
      have Q4 := (put_all (vs := [.int .i64 0, .int .i64 0, .string ⟨#[]⟩, .int .i64 0, .int .i64 0, .int .i64 0]) B3 rfl).cell
      have XX := put_ext (a := w) (Nat.le_refl _) [.int .i64 0, .int .i64 0, .string ⟨#[]⟩, .int .i64 0, .int .i64 0, .int .i64 0] 0 w3 X3
      generalize put w3 w.heap.size 0 [.int .i64 0, .int .i64 0, .string ⟨#[]⟩, .int .i64 0, .int .i64 0, .int .i64 0] = W9 at *
      exact bodyPost_ret (v := .tuple #[.agg #[.int .i64 0, .int .i64 0, .string ⟨#[]⟩, .int .i64 0, .int .i64 0, .int .i64 0], .bool false]) (by simp [results, Try.results57, go_sem, Q4]) rfl ⟨rfl, XX⟩
  · have hr := HME.out.2 (fun h => hc h.1)
    rw [hr]
    obtain ⟨ce, hce⟩ : ∃ ce, chk g = ce := ⟨_, rfl⟩
    rw [hce] at HCK
    have hcb : (ce != 0) = true := by rw [← hce]; simpa using hc
    clear hr hc HDA HME hce
    obtain ⟨gk, gn, gs, ga, gb, gc⟩ := g
    generalize D.length = n at *
    try simp only at *
    go_enter Try.func57, Try.ntmps57
    go_upto_region 1 with fail
    have B0 := Bk.new w #[.int .i64 0, .int .i64 0, .string ⟨#[]⟩, .int .i64 0, .int .i64 0, .int .i64 0] 54 w.heap.size rfl
    have X0 : Ext w (w.alloc (.cells #[.int .i64 0, .int .i64 0, .string ⟨#[]⟩, .int .i64 0, .int .i64 0, .int .i64 0] 54)) := (Ext.refl w).alloc _
    generalize w.alloc (.cells #[.int .i64 0, .int .i64 0, .string ⟨#[]⟩, .int .i64 0, .int .i64 0, .int .i64 0] 54) = W at *
    go_wp2_with fail
    refine (HGU.out W X0).mono ?_
    rintro e w1 ⟨rfl, x1⟩
    go_upto_region 2 with fail
    have B1 := (B0.ext x1).alloc (.cells #[.int .i64 gk, .int .i64 gn, .string gs, .int .i64 ga, .int .i64 gb, .int .i64 gc] 54)
    have C1 := Bk.new w1 #[.int .i64 gk, .int .i64 gn, .string gs, .int .i64 ga, .int .i64 gb, .int .i64 gc] 54 w1.heap.size rfl
    have X1 : Ext w (w1.alloc (.cells #[.int .i64 gk, .int .i64 gn, .string gs, .int .i64 ga, .int .i64 gb, .int .i64 gc] 54)) := (X0.trans x1).alloc _
    have hlt : w.heap.size < w1.heap.size := (B0.ext x1).lt
    generalize w1.alloc (.cells #[.int .i64 gk, .int .i64 gn, .string gs, .int .i64 ga, .int .i64 gb, .int .i64 gc] 54) = W1 at *
    generalize w1.heap.size = X at *
    have q1 : ∀ j, W1.cell? ⟨X, j, none⟩ = (#[.int .i64 gk, .int .i64 gn, .string gs, .int .i64 ga, .int .i64 gb, .int .i64 gc] : Array Value)[j]? := C1.cell
    clear B0 X0 x1
    go_wp2_with fail
    refine (HCK.out W1).mono ?_
    rintro e w2 ⟨rfl, x2⟩
    have B2 := B1.ext x2
    have C2 := C1.ext x2
    have X2 := X1.trans x2
    have q2 : ∀ j, w2.cell? ⟨X, j, none⟩ = (#[.int .i64 gk, .int .i64 gn, .string gs, .int .i64 ga, .int .i64 gb, .int .i64 gc] : Array Value)[j]? := C2.cell
    clear q1 B1 C1 X1 x2
    have z3 : ∀ j, w2.cell? ⟨w.heap.size, j, none⟩ = (#[.int .i64 0, .int .i64 0, .string ⟨#[]⟩, .int .i64 0, .int .i64 0, .int .i64 0] : Array Value)[j]? := B2.cell
    have g3 := fun j => B2.frozen j
    go_wp2_with fail
    change bodyPost Try.prog Try.f57 _ Exit.ret _ (put w2 w.heap.size 0 [.int .i64 0, .int .i64 0, .string ⟨#[]⟩, .int .i64 0, .int .i64 0, .int .i64 0])
    have Q4 := (put_all (vs := [.int .i64 0, .int .i64 0, .string ⟨#[]⟩, .int .i64 0, .int .i64 0, .int .i64 0]) B2 rfl).cell
    have XX := put_ext (a := w) (Nat.le_refl _) [.int .i64 0, .int .i64 0, .string ⟨#[]⟩, .int .i64 0, .int .i64 0, .int .i64 0] 0 w2 X2
    generalize put w2 w.heap.size 0 [.int .i64 0, .int .i64 0, .string ⟨#[]⟩, .int .i64 0, .int .i64 0, .int .i64 0] = W9 at *
    exact bodyPost_ret (v := .tuple #[.agg #[.int .i64 0, .int .i64 0, .string ⟨#[]⟩, .int .i64 0, .int .i64 0, .int .i64 0], .bool false]) (by simp [results, Try.results57, go_sem, Q4]) rfl ⟨rfl, XX⟩
theorem info_rval' : (Try.prog.info? 54).map (fun i => (i.zero, i.size, i.bytes)) = some (some (.agg #[.int .i64 0, .int .i64 0, .string ⟨#[]⟩, .int .i64 0, .int .i64 0, .int .i64 0]), 6, 56) := by kernel_rfl
set_option maxRecDepth 100000 in
set_option maxHeartbeats 8000000 in
theorem valuesR_any {α : Type} (R : Rk α) {V : Nat → Prop} (l : List (NodeOf α)) (v : Value) (w : World) (h : (nodesRk R).rk V w v l) (hl : l.length ≤ 1000000) (hd : ∀ x ∈ l, x.2.1.length ≤ 140737488355328) : Calls Try.prog 35 #[v] w (RetVE w (valsV l) (valsE l)) := by
  obtain ⟨i0, hi0, hz0, hz1, hz2⟩ := info_parts info_rval'
  obtain ⟨a, c, rfl, hc1, hc2⟩ := (nodesRk R).form h
  have HG : Hid (∀ w', Ext w w' → ∀ k x, l[k]? = some x → ∃ b off c' da dc ka kc, (Value.slice a l.length c) = .slice (some ⟨b, off, none⟩) l.length c' ∧ w'.cell? ⟨b, off + k * 3, none⟩ = some (.int .i64 x.1) ∧
      w'.cell? ⟨b, off + k * 3 + 1, none⟩ = some (.slice da x.2.1.length dc) ∧ w'.cell? ⟨b, off + k * 3 + 2, none⟩ = some (.slice ka x.2.2.length kc) ∧ RB V w' (.slice da x.2.1.length dc) x.2.1) := fun w' he k x hx => by
    obtain ⟨hk, rfl⟩ := List.getElem?_eq_some_iff.1 hx
    obtain ⟨b, off, c', da, dc, ka, kc, hv, _, _, g0, g1, g2, hd, _⟩ := node_at ((nodesRk R).ext h he) hk
    exact ⟨b, off, c', da, dc, ka, kc, hv, g0, g1, g2, hd⟩
  have HDL : Hid (∀ (k : Nat) (x : NodeOf α), l[k]? = some x → x.2.1.length ≤ 140737488355328) := fun k x hx => hd x (List.mem_of_getElem? hx)
  have HER : Hid (∀ (k : Nat) x w' er, l[k]? = some x → fstErr ((l.take k).map errV) = 0 → errV x = er → er ≠ 0 → Ext w w' → RetVE w (valsV l) (valsE l) (.returned (.tuple #[.slice none 0 0, .int .i64 er])) w') := fun k x w' er hx h0 he hne hw => by
    have := valsE_bad l k x hx h0 (by rw [he]; exact hne)
    rw [this.1, this.2, he]
    exact RetVE.nil _ hw
  have HOK : Hid (∀ w' a' c', fstErr (l.map errV) = 0 → Ext w w' → w'.ownsRow w.heap.size 54 6 (.slice a' l.length c') l.length ((valsOf l).flatMap valE) → RetVE w (valsV l) (valsE l) (.returned (.tuple #[.slice a' l.length c', .int .i64 0])) w') := fun w' a' c' h0 he ho => by
    have hv := valsV_len l h0
    unfold valsV
    rw [show valsE l = 0 from h0, if_pos rfl]
    refine ⟨a', c', by rw [hv], he, fun V hV => ?_⟩
    rw [hv]
    refine RF.of_own (base := w.heap.size) (e := 54) valE_len ?_ hV
    rw [hv]; exact ho
  have HTS : Hid (∀ k x, l[k]? = some x → fstErr ((l.take k).map errV) = 0 → fstErr ((l.take (k + 1)).map errV) = errV x) := fun k x hx h0 => by
    obtain ⟨hk, rfl⟩ := List.getElem?_eq_some_iff.1 hx
    exact fstErr_take_succ errV l k hk h0
  obtain ⟨n, hn⟩ : ∃ n, l.length = n := ⟨_, rfl⟩
  have HN := Lib.hid hn
  rw [hn] at hc1 hl HOK HG ⊢
  clear h hc2 hn hd
  go_enter Try.func35, Try.ntmps35
  go_wp2_with fail
  go_loopw [4, 5] (fun o i wr => ∃ (k : Nat), k ≤ n ∧ i = .int .i64 k ∧ wr.ownsRow w.heap.size 54 6 o k ((valsOf (l.take k)).flatMap valE) ∧ fstErr ((l.take k).map errV) = 0 ∧ Ext w wr) (fun _ i _ => n - (intOf i).toNat)
  case atStart => exact ⟨0, by omega, rfl, World.ownsRow_nil _ _ _ _, rfl, Ext.refl _⟩
  case round =>
    obtain ⟨k, hk, rfl, hown, hok, hx⟩ := hrel
    by_cases hlt : k < n
    · obtain ⟨x, hxv⟩ : ∃ x, l[k]? = some x := ⟨_, List.getElem?_eq_getElem (by rw [HN.out]; exact hlt)⟩
      obtain ⟨b, off, c', da, dc, ka, kc, hv, g0, g1, g2, hrb⟩ := HG.out wr hx k x hxv
      simp only [Value.slice.injEq] at hv
      obtain ⟨rfl, -, rfl⟩ := hv
      have hki : (k : Int) < n := by omega
      have HX := Lib.hid hx
      have HO := Lib.hid hown
      have HE := Lib.hid (fun w' er he hne hw => HER.out k x w' er hxv hok he hne hw)
      have HTK := Lib.hid (fun v hr => valsOf_snoc l k x v hxv hr)
      have HOKN : Hid (errV x = 0 → fstErr ((l.take (k + 1)).map errV) = 0) := fun h => by
        rw [HTS.out k x hxv hok]
        exact h
      have HKT := Lib.hid (fun w1 => kindR_any x.1 w1)
      have HRD := Lib.hid (fun hkt w1 (he : Ext wr w1) => meansR_any x.1 hkt x.2.1 _ w1 (hrb.ext he) (HDL.out k x hxv))
      have herr : errV x = if kindT x.1 = 0 ∨ 0 < x.2.2.length then 15 else if readV x.1 x.2.1 = none then 16 else 0 := rfl
      generalize hdl : x.2.1.length = dl at *
      generalize hkl : x.2.2.length = kl at *
      clear hown hok hxv hx HER hrb hdl hkl
      obtain ⟨xs, hxs⟩ : ∃ xs, (valsOf (l.take k)).flatMap valE = xs := ⟨_, rfl⟩
      rw [hxs] at HO
      have HXS := Lib.hid hxs
      clear hxs
      obtain ⟨t, D, ks⟩ := x
      simp only at *
      by_cases hkt : kindT t = 0
      · rw [if_pos (.inl hkt)] at herr
        have HF := Lib.hid (fun w' hw => HE.out w' 15 herr (by omega) hw)
        rw [hkt] at HKT
        clear herr HRD
        go_wp2_with fail
        refine (HKT.out _).mono ?_
        rintro e w2 ⟨rfl, rfl⟩
        go_wp2_with fail
        go_ret2
        exact HF.out _ HX.out
      · have HRM := Lib.hid (HRD.out hkt)
        have hktb : (kindT t == 0) = false := by simpa using hkt
        have HKZ := Lib.hid hkt
        by_cases hk0 : 0 < kl
        · rw [if_pos (.inr hk0)] at herr
          have HF := Lib.hid (fun w' hw => HE.out w' 15 herr (by omega) hw)
          have hki2 : (0 : Int) < kl := by omega
          generalize kindT t = kt at *
          clear herr HRD hkt
          go_wp2_with fail
          refine (HKT.out _).mono ?_
          rintro e w2 ⟨rfl, rfl⟩
          go_wp2_with fail
          go_ret2
          exact HF.out _ HX.out
        · rw [if_neg (by omega)] at herr
          have hki2 : ¬ (0 : Int) < kl := by omega
          cases hrv : readV t D with
          | none =>
            rw [if_pos hrv] at herr
            have HF := Lib.hid (fun w' hw => HE.out w' 16 herr (by omega) hw)
            rw [hrv] at HRM
            have HRN : Hid (∀ w1, Ext wr w1 → Calls Try.prog 57 #[.int .i64 (kindT t), .slice da dl dc] w1 fun e w' => e = .returned (.tuple #[.agg #[.int .i64 0, .int .i64 0, .string ⟨#[]⟩, .int .i64 0, .int .i64 0, .int .i64 0], .bool false]) ∧ Ext w1 w') := HRM
            generalize kindT t = kt at *
            clear herr hrv HRD HRM hkt
            go_wp2_with fail
            refine (HKT.out _).mono ?_
            rintro e w2 ⟨rfl, rfl⟩
            go_wp2_with fail
            refine (HRN.out _ (Ext.refl _)).mono ?_
            rintro e w3 ⟨rfl, x3⟩
            go_wp2_with fail
            go_ret2
            exact HF.out _ ((HX.out.trans x3).alloc _)
          | some y =>
            rw [if_neg (by rw [hrv]; simp)] at herr
            rw [hrv] at HRM
            have HTY := Lib.hid (HTK.out y hrv)
            have HON := Lib.hid (HOKN.out herr)
            clear herr hrv HTK HOKN HRD
            obtain ⟨vk, vn, vs, va, vb, vc⟩ := y
            have HRN : Hid (∀ w1, Ext wr w1 → Calls Try.prog 57 #[.int .i64 (kindT t), .slice da dl dc] w1 fun e w' => e = .returned (.tuple #[.agg #[.int .i64 vk, .int .i64 vn, .string vs, .int .i64 va, .int .i64 vb, .int .i64 vc], .bool true]) ∧ Ext w1 w') := HRM
            generalize kindT t = kt at *
            clear HRM hkt
            go_wp2_with fail
            refine (HKT.out _).mono ?_
            rintro e w2 ⟨rfl, rfl⟩
            go_wp2_with fail
            refine (HRN.out _ (Ext.refl _)).mono ?_
            rintro e w3 ⟨rfl, x3⟩
            have E4 : Ext wr (w3.alloc (.cells #[.int .i64 vk, .int .i64 vn, .string vs, .int .i64 va, .int .i64 vb, .int .i64 vc] 54)) := x3.alloc _
            go_wp2_with (at_builtin; refine wpList_append_src _ rfl (.tmp 44) (.tmp 46) _ rfl w.heap.size 54 i0 _ 6 56 Try.underlying30 hi0 hz0 hz1 hz2 rfl (by omega) u4 k xs rfl ((own_ext HO.out E4).alloc _) _ 1 1 [.int .i64 vk, .int .i64 vn, .string vs, .int .i64 va, .int .i64 vb, .int .i64 vc] rfl (Src.litB _ #[.int .i64 vk, .int .i64 vn, .string vs, .int .i64 va, .int .i64 vb, .int .i64 vc] _ 6 _ (by simp) rfl (by simp [Value.oneCell'])) (by unfold maxLen; omega) (by omega) ((HX.out.trans E4).alloc _).size ?_; intro A6 c6 w6 hown6 hg6 hat6)
            have hx6 : Ext w w6 := ((HX.out.trans E4).alloc _).grown hg6 (fun g hg => (HO.out.lt g hg).1)
            have HO6 := Lib.hid hown6
            clear hown6 hg6 hat6 E4
            go_wp2_with fail
            go_roundw
            case rel => exact ⟨k + 1, by omega, by go_num, by rw [HTY.out, List.flatMap_append, HXS.out]; exact HO6.out, HON.out, hx6⟩
            case measure => simp [intOf]; omega
    · have hki : ¬ (k : Int) < n := by omega
      have hl2 := take_all l k (by rw [HN.out]; omega)
      rw [hl2] at hown hok
      obtain rfl : k = n := by omega
      obtain ⟨a', c', rfl⟩ := owns_slice hown
      have HF := Lib.hid (HOK.out wr a' c' hok hx hown)
      clear hown hok hx
      go_wp2_with fail
      go_ret2
      exact HF.out
set_option maxHeartbeats 2000000 in
theorem decDR_any (bs : List Int) (v : Value) (w : World) (h : RB Any w v bs) : Calls Try.prog 33 #[v] w (RetVE w (decDV bs) (decDE bs)) := by
  have HD := Lib.hid (decodeR_any 7 bs v w (by omega) h)
  have hc1 := decTop_cnt 7 bs
  have hl : ((decTop 7 bs).1 : List (NodeOf (Nd 6))).length ≤ 1000000 := by
    exact Nat.le_trans (Nat.le_trans (Nat.le_add_right _ _) hc1) (by omega)
  have hdl : ∀ x : NodeOf (Nd 6), x ∈ ((decTop 7 bs).1 : List (NodeOf (Nd 6))) → x.2.1.length ≤ 140737488355328 := fun x hx => by
    have h1 := sum_mem_le (fun x : NodeOf (Nd 6) => x.2.1.length + cntN 6 x.2.2) (decTop 7 bs).1 x hx
    have h2 : ((decTop 7 bs).1.map (fun x : NodeOf (Nd 6) => x.2.1.length + cntN 6 x.2.2)).sum ≤ cntN 7 (decTop 7 bs).1 := Nat.le_add_left _ _
    have h3 : x.2.1.length ≤ x.2.1.length + cntN 6 x.2.2 := Nat.le_add_right _ _
    exact Nat.le_trans h3 (Nat.le_trans h1 (Nat.le_trans h2 (Nat.le_trans hc1 (by omega))))
  have HV := Lib.hid (fun w1 v1 (h1 : (nodesRk (RkN 6)).rk Any w1 v1 (decTop 7 bs).1) => valuesR_any (RkN 6) (decTop 7 bs).1 v1 w1 h1 hl hdl)
  have e1 : decDV bs = if (decTop 7 bs).2 = 0 then valsV (α := Nd 6) (decTop 7 bs).1 else [] := rfl
  have e2 : decDE bs = if (decTop 7 bs).2 = 0 then valsE (α := Nd 6) (decTop 7 bs).1 else (decTop 7 bs).2 := rfl
  rw [e1, e2]
  obtain ⟨a, c, rfl, _, _⟩ := h.form
  clear h e1 e2 hl hdl hc1
  generalize decTop 7 bs = z at *
  obtain ⟨l, er⟩ := z
  simp only at *
  by_cases her : er = 0
  · subst her
    rw [if_pos rfl, if_pos rfl]
    generalize valsV (α := Nd 6) l = L at *
    generalize valsE (α := Nd 6) l = E at *
    generalize bs.length = n at *
    go_enter Try.func33, Try.ntmps33
    go_wp2_with fail
    refine HD.out.mono ?_
    rintro e w1 ⟨a1, c1, rfl, x1, r1⟩
    have HV1 := Lib.hid (HV.out w1 _ (r1 Any (fun _ h => h.elim)))
    clear r1 HV HD
    generalize l.length = m at *
    go_wp2_with fail
    refine HV1.out.mono ?_
    rintro e w2 ⟨a2, c2, rfl, x2, r2⟩
    go_wp2_with fail
    go_ret2
    exact ⟨a2, c2, rfl, x1.trans x2, fun V hV => r2 V (fun k hk => x1.lt (hV k hk))⟩
  · rw [if_neg her, if_neg her]
    have her2 : (er != 0) = true := by simpa using her
    clear HV her
    generalize bs.length = n at *
    go_enter Try.func33, Try.ntmps33
    go_wp2_with fail
    refine HD.out.mono ?_
    rintro e w1 ⟨a1, c1, rfl, x1, r1⟩
    clear r1
    generalize l.length = m at *
    go_wp2_with fail
    go_ret2
    exact RetVE.nil _ x1
end Go.Proofs.Ytjaofbfppnmdjaa

namespace Go.Proofs.Ytjaofbfppnmdjaa
open Go.RowKit
attribute [local go_sem ↓] Go.wp_at_zero Go.wp_at_succ

theorem decDV_len (bs : List Int) : (decDV bs).length ≤ 1000000 := by
  unfold decDV
  split
  · unfold valsV
    split
    · rename_i h1
      rw [valsV_len _ h1]
      exact Nat.le_trans (Nat.le_trans (Nat.le_add_right _ _) (decTop_cnt 7 bs)) (by omega)
    · simp
  · simp
theorem valsV_le {α : Type} (l : List (NodeOf α)) : (valsV l).length ≤ l.length := by
  unfold valsV
  split
  · rename_i h
    rw [valsV_len l h]
    exact Nat.le_refl _
  · simp
set_option maxRecDepth 100000 in
set_option maxHeartbeats 16000000 in
theorem ddecodes_walk (M : Nat) (bs : List Int) (l : List (Nd (M + 1))) (v0 v : Value) (w : World) (hb : RB Any w v0 bs) (hl : (RkN (M + 1)).rk Any w v l) (hc : fineN (M + 1) l) : Calls Try.prog 7 #[v0, v] w fun e w' => e = .returned (.bool true) ∧ Ext w w' := by
  have HK := Lib.hid (known11_any w)
  have HDP := Lib.hid (fun w1 (he : Ext w w1) => decDP_any bs v0 w1 (hb.ext he))
  have HDR := Lib.hid (fun w1 (he : Ext w w1) => decDR_any bs v0 w1 (hb.ext he))
  have HDE := Lib.hid (fun w1 (he : Ext w w1) => deep_any (M + 1) Any l 12 v w1 ((RkN (M + 1)).ext hl he) (by omega) (by omega))
  have HTO := Lib.hid (fun w1 (he : Ext w w1) => to_fine (M + 1) Any l v w1 ((RkN (M + 1)).ext hl he) (fun k h => h.elim) hc)
  have hdl : ∀ x : NodeOf (Nd M), x ∈ (l : List (NodeOf (Nd M))) → x.2.1.length ≤ 140737488355328 := fun x hx => ((show fineS (fineN M) l from hc).2 x hx).1
  have HAX := Lib.hid (fun w1 u (h : RF Any 6 valE w1 u (decDV bs)) => all11_any (decDV bs) u w1 h (decDV_len bs))
  have HSX := Lib.hid (fun w1 va vb (h : RF Any 6 valE w1 va (decDV bs)) (h' : RF Any 6 valE w1 vb (decDV bs)) => sameVR_any (decDV bs) (decDV bs) va vb w1 h h')
  rw [decide_eq_true rfl] at HSX
  have HVR := Lib.hid (fun (hlen : l.length ≤ 60) w1 u (h1 : (nodesRk (RkN M)).rk Any w1 u l) => valuesR_any (RkN M) l u w1 h1 (Nat.le_trans hlen (by omega)) hdl)
  have HVP := Lib.hid (fun (hlen : l.length ≤ 60) w1 (he : Ext w w1) => valuesP_any (RkN M) l v w1 (show (nodesRk (RkN M)).rk Any w1 v l from (RkN (M + 1)).ext hl he) (Nat.le_trans hlen (by omega)))
  have HAV := Lib.hid (fun (hlen : l.length ≤ 60) w1 u (h : RF Any 6 valE w1 u (valsV (α := Nd M) l)) => all11_any (valsV (α := Nd M) l) u w1 h (Nat.le_trans (valsV_le (α := Nd M) l) (Nat.le_trans hlen (by omega))))
  have HSV := Lib.hid (fun w1 va vb (h : RF Any 6 valE w1 va (valsV (α := Nd M) l)) (h' : RF Any 6 valE w1 vb (valsV (α := Nd M) l)) => sameVR_any (valsV (α := Nd M) l) (valsV (α := Nd M) l) va vb w1 h h')
  rw [decide_eq_true rfl] at HSV
  obtain ⟨ja, jc, rfl, _, _⟩ := hb.form
  obtain ⟨ka, kc, rfl, _, _⟩ := (RkN (M + 1)).form hl
  have HTQ : Hid (∀ w1, Ext w w1 → Calls Try.prog 23 #[.slice ka l.length kc] w1 fun e w' => ∃ a c, e = .returned (.slice a l.length c) ∧ Ext w1 w' ∧ (nodesRk (RkN M)).rk Any w' (.slice a l.length c) l) := fun w1 he =>
    (HTO.out w1 he).mono fun e w' ⟨a, c, h1, h2, h3⟩ => ⟨a, c, h1, h2, (RkN (M + 1)).weak h3 (fun _ _ h => h.elim)⟩
  clear hb hl hc hdl HTO
  obtain ⟨nn, hnn⟩ : ∃ nn, l.length = nn := ⟨_, rfl⟩
  have HN := Lib.hid hnn
  rw [hnn] at HDE HTQ HVP ⊢
  generalize hbl : bs.length = nb at *
  clear hnn hbl
  cases hdp : deepN (M + 1) l 12
  · rw [hdp] at HDE
    by_cases hle : nn ≤ 60
    · have hlen : l.length ≤ 60 := by rw [HN.out]; exact hle
      have HVR1 := Lib.hid (HVR.out hlen)
      have HVP1 := Lib.hid (HVP.out hle)
      have HAV1 := Lib.hid (HAV.out hlen)
      have hei : ¬ (60 : Int) < nn := by omega
      have heb : decide ((60 : Int) < nn) = false := decide_eq_false hei
      clear hdp hlen HVR HVP HAV
      generalize valsV (α := Nd M) l = VL at *
      generalize valsE (α := Nd M) l = VE at *
      generalize decDV bs = DL at *
      generalize decDE bs = DE at *
      obtain ⟨vn, hvn⟩ : ∃ vn, VL.length = vn := ⟨_, rfl⟩
      have HVN := Lib.hid hvn
      obtain ⟨dn, hdn⟩ : ∃ dn, DL.length = dn := ⟨_, rfl⟩
      have HDN := Lib.hid hdn
      clear hvn hdn
      have hE1 : (DE == DE) = true := by simp
      have hE2 : (VE == VE) = true := by simp
      go_enter Try.func7, Try.ntmps7
      go_wp2_with fail
      refine HK.out.mono ?_
      rintro e w1 ⟨rfl, X1⟩
      go_wp2_with fail
      refine (HDE.out _ X1).mono ?_
      rintro e w2 ⟨rfl, x2⟩
      have X2 := X1.trans x2
      clear x2 X1
      go_wp2_with fail
      refine (HDP.out _ X2).mono ?_
      rintro e w3 ⟨a3, c3, he3, x3, r3⟩
      rw [HDN.out] at he3 r3
      subst he3
      have R3 := Lib.hid (r3 Any (fun _ h => h.elim))
      have X3 := X2.trans x3
      clear r3 x3 X2
      go_wp2_with fail
      refine (HDR.out _ X3).mono ?_
      rintro e w4 ⟨a4, c4, he4, x4, r4⟩
      rw [HDN.out] at he4 r4
      subst he4
      have R4 := Lib.hid (And.intro (R3.out.ext x4) (r4 Any (fun _ h => h.elim)))
      have X4 := X3.trans x4
      clear r4 x4 X3 R3
      go_wp2_with fail
      refine (HVP1.out _ X4).mono ?_
      rintro e w5 ⟨a5, c5, he5, x5, r5⟩
      rw [HVN.out] at he5 r5
      subst he5
      have R5 := Lib.hid (And.intro (And.intro (R4.out.1.ext x5) (R4.out.2.ext x5)) (r5 Any (fun _ h => h.elim)))
      have X5 := X4.trans x5
      clear r5 x5 X4 R4
      go_wp2_with fail
      refine (HTQ.out _ X5).mono ?_
      rintro e w6 ⟨a6, c6, he6, x6, r6⟩
      subst he6
      have HV6 := Lib.hid (HVR1.out _ _ r6)
      have R6 := Lib.hid (And.intro (And.intro (R5.out.1.1.ext x6) (R5.out.1.2.ext x6)) (R5.out.2.ext x6))
      have X6 := X5.trans x6
      clear r6 x6 X5 R5
      go_wp2_with fail
      refine HV6.out.mono ?_
      rintro e w7 ⟨a7, c7, he7, x7, r7⟩
      rw [HVN.out] at he7 r7
      subst he7
      have R7 := Lib.hid (And.intro (And.intro (R6.out.1.1.ext x7) (R6.out.1.2.ext x7)) (And.intro (R6.out.2.ext x7) (r7 Any (fun _ h => h.elim))))
      have X7 := X6.trans x7
      have HA7 := Lib.hid (HAX.out _ _ R7.out.1.1)
      clear r7 x7 X6 R6 HV6
      go_wp2_with fail
      refine HA7.out.mono ?_
      rintro e w8 ⟨a8, c8, he8, x8, r8⟩
      rw [HDN.out] at he8 r8
      subst he8
      have HS8 := Lib.hid (HSX.out _ _ _ (r8.weak (by omega) (V' := Any) (fun _ _ h => h.elim)) (R7.out.1.2.ext x8))
      have R8 := Lib.hid (And.intro (R7.out.2.1.ext x8) (R7.out.2.2.ext x8))
      have X8 := X7.trans x8
      clear r8 x8 X7 R7 HA7
      go_wp2_with fail
      refine HS8.out.mono ?_
      rintro e w9 ⟨rfl, x9⟩
      have HA9 := Lib.hid (HAV1.out _ _ (R8.out.1.ext x9))
      have R9 := Lib.hid (R8.out.2.ext x9)
      have X9 := X8.trans x9
      clear x9 X8 R8 HS8
      go_wp2_with fail
      refine HA9.out.mono ?_
      rintro e w10 ⟨a10, c10, he10, x10, r10⟩
      rw [HVN.out] at he10 r10
      subst he10
      have HS10 := Lib.hid (HSV.out _ _ _ (r10.weak (by omega) (V' := Any) (fun _ _ h => h.elim)) (R9.out.ext x10))
      have X10 := X9.trans x10
      clear r10 x10 X9 R9 HA9
      go_wp2_with fail
      refine HS10.out.mono ?_
      rintro e w11 ⟨rfl, x11⟩
      go_wp2_with fail
      go_ret
      exact ⟨rfl, X10.trans x11⟩
    · have hei : (60 : Int) < nn := by omega
      clear HVR HVP HAV HSX HSV HAX HTQ HDP HDR hdp
      go_enter Try.func7, Try.ntmps7
      go_wp2_with fail
      refine HK.out.mono ?_
      rintro e w1 ⟨rfl, X1⟩
      go_wp2_with fail
      refine (HDE.out _ X1).mono ?_
      rintro e w2 ⟨rfl, x2⟩
      go_wp2_with fail
      go_ret
      exact ⟨rfl, X1.trans x2⟩
  · rw [hdp] at HDE
    clear HVR HVP HAV HSX HSV HAX HTQ HDP HDR hdp
    go_enter Try.func7, Try.ntmps7
    go_wp2_with fail
    refine HK.out.mono ?_
    rintro e w1 ⟨rfl, X1⟩
    go_wp2_with fail
    refine (HDE.out _ X1).mono ?_
    rintro e w2 ⟨rfl, x2⟩
    go_wp2_with fail
    go_ret
    exact ⟨rfl, X1.trans x2⟩
end Go.Proofs.Ytjaofbfppnmdjaa
