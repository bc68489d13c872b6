/- Contracts of read, Values and Decode: layer 11, the program. -/
import Derived.Test.YtjaofbfppnmdjaaDecX
import Derived.Deep.QuietTactic
import Derived.BigQuiet
namespace Go.Proofs.Ytjaofbfppnmdjaa
open Go.RowKit
attribute [local go_sem ↓] Go.wp_at_zero Go.wp_at_succ

theorem slice_h4 (w : World) (b off len cap : Nat) (h : 4 ≤ cap) : (Instr.slice 25 (.slice (some ⟨b, off, none⟩) len cap) none (some (.int .i64 4)) none).run Try.prog w = .ok (.slice (some ⟨b, off, none⟩) 4 cap) w := slice_h w b off len cap 4 h
theorem slice_47 (w : World) (b off len cap : Nat) (h : 7 ≤ cap) : (Instr.slice 25 (.slice (some ⟨b, off, none⟩) len cap) (some (.int .i64 4)) (some (.int .i64 7)) none).run Try.prog w = .ok (.slice (cutA b off cap 4) 3 (cap - 4)) w := slice_lh w b off len cap 4 3 h
attribute [local go_sem high] slice_h4 slice_47
theorem contRes_of_none {t : Int} {D : List Int} (h : readV t D = none) : contRes t D = .tuple #[.nilIface, .bool false] := by
  unfold contRes; rw [h]
theorem contRes_of_some {t : Int} {D : List Int} {v : Val} (h : readV t D = some v) : contRes t D = .tuple #[contV v, .bool true] := by
  unfold contRes; rw [h]
theorem readV_other {t : Int} {D : List Int} (h1 : t ≠ 131) (h2 : t ≠ 132) (h3 : t ≠ 133) (h4 : t ≠ 138) (h5 : t ≠ 145) : readV t D = none := by
  unfold readV
  rw [if_neg h1, if_neg h2, if_neg h3, if_neg h4, if_neg h5]
theorem knownTag_any (t : Int) (w : World) : Calls Try.prog 54 #[.int .i64 t] w fun e w' => e = .returned (.bool (decide (kindT t ≠ 0))) ∧ w = w' := by
  by_cases h : t = 131 ∨ t = 132 ∨ t = 133 ∨ t = 138 ∨ t = 145
  · rcases h with rfl | rfl | rfl | rfl | rfl
    all_goals
      go_enter Try.func54, Try.ntmps54
      go_wp2_with fail
      go_ret
      exact ⟨rfl, rfl⟩
  · have hk : decide (kindT t ≠ 0) = false := by
      unfold kindT
      rw [if_neg (by omega), if_neg (by omega), if_neg (by omega), if_neg (by omega), if_neg (by omega)]
      rfl
    have e1 : (t == 131) = false := by simp only [beq_eq_false_iff_ne, ne_eq]; omega
    have e2 : (t == 132) = false := by simp only [beq_eq_false_iff_ne, ne_eq]; omega
    have e3 : (t == 133) = false := by simp only [beq_eq_false_iff_ne, ne_eq]; omega
    have e4 : (t == 138) = false := by simp only [beq_eq_false_iff_ne, ne_eq]; omega
    have e5 : (t == 145) = false := by simp only [beq_eq_false_iff_ne, ne_eq]; omega
    rw [hk]
    clear h hk
    go_enter Try.func54, Try.ntmps54
    go_wp2_with fail
    go_ret
    exact ⟨rfl, rfl⟩
theorem joinD_seven {V : Nat → Prop} (D : List Int) (v : Value) (w : World) (h : RB V w v D) (hl : D.length ≤ 7) : Calls Try.prog 78 #[v] w fun e w' => e = .returned (.int .i64 (joinU D)) ∧ w' = w :=
  (joinD_any D v w h (by omega)).mono fun _ _ ⟨he, hw⟩ => by
    have := joinU_56 h.byt hl
    rw [IntWalk.i64_in _ (by omega)] at he
    exact ⟨he, hw.symm⟩
set_option maxRecDepth 100000 in
set_option maxHeartbeats 8000000 in
theorem readD_any {V : Nat → Prop} (t : Int) (D : List Int) (v : Value) (w : World) (h : RB V w v D) : Calls Try.prog 55 #[.int .i64 t, v] w fun e w' => e = .returned (contRes t D) ∧ Ext w w' := by
  have hnm : D.length ≤ maxLen := h.le
  unfold maxLen at hnm
  obtain ⟨a, c, rfl, _, hcm⟩ := h.form
  by_cases h132 : t = 132
  · subst h132
    have HB := Lib.hid (readBits_any D _ w h)
    obtain ⟨r1, r2, hr⟩ : ∃ r1 r2, contRes 132 D = .tuple #[r1, r2] := by unfold contRes; split <;> exact ⟨_, _, rfl⟩
    rw [hr] at HB ⊢
    clear h hr
    generalize D.length = n at *
    go_enter Try.func55, Try.ntmps55
    go_wp2_with fail
    refine HB.out.mono ?_
    rintro e w1 ⟨rfl, x1⟩
    go_wp2_with fail
    go_ret2
    exact ⟨rfl, x1⟩
  by_cases h133 : t = 133
  · subst h133
    have HB := Lib.hid (readWhole_any D _ w h)
    obtain ⟨r1, r2, hr⟩ : ∃ r1 r2, contRes 133 D = .tuple #[r1, r2] := by unfold contRes; split <;> exact ⟨_, _, rfl⟩
    rw [hr] at HB ⊢
    clear h hr
    generalize D.length = n at *
    go_enter Try.func55, Try.ntmps55
    go_wp2_with fail
    refine HB.out.mono ?_
    rintro e w1 ⟨rfl, rfl⟩
    go_wp2_with fail
    go_ret2
    exact ⟨rfl, Ext.refl _⟩
  by_cases h131 : t = 131
  · subst h131
    by_cases hl : D.length = 1
    · obtain ⟨b, off, c', hv, hcap, g0⟩ := h.cellD (k := 0) (by omega)
      simp only [Value.slice.injEq] at hv
      obtain ⟨rfl, -, rfl⟩ := hv
      rw [Nat.add_zero] at g0
      have hd0 := getD_byt h.byt 0
      obtain ⟨d01, d02⟩ := hd0
      by_cases hd : D.getD 0 0 ≤ 1
      · have hr : readV 131 D = some ⟨1, D.getD 0 0, noStr, 0, 0, 0⟩ := by unfold readV; rw [if_pos rfl, if_pos ⟨hl, hd⟩]
        rw [contRes_of_some hr]
        have hc : contV ⟨1, D.getD 0 0, noStr, 0, 0, 0⟩ = .iface 123 (.int .i64 (D.getD 0 0)) := rfl
        rw [hc]
        have e3 : decide (1 < D.getD 0 0) = false := by simpa using hd
        rw [hl] at *
        clear h hr hc hl
        generalize D.getD 0 0 = d0 at *
        go_enter Try.func55, Try.ntmps55
        go_wp2_with fail
        go_ret2
        exact ⟨rfl, Ext.refl _⟩
      · have hr : readV 131 D = none := by unfold readV; rw [if_pos rfl, if_neg (fun h => hd h.2)]
        rw [contRes_of_none hr]
        have e3 : decide (1 < D.getD 0 0) = true := by simp only [decide_eq_true_eq]; omega
        rw [hl] at *
        clear h hr hl
        generalize D.getD 0 0 = d0 at *
        go_enter Try.func55, Try.ntmps55
        go_wp2_with fail
        go_ret2
        exact ⟨rfl, Ext.refl _⟩
    · have hr : readV 131 D = none := by unfold readV; rw [if_pos rfl, if_neg (fun h => hl h.1)]
      rw [contRes_of_none hr]
      have e3 : ((D.length : Int) != 1) = true := by simp only [bne_iff_ne, ne_eq]; omega
      clear h hr hl
      generalize D.length = n at *
      go_enter Try.func55, Try.ntmps55
      go_wp2_with fail
      go_ret2
      exact ⟨rfl, Ext.refl _⟩
  by_cases h138 : t = 138
  · subst h138
    by_cases hl : D.length ≤ 64
    · have hr : readV 138 D = some ⟨4, 0, strOfNums D, 0, 0, 0⟩ := by
        unfold readV
        rw [if_neg h131, if_neg h132, if_neg h133, if_pos rfl, if_pos hl]
      rw [contRes_of_some hr]
      have hc : contV ⟨4, 0, strOfNums D, 0, 0, 0⟩ = .iface 126 (.string (strOfNums D)) := rfl
      rw [hc]
      have hcv := h.conv (P := Try.prog) 25 126 5 Try.underlying25 Try.underlying5 Try.underlying126
      generalize strOfNums D = S at *
      clear h hr hc
      have e3 : ¬ (64 : Int) < D.length := by omega
      generalize D.length = n at *
      go_enter Try.func55, Try.ntmps55
      go_wp2_with fail
      go_ret2
      exact ⟨rfl, Ext.refl _⟩
    · have hr : readV 138 D = none := by
        unfold readV
        rw [if_neg h131, if_neg h132, if_neg h133, if_pos rfl, if_neg hl]
      rw [contRes_of_none hr]
      have e3 : (64 : Int) < D.length := by omega
      clear h hr hl
      generalize D.length = n at *
      go_enter Try.func55, Try.ntmps55
      go_wp2_with fail
      go_ret2
      exact ⟨rfl, Ext.refl _⟩
  by_cases h145 : t = 145
  · subst h145
    by_cases hl : D.length = 8
    · have hr : readV 145 D = some ⟨5, 0, noStr, joinU (D.take 4), joinU ((D.drop 4).take 3), D.getD 7 0⟩ := by
        unfold readV
        rw [if_neg h131, if_neg h132, if_neg h133, if_neg h138, if_pos rfl, if_pos hl]
      rw [contRes_of_some hr]
      have hc : contV ⟨5, 0, noStr, joinU (D.take 4), joinU ((D.drop 4).take 3), D.getD 7 0⟩ = .iface 127 (.agg #[.int .i64 (joinU (D.take 4)), .int .i64 (joinU ((D.drop 4).take 3)), .int .i64 (D.getD 7 0)]) := rfl
      rw [hc]
      obtain ⟨b, off, c', hv, hcap, g7⟩ := h.cellD (k := 7) (by omega)
      simp only [Value.slice.injEq] at hv
      obtain ⟨rfl, -, rfl⟩ := hv
      have hd7 := getD_byt h.byt 7
      obtain ⟨d71, d72⟩ := hd7
      rw [hl] at hcap
      have hcm2 := hcm
      unfold maxLen at hcm2
      have HJ1 := Lib.hid (fun m => joinD_seven (D.take 4) (.slice (some ⟨b, off, none⟩) 4 c) (w.drewN m) (by
        have h5 := h.cut 0 4 (c + 1) c (by omega) (by omega) (by omega) hcm
        unfold cutA at h5
        rw [if_neg (by omega)] at h5
        exact h5.ext ((Ext.refl w).drewN m)) (by simp; omega))
      have HJ2 := Lib.hid (fun m => joinD_seven ((D.drop 4).take 3) (.slice (cutA b off c 4) 3 (c - 4)) (w.drewN m) ((h.cut 4 3 c (c - 4) (by omega) (by omega) (by omega) (by omega)).ext ((Ext.refl w).drewN m)) (by simp; omega))
      rw [hl] at *
      clear h hr hc hl
      generalize joinU (D.take 4) = j1 at *
      generalize joinU ((D.drop 4).take 3) = j2 at *
      generalize D.getD 7 0 = d7 at *
      have c4 : 4 ≤ c := by omega
      have c7 : 7 ≤ c := by omega
      go_enter Try.func55, Try.ntmps55
      go_upto_region 17 with fail
      go_quiet ((first | (with_reducible exact Calls.quiet_of_same (HJ1.out _)) | (with_reducible exact Calls.quiet_of_same (HJ2.out _)) | fail))
      go_wp2_with fail
      go_ret2
      exact ⟨rfl, (Ext.refl w).drewN _⟩
    · have hr : readV 145 D = none := by
        unfold readV
        rw [if_neg h131, if_neg h132, if_neg h133, if_neg h138, if_pos rfl, if_neg hl]
      rw [contRes_of_none hr]
      have e3 : ((D.length : Int) != 8) = true := by simp only [bne_iff_ne, ne_eq]; omega
      clear h hr hl
      generalize D.length = n at *
      go_enter Try.func55, Try.ntmps55
      go_wp2_with fail
      go_ret2
      exact ⟨rfl, Ext.refl _⟩
  · rw [contRes_of_none (readV_other h131 h132 h133 h138 h145)]
    have e1 : (t == 131) = false := by simp only [beq_eq_false_iff_ne, ne_eq]; omega
    have e2 : (t == 132) = false := by simp only [beq_eq_false_iff_ne, ne_eq]; omega
    have e3 : (t == 133) = false := by simp only [beq_eq_false_iff_ne, ne_eq]; omega
    have e4 : (t == 138) = false := by simp only [beq_eq_false_iff_ne, ne_eq]; omega
    have e5 : (t == 145) = false := by simp only [beq_eq_false_iff_ne, ne_eq]; omega
    clear h h131 h132 h133 h138 h145
    generalize D.length = n at *
    go_enter Try.func55, Try.ntmps55
    go_wp2_with fail
    go_ret2
    exact ⟨rfl, Ext.refl _⟩
end Go.Proofs.Ytjaofbfppnmdjaa
