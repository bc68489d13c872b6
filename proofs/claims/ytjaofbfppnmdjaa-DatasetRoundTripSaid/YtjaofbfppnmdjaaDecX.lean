/- The contract of readBits: layer 11, the program. -/
import Derived.Test.YtjaofbfppnmdjaaDecW
namespace Go.Proofs.Ytjaofbfppnmdjaa
open Go.RowKit
attribute [local go_sem ↓] Go.wp_at_zero Go.wp_at_succ

theorem and_bit : ∀ (x : Fin 256) (r : Fin 8), (bits .and .u8 (x.1 : Int) (128 / 2 ^ r.1) != 0) = x.1.testBit (7 - r.1) := by decide +kernel
theorem and_bitAt {D : List Int} (hb : Byt D) (k : Nat) : (bits .and .u8 (D.getD (1 + k / 8) 0) (128 / 2 ^ (k % 8)) != 0) = bitAt D k := by
  have hx := getD_byt hb (1 + k / 8)
  have h := and_bit ⟨(D.getD (1 + k / 8) 0).toNat, by omega⟩ ⟨k % 8, Nat.mod_lt _ (by omega)⟩
  simp only at h
  rw [Int.toNat_of_nonneg hx.1] at h
  exact h
/-- The first m bits as the bytes of a string. -/
def bl (D : List Int) (m : Nat) : List Int := (List.range m).map fun i => if bitAt D i = true then 49 else 48
theorem bl_snoc (D : List Int) (m : Nat) : bl D (m + 1) = bl D m ++ [if bitAt D m = true then 49 else 48] := by
  unfold bl; rw [List.range_succ, List.map_append]; rfl
theorem bl_len (D : List Int) (m : Nat) : (bl D m).length = m := by simp [bl]
theorem bl_byt (D : List Int) (m : Nat) : Byt (bl D m) := fun x hx => by
  simp only [bl, List.mem_map] at hx
  obtain ⟨i, _, rfl⟩ := hx
  split <;> omega
theorem bl_str (D : List Int) : strOfNums (bl D (cntB D)) = strL (bitsOf D) := by
  rw [bytes_eq, Lib.strOfNums_toList, ByteArray.toList_eq]
  unfold bl bitsOf strL Lib.bytesOf
  simp only [List.map_map]
  apply List.map_congr_left
  intro i _
  simp only [Function.comp]
  cases bitAt D i <;> rfl
theorem contRes_bits_no (D : List Int) (h : ¬ bitsOk D) : contRes 132 D = .tuple #[.nilIface, .bool false] := by
  unfold contRes readV
  rw [if_neg (by omega), if_pos rfl, if_neg h]
theorem contRes_bits_yes (D : List Int) (h : bitsOk D) : contRes 132 D = .tuple #[.iface 125 (.string (strL (bitsOf D))), .bool true] := by
  unfold contRes readV
  rw [if_neg (by omega), if_pos rfl, if_pos h]
  rfl
set_option maxRecDepth 100000 in
set_option maxHeartbeats 8000000 in
theorem readBits_any {V : Nat → Prop} (D : List Int) (v : Value) (w : World) (h : RB V w v D) : Calls Try.prog 76 #[v] w fun e w' => e = .returned (contRes 132 D) ∧ Ext w w' := by
  obtain ⟨i0, hi0, hz0, hz1, hz2⟩ := info_parts info_byte
  obtain ⟨a, c, rfl, _, hcm⟩ := h.form
  by_cases hlen : 1 ≤ D.length ∧ D.length ≤ 9
  · obtain ⟨h1, h9⟩ := hlen
    obtain ⟨b, off, c', hv, hcap, g0⟩ := h.cellD (k := 0) h1
    simp only [Value.slice.injEq] at hv
    obtain ⟨rfl, -, rfl⟩ := hv
    rw [Nat.add_zero] at g0
    have hd0 := getD_byt h.byt 0
    have HBY := Lib.hid h.byt
    have HBT := Lib.hid (fun k => and_bitAt h.byt k)
    have HC : Hid (∀ w', Ext w w' → ∀ k, k < D.length → w'.cell? ⟨b, off + k, none⟩ = some (.int .u8 (D.getD k 0))) := fun w' he k hk => by
      obtain ⟨b', off', c'', hv, _, g⟩ := (h.ext he).cellD hk
      simp only [Value.slice.injEq, Option.some.injEq, Addr.mk.injEq, and_true] at hv
      obtain ⟨⟨rfl, rfl⟩, -⟩ := hv
      exact g
    have hbok : bitsOk D ↔ (1 ≤ D.length ∧ D.length ≤ 9 ∧ D.getD 0 0 ≤ 7 ∧ (D.getD 0 0).toNat ≤ 8 * (D.length - 1) ∧ ∀ k, cntB D ≤ k → k < 8 * (D.length - 1) → bitAt D k = false) := Iff.rfl
    have hcn : cntB D = 8 * (D.length - 1) - (D.getD 0 0).toNat := rfl
    have HBOK := Lib.hid hbok
    have HST := Lib.hid (bl_str D)
    have HBS := Lib.hid (bl_snoc D)
    have HBB := Lib.hid (bl_byt D)
    have HBN := Lib.hid (bl_len D)
    have HNO := Lib.hid (contRes_bits_no D)
    have HYES := Lib.hid (contRes_bits_yes D)
    clear hbok h
    generalize D.getD 0 0 = d0 at *
    generalize hn : D.length = n at *
    have e1 : ¬ (n : Int) < 1 := by omega
    have e2 : ¬ (9 : Int) < n := by omega
    have hi1 : (0 : Int) < n := by omega
    obtain ⟨d01, d02⟩ := hd0
    by_cases h7 : d0 ≤ 7
    · obtain ⟨T, hT⟩ : ∃ T, T = 8 * (n - 1) := ⟨_, rfl⟩
      rw [← hT] at hcn HBOK
      have hTi : 8 * ((n : Int) - 1) = (T : Int) := by omega
      have hT64 : T ≤ 64 := by omega
      have HTN := Lib.hid hT
      have e3 : decide ((7 : Int) < d0) = false := by simpa using h7
      clear hT
      by_cases hneg : (T : Int) - d0 < 0
      · rw [HNO.out (fun hb => by have := (HBOK.out.1 hb).2.2.2.1; omega)]
        clear hcn hn
        go_enter Try.func76, Try.ntmps76
        go_wp2_with fail
        go_ret2
        exact ⟨rfl, Ext.refl _⟩
      · obtain ⟨cn, hcn2⟩ : ∃ cn, cn = cntB D := ⟨_, rfl⟩
        rw [← hcn2] at hcn HBOK HST
        have hci : (T : Int) - d0 = (cn : Int) := by omega
        have hc64 : cn ≤ T := by omega
        have HCN := Lib.hid hcn
        have h7b := Lib.hid h7
        have HDT : Hid (d0.toNat ≤ T) := by have : d0.toNat ≤ T := by omega
                                            exact this
        clear hcn hcn2 hn h7
        have hneg2 : ¬ (cn : Int) < 0 := by omega
        go_enter Try.func76, Try.ntmps76
        go_wp2_with (at_make; refine wpList_make_own _ rfl _ _ 25 rfl w.heap.size 5 i0 _ 1 Try.underlying25 hi0 hz0 hz1 _ _ _ cn rfl rfl (by omega) (by rw [hz2]; omega) (by unfold maxLen; omega) (Nat.le_refl _) ?_; intro w2 hown2 hg2; have he2 := (Ext.refl w).trans (ext_of_grown hg2))
        have HO2 := Lib.hid hown2
        have HX2 := Lib.hid he2
        clear hown2 hg2 he2 hTi hci hneg
        go_loopw [5, 39] (fun o i wr => ∃ (k m : Nat), k ≤ T ∧ m = min k cn ∧ i = .int .i64 k ∧ wr.ownsRow w.heap.size 5 1 o m ((bl D m).map (Value.int .u8)) ∧ Ext w wr ∧ (∀ j, cn ≤ j → j < k → bitAt D j = false)) (fun _ i _ => T - (intOf i).toNat)
        case atStart => exact ⟨0, 0, by omega, by omega, rfl, HO2.out, HX2.out, fun j _ h => by omega⟩
        case round =>
          obtain ⟨k, m, hk, hm, rfl, hown, hx, hall⟩ := hrel
          by_cases hlt : k < T
          · have hki : (k : Int) < T := by omega
            have h0 := HTN.out
            have h1' : (k : Int) / 8 < n - 1 := by omega
            have h2 : (0 : Int) ≤ (k : Int) / 8 := by omega
            have h3 : (1 + (k : Int) / 8).toNat = 1 + k / 8 := by omega
            have h4 : ((k : Int) % 8).toNat = k % 8 := by omega
            have h5 : (1 + (k : Int) / 8) < (n : Int) := by omega
            have h6 : (0 : Int) ≤ 1 + (k : Int) / 8 := by omega
            have q0 : wr.cell? ⟨b, off + (1 + k / 8), none⟩ = some (.int .u8 (D.getD (1 + k / 8) 0)) := HC.out wr hx (1 + k / 8) (by omega)
            have e1' : IntKind.i64.wrap ((k : Int) / 8) = (k : Int) / 8 := IntWalk.i64_in _ (by omega)
            have e2' : IntKind.i64.wrap (1 + (k : Int) / 8) = 1 + (k : Int) / 8 := IntWalk.i64_in _ (by omega)
            have e3' : IntKind.i64.wrap ((k : Int) % 8) = (k : Int) % 8 := IntWalk.i64_in _ (by omega)
            have e4' : (k : Int).tmod 8 = (k : Int) % 8 := Int.tmod_eq_emod_of_nonneg (by omega)
            have h7' : (0 : Int) ≤ (k : Int) % 8 := by omega
            have h8' : (k : Int) % 8 ≤ 8 := by omega
            have hbt := HBT.out k
            have HO := Lib.hid hown
            have HX := Lib.hid hx
            have HALL := Lib.hid hall
            have HM := Lib.hid hm
            have hmm : m ≤ 64 := by omega
            clear h0 hown hx hall hm
            generalize D.getD (1 + k / 8) 0 = x at *
            by_cases hkc : k < cn
            · have hge : decide ((cn : Int) ≤ k) = false := by simp only [decide_eq_false_iff_not]; omega
              have hgt : ¬ (cn : Int) ≤ k := by omega
              have hsn := HBS.out m
              have hmk : m = k := by have := HM.out; omega
              cases hbv : bitAt D k
              · rw [hbv] at hbt
                rw [hmk, hbv] at hsn
                rw [← hmk] at hsn
                have HSN := Lib.hid hsn
                clear hsn hbv hmk
                obtain ⟨xs, hxs⟩ : ∃ xs, (bl D m).map (Value.int .u8) = xs := ⟨_, rfl⟩
                have HXS := Lib.hid hxs
                rw [hxs] at HO
                clear hxs
                go_upto_region 10 with fail
                go_quiet (fail)
                clear e1' e2' e3' e4'
                go_wp2_with (at_builtin; refine wpList_append_src _ rfl (.tmp 53) (.tmp 54) _ rfl w.heap.size 5 i0 _ 1 1 Try.underlying25 hi0 hz0 hz1 hz2 rfl (by omega) _ m xs rfl (own_ext HO.out (((Ext.refl wr).drewN _).alloc _)) _ 1 1 [.int .u8 48] rfl (Src.litB _ #[.int .u8 48] 5 1 _ (by simp) rfl (by simp [Value.oneCell'])) (by unfold maxLen; omega) (by omega) ((HX.out.drewN _).alloc _).size ?_; intro A1 c1 w1 hown1 hg1 hat1)
                have hX1 : Ext w w1 := ((HX.out.drewN _).alloc _).grown hg1 (fun g hg => (HO.out.lt g hg).1)
                have HO1 := Lib.hid hown1
                clear hown1 hg1 hat1
                go_wp2_with fail
                go_roundw
                case rel => exact ⟨k + 1, m + 1, by omega, by have := HM.out; omega, by go_num, by rw [HSN.out, List.map_append, HXS.out]; exact HO1.out, hX1, fun j h1 h2 => absurd h2 (by omega)⟩
                case measure => simp [intOf]; omega
              · rw [hbv] at hbt
                rw [hmk, hbv] at hsn
                rw [← hmk] at hsn
                have HSN := Lib.hid hsn
                clear hsn hbv hmk
                obtain ⟨xs, hxs⟩ : ∃ xs, (bl D m).map (Value.int .u8) = xs := ⟨_, rfl⟩
                have HXS := Lib.hid hxs
                rw [hxs] at HO
                clear hxs
                go_upto_region 10 with fail
                go_quiet (fail)
                clear e1' e2' e3' e4'
                go_wp2_with (at_builtin; refine wpList_append_src _ rfl (.tmp 69) (.tmp 70) _ rfl w.heap.size 5 i0 _ 1 1 Try.underlying25 hi0 hz0 hz1 hz2 rfl (by omega) _ m xs rfl (own_ext HO.out (((Ext.refl wr).drewN _).alloc _)) _ 1 1 [.int .u8 49] rfl (Src.litB _ #[.int .u8 49] 5 1 _ (by simp) rfl (by simp [Value.oneCell'])) (by unfold maxLen; omega) (by omega) ((HX.out.drewN _).alloc _).size ?_; intro A1 c1 w1 hown1 hg1 hat1)
                have hX1 : Ext w w1 := ((HX.out.drewN _).alloc _).grown hg1 (fun g hg => (HO.out.lt g hg).1)
                have HO1 := Lib.hid hown1
                clear hown1 hg1 hat1
                go_wp2_with fail
                go_roundw
                case rel => exact ⟨k + 1, m + 1, by omega, by have := HM.out; omega, by go_num, by rw [HSN.out, List.map_append, HXS.out]; exact HO1.out, hX1, fun j h1 h2 => absurd h2 (by omega)⟩
                case measure => simp [intOf]; omega
            · have hge : decide ((cn : Int) ≤ k) = true := by simp only [decide_eq_true_eq]; omega
              have hgt : (cn : Int) ≤ k := by omega
              cases hbv : bitAt D k
              · rw [hbv] at hbt
                have HBV := Lib.hid hbv
                clear hbv
                go_upto_region 10 with fail
                go_quiet (fail)
                clear e1' e2' e3' e4'
                go_wp2_with fail
                go_roundw
                case rel => exact ⟨k + 1, m, by omega, by have := HM.out; omega, by go_num, own_ext HO.out ((Ext.refl wr).drewN _), HX.out.drewN _, fun j h1 h2 => by
                  by_cases hj : j = k
                  · subst hj; exact HBV.out
                  · exact HALL.out j h1 (by omega)⟩
                case measure => simp [intOf]; omega
              · rw [hbv] at hbt
                have HEND := Lib.hid (HNO.out (fun hb => by
                  have := (HBOK.out.1 hb).2.2.2.2 k (by omega) hlt
                  rw [hbv] at this
                  cases this))
                clear hbv
                go_upto_region 10 with fail
                go_quiet (fail)
                clear e1' e2' e3' e4'
                go_wp2_with fail
                go_ret2
                exact ⟨by rw [HEND.out]; rfl, HX.out.drewN _⟩
          · have hki : ¬ (k : Int) < T := by omega
            have hmc : m = cn := by omega
            have HEND := Lib.hid (HYES.out (HBOK.out.2 ⟨h1, h9, h7b.out, HDT.out, fun j h1 h2 => hall j h1 (by omega)⟩))
            subst hmc
            have hown2 : wr.ownsRow w.heap.size 5 1 u5 (bl D m).length ((bl D m).map (Value.int .u8)) := by rw [HBN.out]; exact hown
            obtain ⟨a5, c5, rfl⟩ := owns_slice hown
            have hr := RB.of_own hown2 (HBB.out m) (V := Any) (fun _ h => h.elim)
            have hcv := hr.conv (P := Try.prog) 25 125 5 Try.underlying25 Try.underlying5 Try.underlying125
            rw [HST.out] at hcv
            generalize strL (bitsOf D) = S at *
            clear hown hown2 hr hm hall
            go_wp2_with fail
            go_ret2
            exact ⟨by rw [HEND.out]; rfl, hx⟩
    · have e3 : decide ((7 : Int) < d0) = true := by simp only [decide_eq_true_eq]; omega
      rw [HNO.out (fun hb => h7 (HBOK.out.1 hb).2.2.1)]
      clear hcn hn
      go_enter Try.func76, Try.ntmps76
      go_wp2_with fail
      go_ret2
      exact ⟨rfl, Ext.refl _⟩
  · rw [contRes_bits_no D (fun hb => hlen ⟨hb.1, hb.2.1⟩)]
    have hnm : D.length ≤ maxLen := h.le
    unfold maxLen at hnm
    clear h
    generalize D.length = n at *
    by_cases h1 : (n : Int) < 1
    · go_enter Try.func76, Try.ntmps76
      go_wp2_with fail
      go_ret2
      exact ⟨rfl, Ext.refl _⟩
    · have h8 : (9 : Int) < n := by omega
      go_enter Try.func76, Try.ntmps76
      go_wp2_with fail
      go_ret2
      exact ⟨rfl, Ext.refl _⟩
end Go.Proofs.Ytjaofbfppnmdjaa
