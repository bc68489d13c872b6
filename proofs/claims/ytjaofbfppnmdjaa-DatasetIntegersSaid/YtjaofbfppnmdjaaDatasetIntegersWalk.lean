/- The walk of the statement DatasetIntegers. -/
import Derived.Test.YtjaofbfppnmdjaaDatD
import Derived.Test.YtjaofbfppnmdjaaIntP
namespace Go.Proofs.Ytjaofbfppnmdjaa
open Go.RowKit
attribute [local go_sem ↓] Go.wp_at_zero Go.wp_at_succ

theorem chk_int (n : Int) : chk ⟨2, n, ⟨#[]⟩, 0, 0, 0⟩ = 0 := by
  unfold chk noS noT
  simp [ByteArray.toList_eq]
set_option maxRecDepth 100000 in
set_option maxHeartbeats 8000000 in
theorem integers_walk (n : Int) (w : World) (h0 : -9223372036854775808 ≤ n) (h1 : n ≤ 9223372036854775807) : Calls Try.prog 4 #[.int .i64 n] w fun e w' => e = .returned (.bool true) ∧ Ext w w' := by
  have HK := Lib.hid (known11_any w)
  have HN := Lib.hid (fun w1 => nodesP_any 0 [⟨2, n, ⟨#[]⟩, 0, 0, 0⟩] _ _ (RF.single w1 #[.int .i64 2, .int .i64 n, .string ⟨#[]⟩, .int .i64 0, .int .i64 0, .int .i64 0] ⟨2, n, ⟨#[]⟩, 0, 0, 0⟩ _ rfl rfl) (by simp))
  have hv : vErr [⟨2, n, ⟨#[]⟩, 0, 0, 0⟩] = 0 := by simp [vErr, chk_int]
  obtain ⟨k, hk⟩ : ∃ k, k = intLen n := ⟨_, rfl⟩
  have hk1 : 1 ≤ k := by have := intLen_le n; omega
  have hk8 : k ≤ 8 := by have := intLen_le n; omega
  have HFS := Lib.hid (first_sign n h0 h1 k hk hk1)
  have HNN := Lib.hid (next_num n k)
  have HSP := Lib.hid (no_spare n h0 h1 k hk)
  have HSB := Lib.hid (shr_bnd n h0 h1)
  have HD : Hid (nodeV 0 ⟨2, n, ⟨#[]⟩, 0, 0, 0⟩ = ((133, numB n k, []) : NodeOf (Nd 0))) := by show nodeV 0 _ = _; rw [hk]; rfl
  have HV := Lib.hid hv
  clear hk hv
  go_enter Try.func4, Try.ntmps4
  go_wp2_with fail
  refine HK.out.mono ?_
  rintro e w1 ⟨rfl, x1⟩
  go_wp2_with fail
  refine (HN.out _).mono ?_
  rintro e w2 (⟨he, _⟩ | ⟨_, a2, c2, rfl, x2, r2⟩)
  · exact absurd HV.out he
  have X2 : Ext w w2 := (x1.alloc _).trans x2
  simp only [List.map_cons, List.map_nil, HD.out] at r2
  obtain ⟨b, off, c', da, dc, ka, kc, hv, hcap, hbV, g0, g1, g2, hd, hkk⟩ := node_at r2 (i := 0) (by simp)
  simp only [List.length_cons, List.length_nil, Nat.zero_add, Nat.zero_mul, Nat.add_zero, List.getElem_cons_zero, numB_len] at hv g0 g1 g2 hd hkk hcap
  simp only [Value.slice.injEq] at hv
  obtain ⟨rfl, -, rfl⟩ := hv
  have hd' : RB (Old (w1.alloc (.cells #[.int .i64 2, .int .i64 n, .string ⟨#[]⟩, .int .i64 0, .int .i64 0, .int .i64 0] 43))) w2 (.slice da (numB n k).length dc) (numB n k) := by rw [numB_len]; exact hd
  obtain ⟨db, doff, dc', hdv, hdc, hdm, _, hcell⟩ := hd'.at_ (by rw [numB_len]; omega)
  simp only [numB_len, Value.slice.injEq] at hdv hdc
  obtain ⟨rfl, -, rfl⟩ := hdv
  have HC : Hid (∀ j, j < k → w2.cell? ⟨db, doff + j, none⟩ = some (.int .u8 (n / 2 ^ (8 * (k - 1 - j)) % 256))) := fun j hj => by
    rw [hcell j (by rw [numB_len]; exact hj)]
    have := numB_get n k j hj
    rw [List.getElem?_eq_getElem (by rw [numB_len]; exact hj)] at this
    injection this with this
    rw [this]
  clear r2 hd hd' hkk hcell x1 x2 HN HK HV hbV g2 HD
  have b0 := HC.out 0 (by omega)
  simp only [Nat.add_zero, Nat.sub_zero] at b0
  have hki : (0 : Int) < k := by omega
  have hk0 : 0 < k := by omega
  have hkd1 : ¬ (k : Int) < 1 := by omega
  have hkd8 : ¬ (8 : Int) < k := by omega
  obtain ⟨t0, ht0⟩ : ∃ t0, n / 2 ^ (8 * (k - 1)) % 256 = t0 := ⟨_, rfl⟩
  rw [ht0] at HFS HSP b0
  have HT0 := Lib.hid ht0
  have ht01 : 0 ≤ t0 ∧ t0 ≤ 255 := by omega
  clear ht0
  obtain ⟨m0, hm0⟩ : ∃ m0, n / 2 ^ (8 * k) = m0 := ⟨_, rfl⟩
  have HM0 := Lib.hid hm0
  rw [hm0] at HFS
  clear hm0
  have hm : (128 ≤ t0 ∧ m0 = -1) ∨ (¬ 128 ≤ t0 ∧ m0 = 0) := by
    by_cases hs : 128 ≤ t0
    · exact .inl ⟨hs, HFS.out.1 hs⟩
    · exact .inr ⟨hs, HFS.out.2 (by omega)⟩
  clear HFS
  rcases hm with ⟨hs, rfl⟩ | ⟨hs, rfl⟩
  all_goals
    go_wp2_with fail
    go_loop [6, 7] (fun m i => ∃ j : Nat, j ≤ k ∧ i = .int .i64 j ∧ m = .int .i64 (n / 2 ^ (8 * (k - j)))) (fun _ i => k - (intOf i).toNat)
    case atStart => exact ⟨0, by omega, rfl, by rw [Nat.sub_zero, HM0.out]⟩
    case round =>
      obtain ⟨j, hj, rfl, rfl⟩ := hrel
      by_cases hlt : j < k
      · have hji : (j : Int) < k := by omega
        have cj := HC.out j hlt
        have hbd := HSB.out (k - j) (by omega)
        have hnx := HNN.out j hlt
        have hor := or256 (n / 2 ^ (8 * (k - j))) (n / 2 ^ (8 * (k - 1 - j)) % 256) hbd.1 hbd.2 (by omega)
        rw [hnx] at hor
        have hbj : 0 ≤ n / 2 ^ (8 * (k - 1 - j)) % 256 ∧ n / 2 ^ (8 * (k - 1 - j)) % 256 ≤ 255 := by omega
        obtain ⟨hbj1, hbj2⟩ := hbj
        obtain ⟨hbd1, hbd2⟩ := hbd
        generalize n / 2 ^ (8 * (k - j)) = mj at *
        generalize n / 2 ^ (8 * (k - 1 - j)) % 256 = bj at *
        obtain ⟨mn, hmn⟩ : ∃ mn, n / 2 ^ (8 * (k - (j + 1))) = mn := ⟨_, rfl⟩
        have HMN := Lib.hid hmn
        rw [hmn] at hor
        clear hnx hmn
        go_wp2_with fail
        go_round
        case rel => exact ⟨j + 1, by omega, by go_num, by rw [HMN.out]⟩
        case measure => simp [intOf]; omega
      · have hji : ¬ (j : Int) < k := by omega
        obtain rfl : j = k := by omega
        have hz : n / 2 ^ (8 * (j - j)) = n := by simp
        rw [hz]
        clear hz HNN HSB
        by_cases hk2 : 1 < j
        · have hk2i : (1 : Int) < j := by omega
          have b1 := HC.out 1 hk2
          rw [show j - 1 - 1 = j - 2 by omega] at b1
          have hsp := HSP.out hk2
          obtain ⟨t1, ht1⟩ : ∃ t1, n / 2 ^ (8 * (j - 2)) % 256 = t1 := ⟨_, rfl⟩
          rw [ht1] at hsp b1
          have ht11 : 0 ≤ t1 ∧ t1 ≤ 255 := by omega
          obtain ⟨p1, p2⟩ := ht11
          obtain ⟨p3, p4⟩ := ht01
          have hway : (t0 ≠ 0 ∧ t0 ≠ 255) ∨ (t0 = 0 ∧ ¬ t1 < 128) ∨ (t0 = 255 ∧ ¬ 128 ≤ t1) := by
            by_cases h2 : t0 = 0
            · exact .inr (.inl ⟨h2, by have := hsp.1 h2; omega⟩)
            · by_cases h3 : t0 = 255
              · exact .inr (.inr ⟨h3, by have := hsp.2 h3; omega⟩)
              · exact .inl ⟨h2, h3⟩
          clear ht1 hsp HSP HC HT0 HM0
          rcases hway with ⟨h2, h3⟩ | ⟨rfl, h3⟩ | ⟨rfl, h3⟩
          · have e2 : (t0 == 0) = false := by simpa using h2
            have e3 : (t0 == 255) = false := by simpa using h3
            clear h2 h3
            go_wp2_with fail
            go_ret
            exact ⟨rfl, X2⟩
          · have e3 : decide (t1 < 128) = false := by simpa using h3
            go_wp2_with fail
            go_ret
            exact ⟨rfl, X2⟩
          · have e3 : decide (128 ≤ t1) = false := by simpa using h3
            go_wp2_with fail
            go_ret
            exact ⟨rfl, X2⟩
        · have hk2i : ¬ (1 : Int) < j := by omega
          clear HSP HC HT0 HM0
          go_wp2_with fail
          go_ret
          exact ⟨rfl, X2⟩
theorem wf_i64 {n : Int} (h : (Lit.int .i64 n).wf = true) : -9223372036854775808 ≤ n ∧ n ≤ 9223372036854775807 := by
  unfold Lit.wf at h
  rw [Bool.and_eq_true, decide_eq_true_eq, decide_eq_true_eq] at h
  rw [show IntKind.i64.min = -9223372036854775808 by decide +kernel, show IntKind.i64.max = 9223372036854775807 by decide +kernel] at h
  exact h
end Go.Proofs.Ytjaofbfppnmdjaa
