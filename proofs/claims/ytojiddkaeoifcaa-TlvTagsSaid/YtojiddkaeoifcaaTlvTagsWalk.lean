/- The walk of the statement TlvTags: for every number and every byte slice it returns true. -/
import Derived.Test.YtojiddkaeoifcaaTlvG
namespace Go.Proofs.Ytojiddkaeoifcaa
open Go.RowKit
attribute [local go_sem ↓] Go.wp_at_zero Go.wp_at_succ

def oneL (n : Int) (d : List Int) : List (Nd 1) := [((n, d, []) : NodeOf (Nd 0))]
theorem one_chk (n : Int) (d : List Int) (h : nestB n = true → d = []) : chkN 1 (oneL n d) 0 = if tagB n = false then 15 else 0 := by
  show fstErr [errS (chkN 0) 0 (n, d, [])] = _
  have e : errS (chkN 0) 0 (n, d, ([] : List (Nd 0))) = if tagB n = false then 15 else 0 := by
    unfold errS
    split
    · rfl
    · rw [if_neg (by omega), if_neg (by
        rintro (⟨h1, h2⟩ | ⟨h1, h2⟩)
        · rw [h h1] at h2; simp at h2
        · simp at h2)]
      rfl
  rw [e]
  cases tagB n <;> rfl
theorem one_sz (n : Int) (d : List Int) : szN 1 (oneL n d) = 1 + (lenB d.length).length + d.length := by
  show szS (szN 0) [(n, d, [])] = _
  simp [szS, szE, szN]
theorem one_enc (n : Int) (d : List Int) : encN 1 (oneL n d) = (n % 256) :: (lenB d.length ++ d) := by
  show encS (encN 0) [(n, d, [])] = _
  simp [encS, encE, encN]
theorem one_cnt (n : Int) (d : List Int) : cntN 1 (oneL n d) = 1 + d.length := by
  show cntS (cntN 0) [(n, d, [])] = _
  simp [cntS, cntN]
theorem one_good (n : Int) (d : List Int) (h : nestB n = true → d = []) (ht : tagB n = true) (hd : d.length ≤ 200) : encErr 1 (oneL n d) = 0 ∧ encOut 1 (oneL n d) = (n % 256) :: (lenB d.length ++ d) := by
  have h1 : chkN 1 (oneL n d) 0 = 0 := by rw [one_chk n d h, ht]; rfl
  have h2 := one_sz n d
  have h3 := lenB_le d.length
  unfold encErr encOut
  rw [if_pos h1, if_pos (by omega), if_pos h1, if_pos (by omega), one_enc]
  exact ⟨rfl, rfl⟩
theorem one_bad (n : Int) (d : List Int) (h : nestB n = true → d = []) (ht : tagB n = false) : encErr 1 (oneL n d) = 15 ∧ encOut 1 (oneL n d) = [] := by
  have h1 : chkN 1 (oneL n d) 0 = 15 := by rw [one_chk n d h, ht]; rfl
  unfold encErr encOut
  rw [if_neg (by omega), if_neg (by omega), h1]
  exact ⟨rfl, rfl⟩
theorem tagB_range {n : Int} (h : tagB n = true) : 1 ≤ n ∧ n ≤ 254 ∧ (bits .and .i64 n 31 != 31) = true := by
  unfold tagB at h
  simp only [Bool.and_eq_true, decide_eq_true_eq] at h
  exact ⟨h.1.1, h.1.2, h.2⟩
theorem tagB_not {n : Int} (h : tagB n = false) : n < 1 ∨ 254 < n ∨ (1 ≤ n ∧ n ≤ 254 ∧ (bits .and .i64 n 31 != 31) = false) := by
  unfold tagB at h
  simp only [Bool.and_eq_false_iff, decide_eq_false_iff_not] at h
  rcases h with (h | h) | h
  · omega
  · omega
  · by_cases h1 : 1 ≤ n
    · by_cases h2 : n ≤ 254
      · exact .inr (.inr ⟨h1, h2, h⟩)
      · omega
    · omega
theorem one_rk (w : World) (n : Int) (d : List Int) (dv : Value) (h : RB Any w dv d) (B : Nat) (hB : w.heap.size = B) : (RkN 1).rk Any (w.alloc (.cells #[.int .i64 n, dv, .slice none 0 0] 26)) (.slice (some ⟨B, 0, none⟩) 1 1) (oneL n d) :=
  RS.one w _ _ B hB _ rfl ⟨_, _, rfl, h.ext ((Ext.refl _).alloc _), rk_nil 0 _ _⟩ (fun h => h)

set_option maxHeartbeats 4000000 in
theorem tags_walk (n : Int) (d : List Int) (dv : Value) (w : World) (h : RB Any w dv d) : Calls Try.prog 3 #[.int .i64 n, dv] w fun e w' => e = .returned (.bool true) ∧ Ext w w' := by
  have hk := Lib.hid (known10_any w)
  obtain ⟨da, dc, rfl, _, hdm⟩ := h.form
  have hmx : d.length ≤ 9223372036854775807 := by have := h.le; unfold maxLen at this; omega
  by_cases hd : 200 < d.length
  · generalize d.length = dn at *
    have hd2 : (200 : Int) < dn := by omega
    go_enter Try.func3, Try.ntmps3
    go_wp2_with (go_at_call 10; refine hk.out.mono ?_; rintro e w1 ⟨rfl, he1⟩)
    go_ret
    exact ⟨rfl, he1⟩
  have HH := Lib.hid h
  -- the data of the node
  obtain ⟨nb, hnb⟩ : ∃ nb, nestB n = nb := ⟨_, rfl⟩
  obtain ⟨tb, htb⟩ : ∃ tb, tagB n = tb := ⟨_, rfl⟩
  have np := Lib.hid (fun w1 => hnb ▸ nestedP_any n w1)
  have nr := Lib.hid (fun w1 => hnb ▸ nestedR_any n w1)
  have hd2 : ¬ (200 : Int) < d.length := by omega
  cases nb
  · -- primitive
    have HE := Lib.hid (fun (w1 : World) (hw1 : Ext w w1) (B : Nat) (hB : w1.heap.size = B) => encodeP_any 1 Any (oneL n d) _ _ (one_rk w1 n d _ (HH.out.ext hw1) B hB) (by rw [one_cnt]; omega))
    cases tb
    · obtain ⟨h1, h2⟩ := one_bad n d (fun h => by rw [hnb] at h; cases h) htb
      rw [h1, h2] at HE
      have hr := tagB_not htb
      clear h1 h2 hnb htb h HH
      generalize d.length = dn at *
      rcases hr with hr | hr | ⟨hr1, hr2, hr3⟩
      all_goals
        go_enter Try.func3, Try.ntmps3
        go_wp2_with (first | (go_at_call 10; refine hk.out.mono ?_; rintro e w1 ⟨rfl, he1⟩) | (go_at_call 11; refine (nr.out _).mono ?_; rintro e w2 ⟨rfl, rfl⟩) | (go_at_call 13; refine (np.out _).mono ?_; rintro e w2 ⟨rfl, rfl⟩) | (go_at_call 12; refine (HE.out _ (he1.alloc _) _ (by simp)).mono ?_; rintro e w3 ⟨a3, c3, rfl, he3, -⟩))
        go_ret
        exact ⟨rfl, ((he1.alloc _).alloc _).trans he3⟩
    · obtain ⟨h1, h2⟩ := one_good n d (fun h => by rw [hnb] at h; cases h) htb (by omega)
      rw [h1, h2] at HE
      obtain ⟨r1, r2, r3⟩ := tagB_range htb
      have hlp := lenB_pos d.length
      have hm : ∃ m : Nat, 2 ≤ m ∧ ((n % 256) :: (lenB d.length ++ d)).length = m := ⟨_, by simp; omega, rfl⟩
      have h0 : n % 256 = n := by omega
      obtain ⟨rest, hrest⟩ : ∃ rest, (n % 256) :: (lenB d.length ++ d) = n :: rest := ⟨_, by rw [h0]⟩
      rw [hrest] at HE hm
      obtain ⟨m, hm2, hml⟩ := hm
      have HML := Lib.hid hml
      clear h1 h2 hnb htb h HH hrest hml h0 hlp
      generalize d.length = dn at *
      have hm3 : (2 : Int) ≤ m := by omega
      have hm4 : (0 : Int) < m := by omega
      go_enter Try.func3, Try.ntmps3
      go_wp2_with (first | (go_at_call 10; refine hk.out.mono ?_; rintro e w1 ⟨rfl, he1⟩) | (go_at_call 11; refine (nr.out _).mono ?_; rintro e w2 ⟨rfl, rfl⟩) | (go_at_call 13; refine (np.out _).mono ?_; rintro e w2 ⟨rfl, rfl⟩) | (go_at_call 12; refine (HE.out _ (he1.alloc _) _ (by simp)).mono ?_; rintro e w3 ⟨a3, c3, he, he3, hr3⟩; have hr4 := hr3 Any (fun _ h => h.elim); rw [HML.out] at he hr4; subst he; obtain ⟨b3, o3, hb3, hc3⟩ : ∃ b3 o3, a3 = some ⟨b3, o3, none⟩ ∧ w3.cell? ⟨b3, o3, none⟩ = some (.int .u8 n) := (by obtain ⟨b3, o3, c4, hv, _, _, _, hc⟩ := hr4.at_ (by simp); simp only [Value.slice.injEq] at hv; exact ⟨b3, o3, hv.1, hc 0 (by simp)⟩); subst hb3; clear hr3 hr4))
      go_ret
      exact ⟨rfl, ((he1.alloc _).alloc _).trans he3⟩
  · -- constructed
    have HE := Lib.hid (fun (w1 : World) (hw1 : Ext w w1) (B : Nat) (hB : w1.heap.size = B) => encodeP_any 1 Any (oneL n []) _ _ (one_rk w1 n [] _ (RB.nil _ _) B hB) (by rw [one_cnt]; simp))
    cases tb
    · obtain ⟨h1, h2⟩ := one_bad n [] (fun _ => rfl) htb
      rw [h1, h2] at HE
      have hr := tagB_not htb
      clear h1 h2 hnb htb h HH
      generalize d.length = dn at *
      rcases hr with hr | hr | ⟨hr1, hr2, hr3⟩
      all_goals
        go_enter Try.func3, Try.ntmps3
        go_wp2_with (first | (go_at_call 10; refine hk.out.mono ?_; rintro e w1 ⟨rfl, he1⟩) | (go_at_call 11; refine (nr.out _).mono ?_; rintro e w2 ⟨rfl, rfl⟩) | (go_at_call 13; refine (np.out _).mono ?_; rintro e w2 ⟨rfl, rfl⟩) | (go_at_call 12; refine (HE.out _ (he1.alloc _) _ (by simp)).mono ?_; rintro e w3 ⟨a3, c3, rfl, he3, -⟩))
        go_ret
        exact ⟨rfl, ((he1.alloc _).alloc _).trans he3⟩
    · obtain ⟨h1, h2⟩ := one_good n [] (fun _ => rfl) htb (by simp)
      rw [h1, h2] at HE
      obtain ⟨r1, r2, r3⟩ := tagB_range htb
      have hlp := lenB_pos ([] : List Int).length
      have hm : ∃ m : Nat, 2 ≤ m ∧ ((n % 256) :: (lenB ([] : List Int).length ++ [])).length = m := ⟨_, by simp; omega, rfl⟩
      have h0 : n % 256 = n := by omega
      obtain ⟨rest, hrest⟩ : ∃ rest, (n % 256) :: (lenB ([] : List Int).length ++ []) = n :: rest := ⟨_, by rw [h0]⟩
      rw [hrest] at HE hm
      obtain ⟨m, hm2, hml⟩ := hm
      have HML := Lib.hid hml
      clear h1 h2 hnb htb h HH hrest hml h0 hlp
      generalize d.length = dn at *
      have hm3 : (2 : Int) ≤ m := by omega
      have hm4 : (0 : Int) < m := by omega
      go_enter Try.func3, Try.ntmps3
      go_wp2_with (first | (go_at_call 10; refine hk.out.mono ?_; rintro e w1 ⟨rfl, he1⟩) | (go_at_call 11; refine (nr.out _).mono ?_; rintro e w2 ⟨rfl, rfl⟩) | (go_at_call 13; refine (np.out _).mono ?_; rintro e w2 ⟨rfl, rfl⟩) | (go_at_call 12; refine (HE.out _ (he1.alloc _) _ (by simp)).mono ?_; rintro e w3 ⟨a3, c3, he, he3, hr3⟩; have hr4 := hr3 Any (fun _ h => h.elim); rw [HML.out] at he hr4; subst he; obtain ⟨b3, o3, hb3, hc3⟩ : ∃ b3 o3, a3 = some ⟨b3, o3, none⟩ ∧ w3.cell? ⟨b3, o3, none⟩ = some (.int .u8 n) := (by obtain ⟨b3, o3, c4, hv, _, _, _, hc⟩ := hr4.at_ (by simp); simp only [Value.slice.injEq] at hv; exact ⟨b3, o3, hv.1, hc 0 (by simp)⟩); subst hb3; clear hr3 hr4))
      go_ret
      exact ⟨rfl, ((he1.alloc _).alloc _).trans he3⟩
end Go.Proofs.Ytojiddkaeoifcaa
