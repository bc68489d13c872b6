/- Plain laws of layer 16 for TwinExactlyOnce: the window of one source against the set of accepted frames. -/
import Derived.Test.YtdnoejdhphpieaaTwQ
namespace Go.Proofs.Ytdnoejdhphpieaa
open Go.RowKit

/-- The state after the frames g were accepted (frame j has the number st + j). -/
def Twin (st : Int) (g : Nat → Bool) (L : List Src3) : Prop :=
  ((∀ j, g j = false) ∧ L = []) ∨ ∃ m S, g m = true ∧ (∀ j, g j = true → j ≤ m) ∧ S < 18446744073709551616 ∧ (∀ i, i < 64 → S.testBit i = (decide (i ≤ m) && g (m - i))) ∧ L = [(9, (st + (m : Int)) % 65536, S)]
theorem Twin.len {st : Int} {g : Nat → Bool} {L : List Src3} (h : Twin st g L) : L.length ≤ 1 ∧ WfL L := by
  rcases h with ⟨_, rfl⟩ | ⟨m, S, _, _, hS, _, rfl⟩
  · exact ⟨by simp, fun _ h => (by cases h)⟩
  · refine ⟨by simp, fun x hx => ?_⟩
    simp only [List.mem_singleton] at hx
    subst hx
    exact ⟨by simp only; omega, by simp only; omega, hS⟩
theorem Twin.congr {st : Int} {g g' : Nat → Bool} {L : List Src3} (h : Twin st g L) (e : ∀ j, g j = g' j) : Twin st g' L := by
  have : g = g' := funext e
  rw [← this]; exact h
theorem one_bit (i : Nat) : (1 : Nat).testBit i = decide (i = 0) := by
  have := Nat.testBit_two_pow (n := 0) (m := i)
  rw [Nat.pow_zero] at this
  rw [this, Bool.eq_iff_iff]
  simp [eq_comm]
theorem shl_testBit (S d i : Nat) (hi : i < 64) : (shl64 S d).testBit i = (decide (d ≤ i) && S.testBit (i - d)) := by
  unfold shl64
  rw [Nat.testBit_mod_two_pow, Nat.testBit_shiftLeft]
  simp [hi]
theorem Twin.step {st : Int} {g : Nat → Bool} {L : List Src3} (h : Twin st g L) (f : Nat) (hf : f ≤ 300) (hw : ∀ j, g j = true → j ≤ f + 63) :
    (accS L 9 ((st + (f : Int)) % 65536)).2 = !g f ∧ Twin st (fun j => g j || decide (j = f)) (accS L 9 ((st + (f : Int)) % 65536)).1 := by
  have hq : 0 ≤ (st + (f : Int)) % 65536 ∧ (st + (f : Int)) % 65536 ≤ 65535 := by omega
  rcases h with ⟨h0, rfl⟩ | ⟨m, S, hm, hmx, hS, hb, rfl⟩
  · rw [accS_new (by omega) rfl 0 rfl]
    refine ⟨by simp [h0], .inr ⟨f, 1, by simp, fun j hj => ?_, by decide, fun i hi => ?_, rfl⟩⟩
    · simp [h0] at hj; omega
    · rw [one_bit]
      simp only [h0, Bool.false_or]
      rw [Bool.eq_iff_iff]
      simp
      omega
  · have hm2 := hw m hm
    have hfi : [((9 : Int), (st + (m : Int)) % 65536, S)].findIdx? (fun x => decide (x.1 = 9)) = some 0 := by simp [List.findIdx?_cons]
    rw [accS_found (by omega) hfi (x := (9, (st + (m : Int)) % 65536, S)) rfl]
    rcases Nat.lt_trichotomy m f with hlt | heq | hgt
    · have hd : ((st + (f : Int)) % 65536 - (st + (m : Int)) % 65536) % 65536 = ((f - m : Nat) : Int) := by omega
      have ht : takeS (9, (st + (m : Int)) % 65536, S) ((st + (f : Int)) % 65536) = ((9, (st + (f : Int)) % 65536, shl64 S (f - m) ||| 1), true) := by
        unfold takeS
        simp only [hd]
        rw [if_pos (by omega), show ((f - m : Nat) : Int).toNat = f - m by omega]
      rw [ht]
      have hgf : g f = false := by
        cases hg : g f with
        | false => rfl
        | true => have := hmx f hg; omega
      refine ⟨by simp [hgf], .inr ⟨f, _, by simp, fun j hj => ?_, or_lt64 (shl64_lt S (f - m)) (show (1 : Nat) < 18446744073709551616 by decide), fun i hi => ?_, rfl⟩⟩
      · simp only [Bool.or_eq_true, decide_eq_true_eq] at hj
        rcases hj with hj | hj
        · have := hmx j hj; omega
        · omega
      · rw [Nat.testBit_or, shl_testBit _ _ _ hi, one_bit]
        by_cases hif : i ≤ f
        · by_cases hi0 : i = 0
          · subst hi0; simp
          · have e1 : decide (f - i = f) = false := by simp; omega
            simp only [hif, decide_true, Bool.true_and, e1, Bool.or_false, show decide (i = 0) = false by simp [hi0]]
            by_cases hid : f - m ≤ i
            · rw [hb (i - (f - m)) (by omega), show m - (i - (f - m)) = f - i by omega]
              simp [hid]
              omega
            · have hg : g (f - i) = false := by
                cases hg : g (f - i) with
                | false => rfl
                | true => have := hmx _ hg; omega
              rw [hg]
              simp [hid]
        · have h1 : decide (i ≤ f) = false := by simpa using hif
          have h2 : decide (i = 0) = false := by simp; omega
          rw [h1, h2]
          by_cases hid : f - m ≤ i
          · rw [hb (i - (f - m)) (by omega), show decide (i - (f - m) ≤ m) = false by simp; omega]
            simp
          · simp [hid]
    · subst heq
      have hd : ((st + (m : Int)) % 65536 - (st + (m : Int)) % 65536) % 65536 = 0 := by omega
      have hS0 := hb 0 (by omega)
      have ht : takeS (9, (st + (m : Int)) % 65536, S) ((st + (m : Int)) % 65536) = ((9, (st + (m : Int)) % 65536, S), false) := by
        unfold takeS
        simp only [hd]
        rw [if_neg (by omega), if_neg]
        intro hh
        have h2 := hh.2
        rw [shr_mod, show (0 : Int).toNat = 0 from rfl, hS0] at h2
        simp [hm] at h2
      rw [ht]
      refine ⟨by simp [hm], ?_⟩
      refine Twin.congr (.inr ⟨m, S, hm, hmx, hS, hb, rfl⟩) fun j => ?_
      by_cases hj : j = m
      · subst hj; simp [hm]
      · simp [hj]
    · have hd : ((st + (f : Int)) % 65536 - (st + (m : Int)) % 65536) % 65536 = 65536 - ((m - f : Nat) : Int) := by omega
      have hk : ((st + (m : Int)) % 65536 - (st + (f : Int)) % 65536) % 65536 = ((m - f : Nat) : Int) := by omega
      have hbf := hb (m - f) (by omega)
      rw [show m - (m - f) = f by omega, show decide (m - f ≤ m) = true by simp, Bool.true_and] at hbf
      cases hg : g f with
      | true =>
        have ht : takeS (9, (st + (m : Int)) % 65536, S) ((st + (f : Int)) % 65536) = ((9, (st + (m : Int)) % 65536, S), false) := by
          unfold takeS
          simp only [hd, hk]
          rw [if_neg (by omega), if_neg]
          intro hh
          have h2 := hh.2
          rw [shr_mod, show ((m - f : Nat) : Int).toNat = m - f by omega, hbf, hg] at h2
          simp at h2
        rw [ht]
        refine ⟨rfl, ?_⟩
        refine Twin.congr (.inr ⟨m, S, hm, hmx, hS, hb, rfl⟩) fun j => ?_
        by_cases hj : j = f
        · subst hj; simp [hg]
        · simp [hj]
      | false =>
        have ht : takeS (9, (st + (m : Int)) % 65536, S) ((st + (f : Int)) % 65536) = ((9, (st + (m : Int)) % 65536, S ||| shl64 1 (m - f)), true) := by
          unfold takeS
          simp only [hd, hk]
          rw [if_neg (by omega), if_pos, show ((m - f : Nat) : Int).toNat = m - f by omega]
          refine ⟨by omega, ?_⟩
          rw [shr_mod, show ((m - f : Nat) : Int).toNat = m - f by omega, hbf, hg]
          rfl
        rw [ht]
        refine ⟨rfl, .inr ⟨m, _, by simp [hm], fun j hj => ?_, or_lt64 hS (shl64_lt _ _), fun i hi => ?_, rfl⟩⟩
        · simp only [Bool.or_eq_true, decide_eq_true_eq] at hj
          rcases hj with hj | hj
          · exact hmx j hj
          · omega
        · rw [Nat.testBit_or, hb i hi, shl_bit _ (by omega)]
          by_cases him : i ≤ m
          · have : decide (m - f = i) = decide (m - i = f) := by
              rw [Bool.eq_iff_iff]; simp; omega
            simp [him, this]
          · have : decide (m - f = i) = false := by simp; omega
            simp [him, this]
/-- What has arrived: of frame j a copy on the first network (of the first p frames), or on the second one (of the first q). -/
def got (a0 a1 : Nat → Bool) (p q j : Nat) : Bool := (decide (j < p) && a0 j) || (decide (j < q) && a1 j)
theorem got_a (a0 a1 : Nat → Bool) (p q : Nat) (h : a0 p = true) (j : Nat) : (got a0 a1 p q j || decide (j = p)) = got a0 a1 (p + 1) q j := by
  unfold got
  by_cases hj : j = p
  · subst hj; simp [h]
  · rw [show decide (j < p + 1) = decide (j < p) by rw [Bool.eq_iff_iff]; simp; omega]
    simp [hj]
theorem got_a' (a0 a1 : Nat → Bool) (p q : Nat) (h : a0 p = false) (j : Nat) : got a0 a1 p q j = got a0 a1 (p + 1) q j := by
  unfold got
  by_cases hj : j = p
  · subst hj; simp [h]
  · rw [show decide (j < p + 1) = decide (j < p) by rw [Bool.eq_iff_iff]; simp; omega]
theorem got_b (a0 a1 : Nat → Bool) (p q : Nat) (h : a1 q = true) (j : Nat) : (got a0 a1 p q j || decide (j = q)) = got a0 a1 p (q + 1) j := by
  unfold got
  by_cases hj : j = q
  · subst hj; simp [h]
  · rw [show decide (j < q + 1) = decide (j < q) by rw [Bool.eq_iff_iff]; simp; omega]
    simp [hj]
theorem got_b' (a0 a1 : Nat → Bool) (p q : Nat) (h : a1 q = false) (j : Nat) : got a0 a1 p q j = got a0 a1 p (q + 1) j := by
  unfold got
  by_cases hj : j = q
  · subst hj; simp [h]
  · rw [show decide (j < q + 1) = decide (j < q) by rw [Bool.eq_iff_iff]; simp; omega]
end Go.Proofs.Ytdnoejdhphpieaa
