/- Plain laws of layer 10 for TlvTruncation and TlvConcatenates: parts of an encoding, one byte more, two encodings one after the other. -/
import Derived.Test.YtojiddkaeoifcaaTlvP
namespace Go.Proofs.Ytojiddkaeoifcaa
open Go.RowKit

theorem rl_cut (t : Int) (k : Nat) (X : List Int) (c : Nat) (hc : c < (lenB k).length) : (rl (t :: (lenB k ++ X).take c)).2.2 = 13 := by
  rw [List.take_append_of_le_length (by omega)]
  by_cases h1 : k < 128
  · rw [lenB_lo h1] at hc ⊢
    match c, hc with
    | 0, _ => simp [rl]
  by_cases h2 : k < 256
  · rw [lenB_mid h1 h2] at hc ⊢
    match c, hc with
    | 0, _ => simp [rl]
    | 1, _ => simp [rl]
  · rw [lenB_hi h1 h2] at hc ⊢
    match c, hc with
    | 0, _ => simp [rl]
    | 1, _ => simp [rl]
    | 2, _ => simp [rl]
theorem hd_cut (t : Int) (k : Nat) (X : List Int) (c : Nat) (d : Int) (ht : tagB t = true) (hd6 : d ≤ 6) (hk : k ≤ 65535) (hX : X.length = k) (hc : c < (lenB k ++ X).length) :
    (hd (t :: (lenB k ++ X).take c) d).2.2.2 = 13 := by
  unfold hd
  simp only
  rw [if_neg (by simp [ht]), if_neg (by omega)]
  by_cases h : c < (lenB k).length
  · have e := rl_cut t k X c h
    rw [if_pos (by rw [e]; decide), e]
  · have e1 : (lenB k ++ X).take c = lenB k ++ X.take (c - (lenB k).length) := by
      rw [List.take_append, List.take_of_length_le (show (lenB k).length ≤ c by omega)]
    rw [e1, rl_enc t k _ hk, if_neg (by simp), if_pos]
    simp only [List.length_append] at hc
    simp only [List.length_cons, List.length_append, List.length_take]
    omega
theorem hd_one (z : Int) (d : Int) : (hd [z] d).2.2.2 ≠ 0 := by
  unfold hd
  simp only
  split
  · decide
  split
  · decide
  · rw [if_pos (by simp [rl])]
    simp [rl]
theorem encS_one {α : Type} (ek : List α → List Int) (x : NodeOf α) : encS ek [x] = encE ek x := by simp [encS]
theorem trunc_take (m : Nat) (x : NodeOf (Nd m)) (c : Nat) (h : encErr (m + 1) [x] = 0) (h1 : 1 ≤ c) (h2 : c < (encOut (m + 1) [x]).length) : (decTop (m + 1) ((encOut (m + 1) [x]).take c)).2 = 13 := by
  obtain ⟨k1, k2, k3, k4⟩ := encErr_zero h
  rw [k3] at h2 ⊢
  have hx : errS (chkN m) 0 x = 0 := fstErr_zero (errS (chkN m) 0) [x] k1 x (by simp)
  obtain ⟨ht, _, _, _, _⟩ := errS_zero hx
  have hlen := encN_len (m + 1) [x]
  generalize hE : encN (m + 1) [x] = E at *
  have hE2 : E = encE (encN m) x := by
    rw [← hE]
    exact encS_one (encN m) x
  obtain ⟨t, da, ks⟩ := x
  simp only at ht hE2
  unfold encE at hE2
  simp only at hE2
  have htm : t % 256 = t := by have := tagB_in ht; omega
  rw [htm] at hE2
  have hk : da.length + (encN m ks).length ≤ 65535 := by
    have : E.length = 1 + ((lenB (da.length + (encN m ks).length)).length + (da.length + (encN m ks).length)) := by rw [hE2]; simp; omega
    omega
  generalize hK : da.length + (encN m ks).length = K at *
  generalize hXX : da ++ encN m ks = X at *
  have hX : X.length = K := by rw [← hXX, List.length_append, hK]
  obtain ⟨c', rfl⟩ : ∃ c', c = c' + 1 := ⟨c - 1, by omega⟩
  have hT : E.take (c' + 1) = t :: (lenB K ++ X).take c' := by rw [hE2, List.take_succ_cons]
  have hh := hd_cut t K X c' 0 ht (by omega) hk hX (by rw [hE2] at h2; simp only [List.length_cons] at h2; omega)
  have hl : (E.take (c' + 1)).length ≤ 1500 := by rw [List.length_take]; omega
  unfold decTop
  rw [if_neg (by omega), hT]
  show (decS 0 (decN m (0 + 1)) _).2 = 13
  rw [← runD_zero, decS_bad 0 (decN m (0 + 1)) (by simp) (by rw [hh]; decide)]
  exact hh
theorem trunc_more (m : Nat) (l : List (Nd (m + 1))) (z : Int) (h : encErr (m + 1) l = 0) (h2 : (encOut (m + 1) l).length < 1500) : (decTop (m + 1) (encOut (m + 1) l ++ [z])).2 ≠ 0 := by
  obtain ⟨k1, k2, k3, k4⟩ := encErr_zero h
  unfold decTop
  rw [if_neg (by rw [List.length_append, List.length_singleton]; omega), k3, dec_encN_more m 0 l [z] k1 (by omega)]
  have hz : (decN (m + 1) 0 [z]).2 ≠ 0 := by
    show (decS 0 (decN m (0 + 1)) [z]).2 ≠ 0
    rw [← runD_zero, decS_bad 0 (decN m (0 + 1)) (by simp) (hd_one z 0)]
    exact hd_one z 0
  unfold runD
  rw [if_pos hz]
  exact hz

theorem encOut_le (n : Nat) (l : List (Nd n)) : (encOut n l).length ≤ 1500 := by
  unfold encOut
  split
  · split
    · rename_i h; rw [encN_len]; exact h
    · simp
  · simp

/-! ### Two lists -/
theorem chkN_app (m : Nat) (a b : List (Nd (m + 1))) (d : Int) (ha : chkN (m + 1) a d = 0) (hb : chkN (m + 1) b d = 0) : chkN (m + 1) (a ++ b) d = 0 := by
  have h1 : ∀ x ∈ (show List (NodeOf (Nd m)) from a), errS (chkN m) d x = 0 := fstErr_zero (errS (chkN m) d) a ha
  have h2 : ∀ x ∈ (show List (NodeOf (Nd m)) from b), errS (chkN m) d x = 0 := fstErr_zero (errS (chkN m) d) b hb
  exact fstErr_of_zero (errS (chkN m) d) (a ++ b) fun x hx => by
    rcases List.mem_append.1 hx with hx | hx
    · exact h1 x hx
    · exact h2 x hx
theorem encN_app (m : Nat) (a b : List (Nd (m + 1))) : encN (m + 1) (a ++ b) = encN (m + 1) a ++ encN (m + 1) b := by
  show encS (encN m) _ = encS (encN m) _ ++ encS (encN m) _
  unfold encS
  exact List.flatMap_append
theorem concat_law (m : Nat) (a b : List (Nd (m + 1))) (ha : encErr (m + 1) a = 0) (hb : encErr (m + 1) b = 0) (hl : (encOut (m + 1) a).length + (encOut (m + 1) b).length ≤ 1500) :
    encErr (m + 1) (a ++ b) = 0 ∧ encOut (m + 1) (a ++ b) = encOut (m + 1) a ++ encOut (m + 1) b ∧ decTop (m + 1) (encOut (m + 1) a ++ encOut (m + 1) b) = (a ++ b, 0) := by
  obtain ⟨a1, a2, a3, a4⟩ := encErr_zero ha
  obtain ⟨b1, b2, b3, b4⟩ := encErr_zero hb
  have hc := chkN_app m a b 0 a1 b1
  have he := encN_app m a b
  have hs : szN (m + 1) (a ++ b) ≤ 1500 := by
    rw [← encN_len, he, List.length_append, encN_len, encN_len]
    omega
  have e1 : encErr (m + 1) (a ++ b) = 0 := by unfold encErr; rw [if_pos hc, if_pos hs]
  have e2 : encOut (m + 1) (a ++ b) = encOut (m + 1) a ++ encOut (m + 1) b := by
    rw [a3, b3, ← he]; unfold encOut; rw [if_pos hc, if_pos hs]
  refine ⟨e1, e2, ?_⟩
  rw [← e2]
  exact (round_trip (m + 1) (a ++ b) e1).1
theorem cntS_app {α : Type} (ck : List α → Nat) (a b : List (NodeOf α)) : cntS ck (a ++ b) = cntS ck a + cntS ck b := by
  unfold cntS
  rw [List.map_append, List.sum_append, List.length_append]
  omega
theorem cntN_app (m : Nat) (a b : List (Nd (m + 1))) : cntN (m + 1) (a ++ b) = cntN (m + 1) a + cntN (m + 1) b := cntS_app (cntN m) a b
end Go.Proofs.Ytojiddkaeoifcaa
