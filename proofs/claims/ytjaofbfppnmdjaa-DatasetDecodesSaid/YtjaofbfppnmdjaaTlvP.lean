/- The plain laws of layer 10: what is decoded from an encoding, and what an encoding decodes to. -/
import Derived.Test.YtjaofbfppnmdjaaTlvJ
import Derived.Test.YtjaofbfppnmdjaaTlvF
namespace Go.Proofs.Ytjaofbfppnmdjaa
open Go.RowKit

/-! ### Heads of encodings -/
theorem lenB_lo {k : Nat} (h : k < 128) : lenB k = [(k : Int)] := by unfold lenB; rw [if_pos h]
theorem lenB_mid {k : Nat} (h1 : ¬ k < 128) (h2 : k < 256) : lenB k = [129, (k : Int)] := by unfold lenB; rw [if_neg h1, if_pos h2]
theorem lenB_hi {k : Nat} (h1 : ¬ k < 128) (h2 : ¬ k < 256) : lenB k = [130, (k : Int) / 256 % 256, (k : Int) % 256] := by unfold lenB; rw [if_neg h1, if_neg h2]
theorem rl_enc (t : Int) (k : Nat) (r : List Int) (hk : k ≤ 65535) : rl (t :: (lenB k ++ r)) = (1 + (lenB k).length, k, 0) := by
  by_cases h1 : k < 128
  · rw [lenB_lo h1]
    simp only [List.cons_append, List.nil_append, rl, List.length_cons, List.length_nil]
    rw [if_pos (by omega)]
    simp
  by_cases h2 : k < 256
  · rw [lenB_mid h1 h2]
    simp only [List.cons_append, List.nil_append, rl, List.length_cons, List.length_nil]
    rw [if_neg (by omega), if_pos trivial, if_neg (by omega)]
    simp
  · rw [lenB_hi h1 h2]
    simp only [List.cons_append, List.nil_append, rl, List.length_cons, List.length_nil]
    rw [if_neg (by omega), if_neg (by omega), if_pos trivial, if_neg (by omega)]
    simp only [Prod.mk.injEq, true_and, and_true]
    omega
theorem hd_enc (t : Int) (k : Nat) (r : List Int) (d : Int) (ht : tagB t = true) (hd6 : d ≤ 6) (hk : k ≤ 65535) (hr : k ≤ r.length) : hd (t :: (lenB k ++ r)) d = (t, 1 + (lenB k).length, k, 0) := by
  unfold hd
  simp only
  rw [rl_enc t k r hk, if_neg (by simp [ht]), if_neg (by omega), if_neg (by simp), if_neg (by simp; omega)]
theorem drop_enc (t : Int) (k : Nat) (r : List Int) : (t :: (lenB k ++ r)).drop (1 + (lenB k).length) = r := by
  rw [Nat.add_comm, List.drop_succ_cons, List.drop_left]
/-- The head gives back the bytes of the length. -/
theorem rl_inv {t : Int} {r : List Int} (hb : Byt (t :: r)) (h : (rl (t :: r)).2.2 = 0) : (rl (t :: r)).1 = 1 + (lenB (rl (t :: r)).2.1).length ∧ t :: r = t :: (lenB (rl (t :: r)).2.1 ++ (t :: r).drop (rl (t :: r)).1) := by
  match r, hb, h with
  | [], hb, h => simp [rl] at h
  | x1 :: r, hb, h =>
    have b1 := hb x1 (by simp)
    by_cases h1 : x1 < 128
    · have e : rl (t :: x1 :: r) = (2, x1.toNat, 0) := by simp [rl, h1]
      rw [e]
      simp only
      rw [lenB_lo (by omega)]
      simp
      omega
    by_cases h2 : x1 = 129
    · subst h2
      match r, hb, h with
      | [], hb, h => simp [rl] at h
      | x2 :: r, hb, h =>
        have b2 := hb x2 (by simp)
        by_cases h3 : x2 < 128
        · simp [rl, h3] at h
        · have e : rl (t :: 129 :: x2 :: r) = (3, x2.toNat, 0) := by simp [rl, h3]
          rw [e]
          simp only
          rw [lenB_mid (by omega) (by omega)]
          simp
          omega
    by_cases h3 : x1 = 130
    · subst h3
      match r, hb, h with
      | [], hb, h => simp [rl] at h
      | [x2], hb, h => simp [rl] at h
      | x2 :: x3 :: r, hb, h =>
        have b2 := hb x2 (by simp)
        have b3 := hb x3 (by simp)
        by_cases h4 : x2 * 256 + x3 < 256
        · simp [rl, h4] at h
        · have e : rl (t :: 130 :: x2 :: x3 :: r) = (4, (x2 * 256 + x3).toNat, 0) := by simp [rl, h4]
          rw [e]
          simp only
          rw [lenB_hi (by omega) (by omega)]
          simp
          omega
    · simp [rl, h1, h2, h3] at h

/-! ### What an encoding decodes to -/
theorem tagB_in {t : Int} (h : tagB t = true) : 1 ≤ t ∧ t ≤ 254 := by
  unfold tagB at h
  simp only [Bool.and_eq_true, decide_eq_true_eq] at h
  exact h.1
theorem errS_zero {α : Type} {ek : List α → Int → Int} {d : Int} {x : NodeOf α} (h : errS ek d x = 0) : tagB x.1 = true ∧ d ≤ 6 ∧ (nestB x.1 = true → x.2.1 = []) ∧ (nestB x.1 = false → x.2.2 = []) ∧ ek x.2.2 (d + 1) = 0 := by
  unfold errS at h
  split at h
  · simp at h
  rename_i h1
  split at h
  · simp at h
  rename_i h2
  split at h
  · simp at h
  rename_i h3
  refine ⟨by simpa using h1, by omega, fun hn => ?_, fun hn => ?_, h⟩
  · exact List.eq_nil_of_length_eq_zero (by
      rcases Nat.eq_zero_or_pos x.2.1.length with h | h
      · exact h
      · exact absurd (Or.inl ⟨hn, h⟩) h3)
  · exact List.eq_nil_of_length_eq_zero (by
      rcases Nat.eq_zero_or_pos x.2.2.length with h | h
      · exact h
      · exact absurd (Or.inr ⟨hn, h⟩) h3)
theorem dec_encS {α : Type} (ek : List α → List Int) (kid : List Int → List α × Int) (ck : List α → Int → Int) (d : Int) (hnil : ek [] = []) (r : List Int) : ∀ (l acc : List (NodeOf α)), (∀ x ∈ l, errS ck d x = 0) → (∀ x ∈ l, x.2.1.length + (ek x.2.2).length ≤ 65535) → (∀ x ∈ l, kid (ek x.2.2) = (x.2.2, 0)) →
    runD acc (decS d kid (encS ek l ++ r)) = runD (acc ++ l) (decS d kid r)
  | [], acc, _, _, _ => by simp [encS]
  | x :: l, acc, h1, h2, h3 => by
    have ih := dec_encS ek kid ck d hnil r l (acc ++ [x]) (fun y hy => h1 y (by simp [hy])) (fun y hy => h2 y (by simp [hy])) (fun y hy => h3 y (by simp [hy]))
    obtain ⟨ht, hd6, hn1, hn2, _⟩ := errS_zero (h1 x (by simp))
    have hb := h2 x (by simp)
    have hk := h3 x (by simp)
    obtain ⟨t, da, ks⟩ := x
    simp only at ht hn1 hn2 hb hk
    have htm : t % 256 = t := by have := tagB_in ht; omega
    have e : encS ek ((t, da, ks) :: l) ++ r = t :: (lenB (da ++ ek ks).length ++ ((da ++ ek ks) ++ (encS ek l ++ r))) := by
      simp [encS, encE, htm]
    rw [e]
    have hh := hd_enc t (da ++ ek ks).length ((da ++ ek ks) ++ (encS ek l ++ r)) d ht hd6 (by simpa using hb) (by simp)
    have hdr := drop_enc t (da ++ ek ks).length ((da ++ ek ks) ++ (encS ek l ++ r))
    generalize hB : t :: (lenB (da ++ ek ks).length ++ ((da ++ ek ks) ++ (encS ek l ++ r))) = B at *
    have hne : B ≠ [] := by rw [← hB]; simp
    have hbody : (B.drop (hd B d).2.1).take (hd B d).2.2.1 = da ++ ek ks := by
      rw [hh]; simp only; rw [hdr, List.take_left]
    have htail : B.drop ((hd B d).2.1 + (hd B d).2.2.1) = encS ek l ++ r := by
      rw [hh]; simp only; rw [← List.drop_drop, hdr, List.drop_left]
    have hst := decS_step d kid hne (by rw [hh]) (fun hn => by
      rw [hbody]
      rw [hh] at hn
      simp only at hn
      rw [hn1 hn, List.nil_append, hk]) acc
    rw [hst, htail, hbody, hh]
    simp only
    have hx : ((t, if nestB t = true then ([], (kid (da ++ ek ks)).1) else (da ++ ek ks, [])) : NodeOf α) = (t, da, ks) := by
      by_cases hn : nestB t = true
      · rw [if_pos hn, hn1 hn, List.nil_append, hk]
      · rw [if_neg hn, hn2 (by simpa using hn), hnil, List.append_nil]
    rw [hx, ih, List.append_assoc]
    rfl
theorem dec_encS1 {α : Type} (ek : List α → List Int) (kid : List Int → List α × Int) (ck : List α → Int → Int) (d : Int) (hnil : ek [] = []) (r : List Int) (l : List (NodeOf α)) (h1 : ∀ x ∈ l, errS ck d x = 0) (h2 : ∀ x ∈ l, x.2.1.length + (ek x.2.2).length ≤ 65535) (h3 : ∀ x ∈ l, kid (ek x.2.2) = (x.2.2, 0)) :
    decS d kid (encS ek l ++ r) = runD l (decS d kid r) := by
  have key := dec_encS ek kid ck d hnil r l [] h1 h2 h3
  rwa [runD_zero, List.nil_append] at key
theorem dec_encS0 {α : Type} (ek : List α → List Int) (kid : List Int → List α × Int) (ck : List α → Int → Int) (d : Int) (hnil : ek [] = []) (l : List (NodeOf α)) (h1 : ∀ x ∈ l, errS ck d x = 0) (h2 : ∀ x ∈ l, x.2.1.length + (ek x.2.2).length ≤ 65535) (h3 : ∀ x ∈ l, kid (ek x.2.2) = (x.2.2, 0)) :
    decS d kid (encS ek l) = (l, 0) := by
  have key := dec_encS1 ek kid ck d hnil [] l h1 h2 h3
  rwa [List.append_nil, runD_nil] at key
theorem szS_mem {α : Type} (zk : List α → Nat) (l : List (NodeOf α)) (x : NodeOf α) (h : x ∈ l) : x.2.1.length + zk x.2.2 ≤ szS zk l := by
  have := sum_mem_le (szE zk) l x h
  unfold szS
  unfold szE at this ⊢
  omega
theorem dec_encN : ∀ (n : Nat) (d : Int) (l : List (Nd n)), chkN n l d = 0 → szN n l ≤ 65535 → decN n d (encN n l) = (l, 0)
  | 0, d, l, _, _ => by rw [nd_zero l]; rfl
  | n + 1, d, l, h, hs => by
    have h1 : ∀ x ∈ (show List (NodeOf (Nd n)) from l), errS (chkN n) d x = 0 := fstErr_zero (errS (chkN n) d) l h
    have hz : ∀ x ∈ (show List (NodeOf (Nd n)) from l), x.2.1.length + szN n x.2.2 ≤ 65535 := fun x hx => Nat.le_trans (szS_mem (szN n) l x hx) hs
    exact dec_encS0 (encN n) (decN n (d + 1)) (chkN n) d (encN_nil n) l h1 (fun x hx => by rw [encN_len]; exact hz x hx) (fun x hx => dec_encN n (d + 1) x.2.2 (errS_zero (h1 x hx)).2.2.2.2 (by have := hz x hx; omega))
/-- The same, with bytes behind. -/
theorem dec_encN_more (n : Nat) (d : Int) (l : List (Nd (n + 1))) (r : List Int) (h : chkN (n + 1) l d = 0) (hs : szN (n + 1) l ≤ 65535) : decN (n + 1) d (encN (n + 1) l ++ r) = runD l (decN (n + 1) d r) := by
  have h1 : ∀ x ∈ (show List (NodeOf (Nd n)) from l), errS (chkN n) d x = 0 := fstErr_zero (errS (chkN n) d) l h
  have hz : ∀ x ∈ (show List (NodeOf (Nd n)) from l), x.2.1.length + szN n x.2.2 ≤ 65535 := fun x hx => Nat.le_trans (szS_mem (szN n) l x hx) hs
  exact dec_encS1 (encN n) (decN n (d + 1)) (chkN n) d (encN_nil n) r l h1 (fun x hx => by rw [encN_len]; exact hz x hx) (fun x hx => dec_encN n (d + 1) x.2.2 (errS_zero (h1 x hx)).2.2.2.2 (by have := hz x hx; omega))

/-! ### What is decoded encodes to the bytes -/
theorem enc_decF {α : Type} (ek : List α → List Int) (kid : List Int → List α × Int) (ck : List α → Int → Int) (d : Int) (hnil : ek [] = []) (hcnil : ck [] (d + 1) = 0)
    (hk : d ≤ 6 → ∀ b, Byt b → (kid b).2 = 0 → ck (kid b).1 (d + 1) = 0 ∧ ek (kid b).1 = b) : ∀ (f : Nat) (b : List Int), b.length ≤ f → Byt b → (decF d kid f b).2 = 0 → (∀ x ∈ (decF d kid f b).1, errS ck d x = 0) ∧ encS ek (decF d kid f b).1 = b
  | 0, b, hl, _, _ => by
    have : b = [] := List.eq_nil_of_length_eq_zero (by omega)
    subst this
    simp [decF, encS]
  | f + 1, b, hl, hb, h => by
    unfold decF at h ⊢
    by_cases h0 : b = []
    · rw [if_pos h0]; subst h0; simp [encS]
    rw [if_neg h0] at h ⊢
    by_cases h1 : (hd b d).2.2.2 ≠ 0
    · rw [if_pos h1] at h; exact absurd h h1
    rw [if_neg h1] at h ⊢
    have hz : (hd b d).2.2.2 = 0 := Classical.not_not.1 h1
    by_cases h2 : nestB (hd b d).1 = true ∧ (kid ((b.drop (hd b d).2.1).take (hd b d).2.2.1)).2 ≠ 0
    · rw [if_pos h2] at h; exact absurd h h2.2
    rw [if_neg h2] at h ⊢
    by_cases h3 : (decF d kid f (b.drop ((hd b d).2.1 + (hd b d).2.2.1))).2 ≠ 0
    · rw [if_pos h3] at h; exact absurd h h3
    rw [if_neg h3]
    have hg := hd_ok h0 hz
    obtain ⟨g1, g2, g3, g4, g5, g6, g7, g8⟩ := hg
    have ih := enc_decF ek kid ck d hnil hcnil hk f (b.drop ((hd b d).2.1 + (hd b d).2.2.1)) (by simp; omega) (hb.drop _) (Classical.not_not.1 h3)
    obtain ⟨t, r, htr⟩ : ∃ t r, b = t :: r := by
      cases b with
      | nil => exact absurd rfl h0
      | cons t r => exact ⟨t, r, rfl⟩
    have hinv := rl_inv (t := t) (r := r) (by rw [← htr]; exact hb) (by rw [← htr]; exact g8)
    rw [← htr, ← g6, ← g7] at hinv
    have htt : (hd b d).1 = t := by rw [htr] at g5 ⊢; simpa using g5.symm
    rw [htt] at h2 g4 ⊢
    generalize (hd b d).2.1 = F at *
    generalize (hd b d).2.2.1 = K at *
    have hX : ((b.drop F).take K).length = K := by simp; omega
    have hsplit : b = t :: (lenB K ++ ((b.drop F).take K ++ b.drop (F + K))) := by
      have e1 : b.drop F = (b.drop F).take K ++ b.drop (F + K) := by
        rw [← List.drop_drop]; exact (List.take_append_drop K (b.drop F)).symm
      rw [← e1]; exact hinv.2
    generalize hXX : (b.drop F).take K = X at *
    have hXb : Byt X := by rw [← hXX]; exact (hb.drop F).take K
    have htm : t % 256 = t := by have := tagB_in g4; omega
    by_cases hn : nestB t = true
    · rw [if_pos hn]
      have hk0 : (kid X).2 = 0 := by
        rcases Classical.em ((kid X).2 = 0) with h | h
        · exact h
        · exact absurd ⟨hn, h⟩ h2
      obtain ⟨k1, k2⟩ := hk g3 X hXb hk0
      refine ⟨fun x hx => ?_, ?_⟩
      · rcases List.mem_cons.1 hx with hx | hx
        · subst hx
          unfold errS
          simp only
          rw [if_neg (by simp [g4]), if_neg (by omega), if_neg (by simp [hn])]
          exact k1
        · exact ih.1 x hx
      · have e2 := ih.2
        unfold encS at e2 ⊢
        rw [List.flatMap_cons, e2]
        unfold encE
        simp only [k2, htm, List.length_nil, Nat.zero_add, List.nil_append, hX]
        rw [List.cons_append, List.append_assoc]
        exact hsplit.symm
    · rw [if_neg hn]
      have hn' : nestB t = false := by simpa using hn
      refine ⟨fun x hx => ?_, ?_⟩
      · rcases List.mem_cons.1 hx with hx | hx
        · subst hx
          unfold errS
          simp only
          rw [if_neg (by simp [g4]), if_neg (by omega), if_neg (by simp [hn'])]
          exact hcnil
        · exact ih.1 x hx
      · have e2 := ih.2
        unfold encS at e2 ⊢
        rw [List.flatMap_cons, e2]
        unfold encE
        simp only [hnil, htm, List.length_nil, Nat.add_zero, List.append_nil, hX]
        rw [List.cons_append, List.append_assoc]
        exact hsplit.symm
theorem enc_decN : ∀ (n : Nat) (d : Int) (b : List Int), 7 ≤ n + d → Byt b → (decN n d b).2 = 0 → chkN n (decN n d b).1 d = 0 ∧ encN n (decN n d b).1 = b
  | 0, d, b, h7, _, h => by
    by_cases h0 : b = []
    · subst h0; exact ⟨rfl, rfl⟩
    · have h1 : (hd b d).2.2.2 = 0 := by simpa [decN, h0] using h
      have := (hd_ok h0 h1).2.2.1
      omega
  | n + 1, d, b, h7, hb, h => by
    have key := enc_decF (encN n) (decN n (d + 1)) (chkN n) d (encN_nil n) (chkN_nil n _) (fun _ b' hb' h' => enc_decN n (d + 1) b' (by omega) hb' h') b.length b (Nat.le_refl _) hb h
    exact ⟨fstErr_of_zero (errS (chkN n) d) _ key.1, key.2⟩

/-! ### The statements' own words -/
theorem decTop_bad (n : Nat) (b : List Int) (h : (decTop n b).2 ≠ 0) : (decTop n b).1 = [] := by
  unfold decTop at h ⊢
  split
  · rfl
  · rename_i h1
    rw [if_neg h1] at h
    cases n with
    | zero => rfl
    | succ n =>
      have k := runD_zero 0 (decN n (0 + 1)) b
      have e : decN (n + 1) 0 b = decS 0 (decN n (0 + 1)) b := rfl
      rw [e] at h ⊢
      rw [← k]
      unfold runD
      rw [if_pos h]
      rfl
theorem canonical (n : Nat) (b : List Int) (h7 : 7 ≤ n) (hb : Byt b) (h : (decTop n b).2 = 0) : encErr n (decTop n b).1 = 0 ∧ encOut n (decTop n b).1 = b := by
  unfold decTop at h ⊢
  split at h
  · simp at h
  rename_i h1
  rw [if_neg h1]
  obtain ⟨k1, k2⟩ := enc_decN n 0 b (by omega) hb h
  have hs : szN n (decN n 0 b).1 ≤ 1500 := by rw [← encN_len, k2]; omega
  unfold encErr encOut
  rw [if_pos k1, if_pos hs, if_pos k1, if_pos hs]
  exact ⟨rfl, k2⟩
theorem encErr_zero {n : Nat} {l : List (Nd n)} (h : encErr n l = 0) : chkN n l 0 = 0 ∧ szN n l ≤ 1500 ∧ encOut n l = encN n l ∧ (encOut n l).length = szN n l := by
  unfold encErr at h
  by_cases h1 : chkN n l 0 = 0
  · rw [if_pos h1] at h
    by_cases h2 : szN n l ≤ 1500
    · have e : encOut n l = encN n l := by unfold encOut; rw [if_pos h1, if_pos h2]
      exact ⟨h1, h2, e, by rw [e, encN_len]⟩
    · rw [if_neg h2] at h; simp at h
  · rw [if_neg h1] at h; exact absurd h h1
theorem encOut_bad {n : Nat} {l : List (Nd n)} (h : encErr n l ≠ 0) : encOut n l = [] := by
  unfold encErr at h
  unfold encOut
  by_cases h1 : chkN n l 0 = 0
  · rw [if_pos h1] at h ⊢
    by_cases h2 : szN n l ≤ 1500
    · rw [if_pos h2] at h; exact absurd rfl h
    · rw [if_neg h2]
  · rw [if_neg h1]
theorem round_trip (n : Nat) (l : List (Nd n)) (h : encErr n l = 0) : decTop n (encOut n l) = (l, 0) ∧ sizeOut n l = (encOut n l).length ∧ (encOut n l).length ≤ 1500 := by
  obtain ⟨h1, h2, h3, h4⟩ := encErr_zero h
  refine ⟨?_, ?_, by omega⟩
  · unfold decTop
    rw [if_neg (by omega), h3]
    exact dec_encN n 0 l h1 (by omega)
  · unfold sizeOut
    rw [if_pos h1, h4]
end Go.Proofs.Ytjaofbfppnmdjaa
