/- What the decoders of layer 10 compute; parts of a byte slice; bytes.Clone. -/
import Derived.Test.YtjaofbfppnmdjaaTlvH
import Derived.Test.YtjaofbfppnmdjaaTlvE
import Derived.Lib.SliceRun
namespace Go.Proofs.Ytjaofbfppnmdjaa
open Go.RowKit
attribute [local go_sem ↓] Go.wp_at_zero Go.wp_at_succ

/-! ### What they compute -/
def decF {α : Type} (d : Int) (kid : List Int → List α × Int) : Nat → List Int → List (NodeOf α) × Int
  | 0, _ => ([], 0)
  | f + 1, b =>
    if b = [] then ([], 0)
    else if (hd b d).2.2.2 ≠ 0 then ([], (hd b d).2.2.2)
    else if nestB (hd b d).1 = true ∧ (kid ((b.drop (hd b d).2.1).take (hd b d).2.2.1)).2 ≠ 0 then ([], (kid ((b.drop (hd b d).2.1).take (hd b d).2.2.1)).2)
    else if (decF d kid f (b.drop ((hd b d).2.1 + (hd b d).2.2.1))).2 ≠ 0 then ([], (decF d kid f (b.drop ((hd b d).2.1 + (hd b d).2.2.1))).2)
    else (((hd b d).1, if nestB (hd b d).1 = true then ([], (kid ((b.drop (hd b d).2.1).take (hd b d).2.2.1)).1) else ((b.drop (hd b d).2.1).take (hd b d).2.2.1, [])) :: (decF d kid f (b.drop ((hd b d).2.1 + (hd b d).2.2.1))).1, 0)
def decS {α : Type} (d : Int) (kid : List Int → List α × Int) (b : List Int) : List (NodeOf α) × Int := decF d kid b.length b
def decN : (n : Nat) → Int → List Int → List (Nd n) × Int
  | 0, d, b => ([], if b = [] then 0 else (hd b d).2.2.2)
  | n + 1, d, b => decS d (decN n (d + 1)) b

/-- What a good head says. -/
theorem rl_ok {b : List Int} (h : (rl b).2.2 = 0) : 2 ≤ (rl b).1 := by
  unfold rl at h ⊢
  split at h
  · rename_i x0 x1 r
    split at h
    · rename_i h1; simp [h1]
    · rename_i h1
      split at h
      · rename_i h2
        subst h2
        split at h
        · rename_i x2 r
          split at h
          · simp at h
          · rename_i h3; simp [h3]
        · simp at h
      · rename_i h2
        split at h
        · rename_i h3
          subst h3
          split at h
          · rename_i x2 x3 r
            split at h
            · simp at h
            · rename_i h4; simp [h4]
          · simp at h
        · simp at h
  · simp at h
theorem hd_ok {b : List Int} {d : Int} (hb : b ≠ []) (h : (hd b d).2.2.2 = 0) :
    2 ≤ (hd b d).2.1 ∧ (hd b d).2.1 + (hd b d).2.2.1 ≤ b.length ∧ d ≤ 6 ∧ tagB (hd b d).1 = true ∧ b.head? = some (hd b d).1 ∧ (hd b d).2.1 = (rl b).1 ∧ (hd b d).2.2.1 = (rl b).2.1 ∧ (rl b).2.2 = 0 := by
  match b, hb with
  | t :: r, _ =>
    unfold hd at h ⊢
    simp only at h ⊢
    split at h
    · simp at h
    rename_i h1
    split at h
    · simp at h
    rename_i h2
    split at h
    · rename_i h3; exact absurd h h3
    rename_i h3
    split at h
    · simp at h
    rename_i h4
    rw [if_neg h1, if_neg h2, if_neg h3, if_neg h4]
    have h5 : (rl (t :: r)).2.2 = 0 := Classical.not_not.1 h3
    exact ⟨rl_ok h5, by simp only; omega, by omega, by simpa using h1, rfl, rfl, rfl, h5⟩
theorem decF_fuel {α : Type} (d : Int) (kid : List Int → List α × Int) : ∀ (f g : Nat) (b : List Int), b.length ≤ f → b.length ≤ g → decF d kid f b = decF d kid g b
  | 0, 0, _, _, _ => rfl
  | 0, g + 1, b, h, _ => by
    have : b = [] := List.eq_nil_of_length_eq_zero (by omega)
    subst this
    simp [decF]
  | f + 1, 0, b, _, h => by
    have : b = [] := List.eq_nil_of_length_eq_zero (by omega)
    subst this
    simp [decF]
  | f + 1, g + 1, b, hf, hg => by
    unfold decF
    by_cases h0 : b = []
    · rw [if_pos h0, if_pos h0]
    by_cases h1 : (hd b d).2.2.2 = 0
    · have h2 := hd_ok h0 h1
      have h3 := decF_fuel d kid f g (b.drop ((hd b d).2.1 + (hd b d).2.2.1)) (by simp; omega) (by simp; omega)
      rw [h3]
    · rw [if_neg h0, if_neg h0, if_pos h1, if_pos h1]

/-- A result behind nodes that are there already. -/
def runD {α : Type} (acc : List α) (z : List α × Int) : List α × Int := if z.2 ≠ 0 then ([], z.2) else (acc ++ z.1, 0)
theorem runD_nil {α : Type} (d : Int) (kid : List Int → List α × Int) (acc : List (NodeOf α)) : runD acc (decS d kid []) = (acc, 0) := by simp [runD, decS, decF]
theorem runD_zero {α : Type} (d : Int) (kid : List Int → List α × Int) (b : List Int) : runD [] (decS d kid b) = decS d kid b := by
  have key : ∀ f b, (decF d kid f b).2 ≠ 0 → (decF d kid f b).1 = [] := by
    intro f b h
    cases f with
    | zero => rfl
    | succ f =>
      unfold decF at h ⊢
      split
      · rfl
      rename_i h0; rw [if_neg h0] at h
      split
      · rfl
      rename_i h1; rw [if_neg h1] at h
      split
      · rfl
      rename_i h2; rw [if_neg h2] at h
      split
      · rfl
      rename_i h3; rw [if_neg h3] at h
      simp at h
  unfold runD decS
  split
  · rename_i h; exact Prod.ext (key _ _ h).symm rfl
  · rename_i h; exact Prod.ext (by simp) (by simpa using (Classical.not_not.1 h).symm)
theorem decS_step {α : Type} (d : Int) (kid : List Int → List α × Int) {b : List Int} (hb : b ≠ []) (h : (hd b d).2.2.2 = 0) (h2 : nestB (hd b d).1 = true → (kid ((b.drop (hd b d).2.1).take (hd b d).2.2.1)).2 = 0) (acc : List (NodeOf α)) :
    runD acc (decS d kid b) = runD (acc ++ [((hd b d).1, if nestB (hd b d).1 = true then ([], (kid ((b.drop (hd b d).2.1).take (hd b d).2.2.1)).1) else ((b.drop (hd b d).2.1).take (hd b d).2.2.1, []))]) (decS d kid (b.drop ((hd b d).2.1 + (hd b d).2.2.1))) := by
  have hl : ∃ f, b.length = f + 1 := ⟨b.length - 1, by have := List.length_pos_iff.2 hb; omega⟩
  obtain ⟨f, hf⟩ := hl
  have hk := hd_ok hb h
  have e : decS d kid (b.drop ((hd b d).2.1 + (hd b d).2.2.1)) = decF d kid f (b.drop ((hd b d).2.1 + (hd b d).2.2.1)) := decF_fuel d kid _ _ _ (Nat.le_refl _) (by simp; omega)
  rw [e]
  unfold decS
  rw [hf]
  conv => lhs; unfold decF
  rw [if_neg hb, if_neg (by simpa using h), if_neg (fun hh => hh.2 (h2 hh.1))]
  unfold runD
  by_cases h3 : (decF d kid f (b.drop ((hd b d).2.1 + (hd b d).2.2.1))).2 ≠ 0
  · rw [if_pos h3, if_pos h3, if_pos h3]
  · rw [if_neg h3, if_neg h3]
    simp
theorem decS_bad {α : Type} (d : Int) (kid : List Int → List α × Int) {b : List Int} (hb : b ≠ []) (h : (hd b d).2.2.2 ≠ 0) (acc : List (NodeOf α)) :
    runD acc (decS d kid b) = ([], (hd b d).2.2.2) := by
  obtain ⟨f, hf⟩ : ∃ f, b.length = f + 1 := ⟨b.length - 1, by have := List.length_pos_iff.2 hb; omega⟩
  unfold decS
  rw [hf]
  unfold decF
  rw [if_neg hb, if_pos h]
  unfold runD
  rw [if_pos h]
theorem decS_kid {α : Type} (d : Int) (kid : List Int → List α × Int) {b : List Int} (hb : b ≠ []) (h : (hd b d).2.2.2 = 0) (hn : nestB (hd b d).1 = true) (h2 : (kid ((b.drop (hd b d).2.1).take (hd b d).2.2.1)).2 ≠ 0) (acc : List (NodeOf α)) :
    runD acc (decS d kid b) = ([], (kid ((b.drop (hd b d).2.1).take (hd b d).2.2.1)).2) := by
  obtain ⟨f, hf⟩ : ∃ f, b.length = f + 1 := ⟨b.length - 1, by have := List.length_pos_iff.2 hb; omega⟩
  unfold decS
  rw [hf]
  unfold decF
  rw [if_neg hb, if_neg (by simpa using h), if_pos ⟨hn, h2⟩]
  unfold runD
  rw [if_pos h2]

/-! ### Parts of a byte slice -/
theorem RB.sub {V : Nat → Prop} {w : World} {b off m c : Nat} {bs : List Int} (h : RB V w (.slice (some ⟨b, off, none⟩) m c) bs) (f n c' : Nat) (hf : f + n ≤ bs.length) (hc : n ≤ c') (hm : c' ≤ maxLen) :
    RB V w (.slice (some ⟨b, off + f, none⟩) n c') ((bs.drop f).take n) := by
  have hl : ((bs.drop f).take n).length = n := by simp; omega
  refine ⟨(h.byt.drop f).take n, some ⟨b, off + f, none⟩, c', by rw [hl], by omega, hm, fun hne => ?_⟩
  have h0 : 0 < bs.length := by
    have := List.length_pos_iff.2 hne
    omega
  obtain ⟨b1, off1, c1, hv, _, _, hV, hcell⟩ := h.at_ h0
  simp only [Value.slice.injEq, Option.some.injEq, Addr.mk.injEq] at hv
  obtain ⟨⟨rfl, rfl, -⟩, -, -⟩ := hv
  refine ⟨b, off + f, rfl, hV, fun j hj => ?_⟩
  have hj2 : j < n := by omega
  have := hcell (f + j) (by omega)
  rw [show off + f + j = off + (f + j) by omega, this]
  simp

/-- It returns nodes and an error; the nodes lie in new blocks. -/
def RetKE {α : Type} (R : Rk α) (w : World) (z : List α × Int) (e : Ending) (w' : World) : Prop :=
  ∃ a c, e = .returned (.tuple #[.slice a z.1.length c, .int .i64 z.2]) ∧ Ext w w' ∧ ∀ V : Nat → Prop, (∀ k, V k → k < w.heap.size) → R.rk V w' (.slice a z.1.length c) z.1
theorem RetKE.nil {α : Type} (R : Rk (NodeOf α)) (hR : ∀ V w, R.rk V w (.slice none 0 0) []) {w w' : World} (er : Int) (h : Ext w w') : RetKE R w ([], er) (.returned (.tuple #[.slice none 0 0, .int .i64 er])) w' := ⟨none, 0, rfl, h, fun V _ => hR V w'⟩

@[local go_sem] theorem eql_nil (w : World) (a : Option Addr) (n c : Nat) : (binOp .eql 25 (.slice a n c) (.slice none 0 0)).run Try.prog w = .ok (.bool a.isNone) w := Lib.run_eql_slice_nil w _ _ a n c 0 0 Try.underlying25
set_option maxRecDepth 100000 in
set_option maxHeartbeats 2000000 in
theorem clone_any {V : Nat → Prop} (bs : List Int) (v : Value) (w : World) (h : RB V w v bs) (hl : bs.length ≤ 1000000000) : Calls Try.prog 84 #[v] w (RetB w bs) := by
  obtain ⟨i0, hi0, hz0, hz1, hz2⟩ := info_parts info_byte
  obtain ⟨a, c, rfl, hc1, hc2⟩ := h.form
  cases a with
  | none =>
    have hb : bs = [] := by
      cases bs with
      | nil => rfl
      | cons x r =>
        obtain ⟨b, off, c', hv, _⟩ := h.at_ (by simp)
        simp at hv
    subst hb
    clear hc1 hc2 hl
    go_enter Try.func84, Try.ntmps84
    go_wp2
    go_ret
    exact ⟨none, 0, rfl, Ext.refl _, fun V _ => RB.nil V _⟩
  | some a =>
    have HSRC := Lib.hid (Src.bytes (h.ext ((Ext.refl w).alloc (.cells #[] 5))))
    have HBY := Lib.hid h.byt
    have HL0 := Lib.hid (World.ownsRow_lit (base := w.heap.size) (e := 5) (size := 1) w #[] 0 (Nat.le_refl _) (by unfold maxLen; omega) rfl)
    have HO : Hid (∀ (w1 : World) (A1 : Option Addr) (c1 : Nat), w1.ownsRow w.heap.size 5 1 (.slice A1 bs.length c1) bs.length (bs.map (Value.int .u8)) → Ext w w1 → RetB w bs (.returned (.slice A1 bs.length c1)) w1) := fun w1 A1 c1 ho he => ⟨A1, c1, rfl, he, fun V hV => RB.of_own ho HBY.out hV⟩
    generalize hm : bs.map (Value.int .u8) = ms at *
    generalize hn : bs.length = n at *
    clear h hm hn hc1 hc2 HBY
    go_enter Try.func84, Try.ntmps84
    go_wp2_with (at_builtin; refine wpList_append_src _ rfl (.tmp 5) (.tmp 6) _ rfl w.heap.size 5 i0 _ 1 1 Try.underlying25 hi0 hz0 hz1 hz2 rfl (by omega) _ 0 [] rfl HL0.out _ n c _ rfl HSRC.out (by unfold maxLen; omega) (by omega) (by simp) ?_; intro A1 c1 w1 hown1 hg1 hat1; have hE1 : Ext w w1 := ((Ext.refl w).alloc _).grown hg1 (fun g hg => (HL0.out.lt g hg).1); simp only [Nat.zero_add, List.nil_append] at hown1 hat1)
    go_ret
    exact HO.out w1 A1 c1 hown1 hE1
end Go.Proofs.Ytjaofbfppnmdjaa
