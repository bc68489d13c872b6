/- The messages of a publisher with constant values: the plain law of PublisherOverlap. -/
import Derived.Test.YtopmhaebjpmbfaaPubK
import Derived.Test.YtopmhaebjpmbfaaPubM
import Derived.Test.YtopmhaebjpmbfaaInp
import Derived.Test.YtopmhaebjpmbfaaRow2
namespace Go.Proofs.Ytopmhaebjpmbfaa
open Go.RowKit
attribute [local go_sem ↓] Go.wp_at_zero Go.wp_at_succ

/-- The messages so far, each by its step and its gap. -/
structure Orel (k : Nat) (s : PSt) (pl : List (Int × Int)) : Prop where
  good : Good 7 9 k s
  zero : k = 0 → pl = [] ∧ s.started = false
  on : 1 ≤ k → s.started = true ∧ s.vals = valsOf 0 ∧ ∃ (i : Nat) (a : Int), pl.length = i + 1 ∧ pl[i]? = some (a, s.gap) ∧ a + s.since + 1 = k
  step : ∀ (i : Nat) (a g b h : Int), pl[i]? = some (a, g) → pl[i + 1]? = some (b, h) → b = a + g ∧ h ≤ 2 * g
  pos : ∀ (i : Nat) (a g : Int), pl[i]? = some (a, g) → 1 ≤ g ∧ g ≤ 1000 ∧ 0 ≤ a ∧ a < k
  first : ∀ (a g : Int), pl[0]? = some (a, g) → a = 0
  len : pl.length ≤ k
theorem get_snoc {α : Type} {l : List α} {x y : α} {i : Nat} (h : (l ++ [x])[i]? = some y) : l[i]? = some y ∨ (i = l.length ∧ y = x) := by
  rcases Nat.lt_or_ge i l.length with hi | hi
  · rw [List.getElem?_append_left hi] at h
    exact .inl h
  · rw [List.getElem?_append_right hi] at h
    have hi2 : i - l.length = 0 := by
      rcases Nat.eq_zero_or_pos (i - l.length) with h0 | h0
      · exact h0
      · rw [List.getElem?_eq_none (by simp; omega)] at h; cases h
    rw [hi2] at h
    simp only [List.getElem?_cons_zero, Option.some.injEq] at h
    exact .inr ⟨by omega, h.symm⟩
/-- One message more. -/
theorem Orel.snoc {k : Nat} {s s' : PSt} {pl : List (Int × Int)} (h : Orel k s pl) (hg : Good 7 9 (k + 1 : Nat) s') (hs : s'.started = true) (hv : s'.vals = valsOf 0) (hz : s'.since = 0)
    (hst : ∀ (i : Nat) (a g : Int), pl.length = i + 1 → pl[i]? = some (a, g) → (k : Int) = a + g ∧ s'.gap ≤ 2 * g) (hk : (k : Int) ≤ 2500) (h0 : pl = [] → k = 0) : Orel (k + 1) s' (pl ++ [((k : Int), s'.gap)]) := by
  have hon := hg.on hs
  have f3 := hg.f3
  refine ⟨hg, fun h => by omega, fun _ => ⟨hs, hv, pl.length, k, by simp, by simp, by rw [hz]; simp⟩, ?_, ?_, ?_, ?_⟩
  · intro i a g b q h1 h2
    rcases get_snoc h1 with h1 | ⟨h1, _⟩
    · rcases get_snoc h2 with h2 | ⟨h3, e2⟩
      · exact h.step i a g b q h1 h2
      · simp only [Prod.mk.injEq] at e2
        obtain ⟨rfl, rfl⟩ := e2
        exact hst i a g h3.symm h1
    · have := get_lt h2
      simp at this
      omega
  · intro i a g h1
    rcases get_snoc h1 with h1 | ⟨h1, e1⟩
    · have := h.pos i a g h1; omega
    · simp only [Prod.mk.injEq] at e1
      obtain ⟨rfl, rfl⟩ := e1
      omega
  · intro a g h1
    rcases get_snoc h1 with h1 | ⟨h3, e1⟩
    · exact h.first a g h1
    · simp only [Prod.mk.injEq] at e1
      obtain ⟨rfl, rfl⟩ := e1
      have := h0 (List.eq_nil_of_length_eq_zero h3.symm)
      omega
  · have := h.len; simp; omega
theorem ov_step {k : Nat} {s s' : PSt} {pl : List (Int × Int)} {ms : List Msg} (hk : k ≤ 2500) (h : Orel k s pl) (hs : stepS s (valsOf 0) 0 0 0 = (s', ms)) :
    (ms = [] ∧ Orel (k + 1) s' pl) ∨ ∃ m1 m3 m4 m5 m6 m7 m8 m9 l g, ms = [⟨m1, 3 * g + 1, m3, m4, m5, m6, m7, m8, m9, l⟩] ∧ 1 ≤ g ∧ g ≤ 1000 ∧ Orel (k + 1) s' (pl ++ [((k : Int), g)]) := by
  obtain ⟨ve, vl⟩ := vals_ok 0
  have hG := h.good
  by_cases hd1 : dueS s (valsOf 0) = 1
  · obtain ⟨e1, hG1⟩ := step_change (a := 0) (b := 0) (c := 0) (l := valsOf 0) (by omega) (by omega) (by omega) hG (by rfl) ve vl hd1
    have hk0 : k = 0 := by
      rcases Nat.eq_zero_or_pos k with h0 | h0
      · exact h0
      · obtain ⟨h1, h2, _⟩ := h.on h0
        rcases due_change hd1 with h3 | h3
        · rw [h1] at h3; cases h3
        · exact absurd h2.symm h3
    rw [hs] at e1
    simp only [Prod.mk.injEq] at e1
    obtain ⟨rfl, rfl⟩ := e1
    have f1 := hG.f1
    have f2 := hG.f2
    have f3 := hG.f3
    refine .inr ⟨_, _, _, _, _, _, _, _, _, _, rfl, f1, by omega, ?_⟩
    exact h.snoc (by simpa using hG1) rfl rfl rfl (fun i a g h1 h2 => by rw [(h.zero hk0).1] at h1; simp at h1) (by omega) (fun _ => hk0)
  · obtain ⟨hon, hvv⟩ := due_other hd1
    have hk1 : 1 ≤ k := by
      rcases Nat.eq_zero_or_pos k with h0 | h0
      · rw [(h.zero h0).2] at hon; cases hon
      · exact h0
    obtain ⟨_, hv, i0, a0, hl0, hg0, ha0⟩ := h.on hk1
    have hd := due_two hon hvv
    by_cases hdue : s.since + 1 = s.gap
    · rw [if_pos hdue] at hd
      obtain ⟨e1, hG1⟩ := step_repeat (a := 0) (b := 0) (c := 0) (by omega) (by omega) (by omega) hG hd
      rw [hs] at e1
      simp only [Prod.mk.injEq] at e1
      obtain ⟨rfl, rfl⟩ := e1
      have hb := hG1.on hon
      have hb3 := hG1.f3
      simp only at hb hb3
      refine .inr ⟨_, _, _, _, _, _, _, _, _, _, rfl, by omega, by omega, ?_⟩
      refine h.snoc (by simpa using hG1) hon hv rfl (fun i a g h1 h2 => ?_) (by omega) (fun h0 => by rw [h0] at hl0; simp at hl0)
      obtain rfl : i = i0 := by omega
      rw [hg0] at h2
      simp only [Option.some.injEq, Prod.mk.injEq] at h2
      obtain ⟨rfl, rfl⟩ := h2
      simp only
      omega
    · rw [if_neg hdue] at hd
      obtain ⟨e1, hG1⟩ := step_still (a := 0) (b := 0) (c := 0) hG hd
      rw [hs] at e1
      simp only [Prod.mk.injEq] at e1
      obtain ⟨rfl, rfl⟩ := e1
      refine .inl ⟨rfl, ⟨by simpa using hG1, fun h => by omega, fun _ => ⟨hon, hv, i0, a0, hl0, hg0, by simp only; omega⟩, h.step, fun i a g h1 => by have := h.pos i a g h1; omega, h.first, by have := h.len; omega⟩⟩
/-- What the law asks of the messages. -/
theorem Orel.fine {k : Nat} {s : PSt} {pl : List (Int × Int)} (h : Orel k s pl) {i : Nat} {a g b q : Int} (h1 : pl[i]? = some (a, g)) (h2 : pl[i + 1]? = some (b, q)) :
    b < a + (3 * g + 1) ∧ ∀ (c r : Int), pl[i + 2]? = some (c, r) → c < a + (3 * g + 1) := by
  have p1 := h.pos _ _ _ h1
  have p2 := h.step _ _ _ _ _ h1 h2
  refine ⟨by omega, fun c r h3 => ?_⟩
  have p3 := h.step _ _ _ _ _ h2 h3
  omega
def atC (pl : List (Int × Int)) : List Value := pl.map fun x => .int .i64 x.1
def ttC (pl : List (Int × Int)) : List Value := pl.map fun x => .int .i64 (3 * x.2 + 1)
theorem atC_snoc (pl : List (Int × Int)) (a g : Int) : atC (pl ++ [(a, g)]) = atC pl ++ [.int .i64 a] := by simp [atC]
theorem ttC_snoc (pl : List (Int × Int)) (a g : Int) : ttC (pl ++ [(a, g)]) = ttC pl ++ [.int .i64 (3 * g + 1)] := by simp [ttC]
theorem info_int : (Try.prog.info? 3).map (fun i => (i.zero, i.size, i.bytes)) = some (some (.int .i64 0), 1, 8) := by kernel_rfl
/-- The cell of element i of a row of numbers. -/
theorem own_get {w : World} {base : Nat} {e : TypeId} {v : Value} {n : Nat} {xs : List Value} (h : w.ownsRow base e 1 v n xs) {i : Nat} {x : Value} (hx : xs[i]? = some x) : ∃ g c, v = .slice (some ⟨g, 0, none⟩) n c ∧ n ≤ c ∧ w.cell? ⟨g, i, none⟩ = some x := by
  have hi := get_lt hx
  have h0 := h.1
  rcases h.2 with ⟨rfl, hn⟩ | ⟨g, cap, cur, rfl, _, _, hc, _⟩
  · omega
  · refine ⟨g, cap, rfl, hc, ?_⟩
    rw [h.cellAt i (by omega)]
    exact hx
end Go.Proofs.Ytopmhaebjpmbfaa
