/- Arguments opened: a slice of plain structs that can be read as data. -/
import Derived.Test.YtjaofbfppnmdjaaOpen
import Derived.Test.YtjaofbfppnmdjaaFlat
namespace Go.Proofs.Ytjaofbfppnmdjaa
open Go.RowKit Go.ChangeShapes Go.WideShapes

theorem list_chooseF {α : Type} {len : Nat} {P : Nat → α → Prop} (h : ∀ i, i < len → ∃ z, P i z) : ∃ L : List α, L.length = len ∧ ∀ i (hi : i < L.length), P i L[i] := by
  refine ⟨List.ofFn fun i : Fin len => (h i.1 i.2).choose, by simp, fun i hi => ?_⟩
  simp only [List.getElem_ofFn]
  exact (h i (by simpa using hi)).choose_spec
section
variable {H : Type} {enc : TypeId × Value → H} {P : Program} {w : World} {base : Nat} {spare : Nat → Bool} {held : Bool}
theorem rf_of {α : Type} {t e : TypeId} {k : Nat} {en : α → List Value} {ok : α → Prop} {fuel : Nat} {v : Value} {x : DataW H × List MemPlace} (ht : P.underlying t = some (.slice e)) (hc : P.cellsOf e = k) (hk : 0 < k)
    (hel : ∀ fuel cs x, DataW.trod enc P w base spare held fuel e cs = some x → ∃ z : α, cs = en z ∧ (en z).length = k ∧ ok z)
    (h : DataW.trod enc P w base spare held fuel t [v] = some x) : ∃ l : List α, RF Any k en w v l ∧ l.length + 1 ≤ Rows.uptoBulk x.1 ∧ ∀ z ∈ l, ok z := by
  rcases DataW.trod_slice ht h with ⟨hcs, rfl⟩ | ⟨a, len, cap, elems, rest, m, hm, hcs, rfl, hb, hl, hmx, hlen, hel2, hsp, hns⟩
  · injection hcs with hcs
    subst hcs
    exact ⟨[], RF.nil _ _ _ _, by simp [Rows.uptoBulk], fun _ h => (by cases h)⟩
  · injection hcs with hcs
    subst hcs
    obtain ⟨L, hL, hp⟩ := list_chooseF (α := α) (len := len) (P := fun i z => ok z ∧ (en z).length = k ∧ (∀ j, j < k → w.cell? ((a.add (i * k)).add j) = (en z)[j]?)) (fun i hi => by
      have h1 := hel2 i hi
      rw [List.getElem?_eq_getElem (show i < elems.length by omega)] at h1
      obtain ⟨cs, hcc, htr⟩ := Option.bind_eq_some_iff.1 h1
      rw [hc] at hcc
      obtain ⟨_, _, hcell⟩ := World.cells?_some hcc
      obtain ⟨z, rfl, hz2, hz3⟩ := hel _ _ _ htr
      exact ⟨z, hz3, hz2, hcell⟩)
    refine ⟨L, ⟨some a, cap, by rw [hL], by omega, hmx, fun hne => ?_⟩, ?_, fun z hz => ?_⟩
    · have h0 : 0 < L.length := List.length_pos_iff.2 hne
      obtain ⟨_, hl0, hcell0⟩ := hp 0 h0
      have hc0 := hcell0 0 hk
      rw [List.getElem?_eq_getElem (show 0 < (en L[0]).length by omega)] at hc0
      have hs := spot_none (a := a) (i := 0) (v := (en L[0])[0]'(by omega)) (by simpa [Addr.add] using hc0) rfl
      refine ⟨a.block, a.off, by rw [← hs], fun h => h, fun i hi => ?_⟩
      obtain ⟨_, hl1, hcell⟩ := hp i hi
      refine ⟨en L[i], hl1, rfl, fun j u hu => ?_⟩
      have hj : j < (en L[i]).length := by
        rcases Nat.lt_or_ge j (en L[i]).length with h | h
        · exact h
        · rw [List.getElem?_eq_none h] at hu; cases hu
      have := hcell j (by omega)
      rw [hs, Addr.add_lit, Addr.add_lit, hu] at this
      exact this
    · have h1 := bulkAll_len (elems.map (·.1))
      simp only [Rows.uptoBulk]
      simp only [List.length_map] at h1
      omega
    · obtain ⟨i, hi, rfl⟩ := List.getElem_of_mem hz
      exact (hp i hi).1
end
end Go.Proofs.Ytjaofbfppnmdjaa
