/- Arguments opened: a byte slice that can be read as data is one that reads as a list of bytes; what its bulk says of its length. -/
import Derived.Test.YtimnepfdpehdmaaRows
import Derived.Test.YtimnepfdpehdmaaTA
import Derived.ProofKit
import Derived.OpenShut
import Derived.JoinedCond
import Derived.Test.YtimnepfdpehdmaaChecked
namespace Go.Proofs.Ytimnepfdpehdmaa
open Go.RowKit Go.ChangeShapes Go.WideShapes

theorem bulk_pos {H : Type} (d : DataW H) : 1 ≤ Rows.uptoBulk d := by
  cases d with
  | lit l => cases l <;> simp [Rows.uptoBulk]
  | _ => simp [Rows.uptoBulk]
theorem bulkAll_len {H : Type} (l : List (DataW H)) : l.length ≤ Rows.uptoBulkAll l := by
  induction l with
  | nil => simp
  | cons x r ih => have := bulk_pos x; simp only [Rows.uptoBulkAll, List.length_cons]; omega
theorem spot_none {w : World} {a : Addr} {i : Nat} {v : Value} (h : w.cell? (a.add i) = some v) (hi : i = 0) : a = ⟨a.block, a.off, none⟩ := by
  subst hi
  obtain ⟨b, o, s⟩ := a
  have hs := World.cell?_spot h
  simp [Addr.add] at hs
  rw [hs]

section
variable {H : Type} {enc : TypeId × Value → H} {P : Program} {w : World} {base : Nat} {spare : Nat → Bool} {held : Bool}
theorem rb_of {t e : TypeId} {fuel : Nat} {v : Value} {x : DataW H × List MemPlace} (ht : P.underlying t = some (.slice e)) (he : P.underlying e = some (.int .u8)) (hc : P.cellsOf e = 1)
    (h : DataW.trod enc P w base spare held fuel t [v] = some x) : ∃ bs : List Int, RB Any w v bs ∧ bs.length + 1 ≤ Rows.uptoBulk x.1 := by
  rcases open_ints ht he hc h with ⟨hcs, rfl⟩ | ⟨a, len, cap, zs, hcs, _, hl, hm, hz, rfl, hcell, hwz⟩
  · injection hcs with hcs
    subst hcs
    exact ⟨[], RB.nil _ _, by simp [Rows.uptoBulk]⟩
  · injection hcs with hcs
    subst hcs
    have hlz : len ≤ zs.length := by rw [hz]; split <;> omega
    have hlen : (zs.take len).length = len := by simp; omega
    refine ⟨zs.take len, ⟨?_, some a, cap, by rw [hlen], by omega, hm, fun hne => ?_⟩, ?_⟩
    · intro y hy
      have := hwz y (List.mem_of_mem_take hy)
      simpa [Lit.wf, IntKind.min, IntKind.max, IntKind.signed, IntKind.bits] using this
    · have h0 : 0 < len := by
        rcases Nat.eq_zero_or_pos len with h | h
        · subst h; simp at hne
        · exact h
      have hs := spot_none (hcell 0 (by omega)) rfl
      refine ⟨a.block, a.off, by rw [← hs], fun h => h, fun j hj => ?_⟩
      have hj2 : j < len := by omega
      have := hcell j (by omega)
      rw [hs] at this
      simp only [List.getElem_take]
      rw [Addr.add_lit] at this
      rw [this]
      simp [List.getD, List.getElem?_eq_getElem (show j < zs.length by omega)]
    · have h1 := bulkAll_len (lits (H := H) .u8 (zs.take len))
      simp only [Rows.uptoBulk]
      have h2 : (lits (H := H) .u8 (zs.take len)).length = (zs.take len).length := by simp [lits]
      omega
end
end Go.Proofs.Ytimnepfdpehdmaa

namespace Go.Proofs.Ytimnepfdpehdmaa
open Go.RowKit Go.ChangeShapes Go.WideShapes

theorem list_chooseF {α : Type} {len : Nat} {P : Nat → α → Prop} (h : ∀ i, i < len → ∃ z, P i z) : ∃ L : List α, L.length = len ∧ ∀ i (hi : i < L.length), P i L[i] := by
  refine ⟨List.ofFn fun i : Fin len => (h i.1 i.2).choose, by simp, fun i hi => ?_⟩
  simp only [List.getElem_ofFn]
  exact (h i (by simpa using hi)).choose_spec
section
variable {H : Type} {enc : TypeId × Value → H} {P : Program} {w : World} {base : Nat} {spare : Nat → Bool} {held : Bool}
theorem rf_of {α : Type} {t e : TypeId} {k : Nat} {en : α → List Value} {ok : α → Prop} {fuel : Nat} {v : Value} {x : DataW H × List MemPlace} (ht : P.underlying t = some (.slice e)) (hc : P.cellsOf e = k) (hk : 0 < k)
    (hel : ∀ fuel cs x, DataW.trod enc P w base spare held fuel e cs = some x → ∃ z : α, cs = en z ∧ (en z).length = k ∧ ok z)
    (h : DataW.trod enc P w base spare held fuel t [v] = some x) : ∃ l : List α, RF Any k en w v l ∧ l.length + 1 ≤ Rows.uptoBulk x.1 ∧ ∀ z ∈ l, ok z := by
  rcases DataW.trod_slice ht h with ⟨hcs, rfl⟩ | ⟨a, len, cap, elems, rest, m, hm, hcs, rfl, hb, hl, hmx, hlen, hel2, hsp, hns⟩
  · injection hcs with hcs
    subst hcs
    exact ⟨[], RF.nil _ _ _ _, by simp [Rows.uptoBulk], fun _ h => (by cases h)⟩
  · injection hcs with hcs
    subst hcs
    obtain ⟨L, hL, hp⟩ := list_chooseF (α := α) (len := len) (P := fun i z => ok z ∧ (en z).length = k ∧ (∀ j, j < k → w.cell? ((a.add (i * k)).add j) = (en z)[j]?)) (fun i hi => by
      have h1 := hel2 i hi
      rw [List.getElem?_eq_getElem (show i < elems.length by omega)] at h1
      obtain ⟨cs, hcc, htr⟩ := Option.bind_eq_some_iff.1 h1
      rw [hc] at hcc
      obtain ⟨_, _, hcell⟩ := World.cells?_some hcc
      obtain ⟨z, rfl, hz2, hz3⟩ := hel _ _ _ htr
      exact ⟨z, hz3, hz2, hcell⟩)
    refine ⟨L, ⟨some a, cap, by rw [hL], by omega, hmx, fun hne => ?_⟩, ?_, fun z hz => ?_⟩
    · have h0 : 0 < L.length := List.length_pos_iff.2 hne
      obtain ⟨_, hl0, hcell0⟩ := hp 0 h0
      have hc0 := hcell0 0 hk
      rw [List.getElem?_eq_getElem (show 0 < (en L[0]).length by omega)] at hc0
      have hs := spot_none (a := a) (i := 0) (v := (en L[0])[0]'(by omega)) (by simpa [Addr.add] using hc0) rfl
      refine ⟨a.block, a.off, by rw [← hs], fun h => h, fun i hi => ?_⟩
      obtain ⟨_, hl1, hcell⟩ := hp i hi
      refine ⟨en L[i], hl1, rfl, fun j u hu => ?_⟩
      have hj : j < (en L[i]).length := by
        rcases Nat.lt_or_ge j (en L[i]).length with h | h
        · exact h
        · rw [List.getElem?_eq_none h] at hu; cases hu
      have := hcell j (by omega)
      rw [hs, Addr.add_lit, Addr.add_lit, hu] at this
      exact this
    · have h1 := bulkAll_len (elems.map (·.1))
      simp only [Rows.uptoBulk]
      simp only [List.length_map] at h1
      omega
    · obtain ⟨i, hi, rfl⟩ := List.getElem_of_mem hz
      exact (hp i hi).1
end
end Go.Proofs.Ytimnepfdpehdmaa

namespace Go.Proofs.Ytimnepfdpehdmaa
open Go.RowKit Go.ChangeShapes Go.WideShapes
def boolE (b : Bool) : List Value := [.bool b]
theorem bool_el {H : Type} {enc : TypeId × Value → H} {w : World} {base : Nat} {spare : Nat → Bool} {held : Bool} {fuel : Nat} {cs : List Value} {x : DataW H × List MemPlace}
    (h : DataW.trod enc Try.prog w base spare held fuel 4 cs = some x) : ∃ z : Bool, cs = boolE z ∧ (boolE z).length = 1 ∧ True := by
  obtain ⟨b, rfl, _⟩ := DataW.trod_bool Try.underlying4 h
  exact ⟨b, rfl, rfl, trivial⟩
end Go.Proofs.Ytimnepfdpehdmaa
