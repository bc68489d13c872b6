/- Arguments opened: a byte slice that can be read as data is one that reads as a list of bytes; what its bulk says of its length. -/
import Derived.Test.YtjaofbfppnmdjaaRows
import Derived.Test.YtjaofbfppnmdjaaBase
import Derived.ProofKit
import Derived.OpenShut
import Derived.JoinedCond
namespace Go.Proofs.Ytjaofbfppnmdjaa
open Go.RowKit Go.ChangeShapes Go.WideShapes

theorem bulk_pos {H : Type} (d : DataW H) : 1 ≤ Rows.uptoBulk d := by
  cases d with
  | lit l => cases l <;> simp [Rows.uptoBulk]
  | _ => simp [Rows.uptoBulk]
theorem bulkAll_len {H : Type} (l : List (DataW H)) : l.length ≤ Rows.uptoBulkAll l := by
  induction l with
  | nil => simp
  | cons x r ih => have := bulk_pos x; simp only [Rows.uptoBulkAll, List.length_cons]; omega
theorem spot_none {w : World} {a : Addr} {i : Nat} {v : Value} (h : w.cell? (a.add i) = some v) (hi : i = 0) : a = ⟨a.block, a.off, none⟩ := by
  subst hi
  obtain ⟨b, o, s⟩ := a
  have hs := World.cell?_spot h
  simp [Addr.add] at hs
  rw [hs]

section
variable {H : Type} {enc : TypeId × Value → H} {P : Program} {w : World} {base : Nat} {spare : Nat → Bool} {held : Bool}
theorem rb_of {t e : TypeId} {fuel : Nat} {v : Value} {x : DataW H × List MemPlace} (ht : P.underlying t = some (.slice e)) (he : P.underlying e = some (.int .u8)) (hc : P.cellsOf e = 1)
    (h : DataW.trod enc P w base spare held fuel t [v] = some x) : ∃ bs : List Int, RB Any w v bs ∧ bs.length + 1 ≤ Rows.uptoBulk x.1 := by
  rcases open_ints ht he hc h with ⟨hcs, rfl⟩ | ⟨a, len, cap, zs, hcs, _, hl, hm, hz, rfl, hcell, hwz⟩
  · injection hcs with hcs
    subst hcs
    exact ⟨[], RB.nil _ _, by simp [Rows.uptoBulk]⟩
  · injection hcs with hcs
    subst hcs
    have hlz : len ≤ zs.length := by rw [hz]; split <;> omega
    have hlen : (zs.take len).length = len := by simp; omega
    refine ⟨zs.take len, ⟨?_, some a, cap, by rw [hlen], by omega, hm, fun hne => ?_⟩, ?_⟩
    · intro y hy
      have := hwz y (List.mem_of_mem_take hy)
      simpa [Lit.wf, IntKind.min, IntKind.max, IntKind.signed, IntKind.bits] using this
    · have h0 : 0 < len := by
        rcases Nat.eq_zero_or_pos len with h | h
        · subst h; simp at hne
        · exact h
      have hs := spot_none (hcell 0 (by omega)) rfl
      refine ⟨a.block, a.off, by rw [← hs], fun h => h, fun j hj => ?_⟩
      have hj2 : j < len := by omega
      have := hcell j (by omega)
      rw [hs] at this
      simp only [List.getElem_take]
      rw [Addr.add_lit] at this
      rw [this]
      simp [List.getD, List.getElem?_eq_getElem (show j < zs.length by omega)]
    · have h1 := bulkAll_len (lits (H := H) .u8 (zs.take len))
      simp only [Rows.uptoBulk]
      have h2 : (lits (H := H) .u8 (zs.take len)).length = (zs.take len).length := by simp [lits]
      omega
end
end Go.Proofs.Ytjaofbfppnmdjaa
