/- A variable's block as a whole, and what stores do to it. Nothing of the program stands here. -/
import Derived.Test.YtjaofbfppnmdjaaFlat
import Derived.Laws.Tables
import Derived.Laws.Rows
namespace Go.Proofs.Ytjaofbfppnmdjaa
open Go.RowKit

/-- Block B is the cells cs of type t, none of them frozen. -/
def Bk (w : World) (B : Nat) (t : TypeId) (cs : Array Value) : Prop := w.heap[B]? = some (.cells cs t (0, 0))
section
variable {w w' : World} {B : Nat} {t : TypeId} {cs : Array Value}
theorem Bk.lt (h : Bk w B t cs) : B < w.heap.size := (Array.getElem?_eq_some_iff.1 h).1
theorem Bk.new (w : World) (cs : Array Value) (t : TypeId) (B : Nat) (hB : w.heap.size = B) : Bk (w.alloc (.cells cs t)) B t cs := by subst hB; exact Go.heap_alloc_new w _
theorem Bk.ext (h : Bk w B t cs) (hw : Ext w w') : Bk w' B t cs := (Below.block hw B h.lt).trans h
theorem Bk.alloc (h : Bk w B t cs) (o : Obj) : Bk (w.alloc o) B t cs := h.ext ((Ext.refl w).alloc o)
theorem Bk.drew (h : Bk w B t cs) : Bk w.drew B t cs := h
theorem Bk.drewN (h : Bk w B t cs) (n : Nat) : Bk (w.drewN n) B t cs := h.ext ((Ext.refl w).drewN n)
theorem Bk.cell (h : Bk w B t cs) (j : Nat) : w.cell? ⟨B, j, none⟩ = cs[j]? := cell_of_row w B j cs t (0, 0) h
theorem Bk.frozen (h : Bk w B t cs) (j : Nat) : w.frozen? ⟨B, j, none⟩ = false := by
  unfold World.frozen?
  simp [show w.heap[B]? = some (.cells cs t (0, 0)) from h]
theorem Bk.row (h : Bk w B t cs) (ds : Array Value) : Bk (w.setRow B ds) B t ds := setRow_heap w B cs ds t _ h
theorem Bk.rowOther (h : Bk w B t cs) {B' : Nat} (hB : B' ≠ B) (ds : Array Value) : Bk (w.setRow B' ds) B t cs := (setRow_other w B' B ds (fun e => hB e.symm)).trans h
theorem Bk.setCell (h : Bk w B t cs) (j : Nat) (v : Value) : Bk (w.setCell ⟨B, j, none⟩ v) B t (cs.setIfInBounds j v) := by
  rw [setCell_eq_setRow w B j cs t _ v h]
  exact h.row _
theorem Bk.setOther (h : Bk w B t cs) {B' : Nat} (hB : B' ≠ B) (j : Nat) (v : Value) : Bk (w.setCell ⟨B', j, none⟩ v) B t cs :=
  (Below.heap_setCell _ _ _ _ (by simpa using fun e => hB e.symm)).trans h
end
theorem agree_row {V : Nat → Prop} {w : World} {B : Nat} (hB : V B) (ds : Array Value) : Agree V w (w.setRow B ds) :=
  ⟨by simp, fun k _ hk => setRow_other w B k ds (fun e => hk (by rw [e]; exact hB))⟩
theorem Ext.row {a w : World} {B : Nat} (h : Ext a w) (hB : a.heap.size ≤ B) (ds : Array Value) : Ext a (w.setRow B ds) := below_setRow h hB ds
/-- Cells from j on, stored one after another. -/
def put (w : World) (B : Nat) : Nat → List Value → World
  | _, [] => w
  | j, v :: vs => put (w.setCell ⟨B, j, none⟩ v) B (j + 1) vs
theorem put_size (B : Nat) : ∀ (vs : List Value) (j : Nat) (w : World), (put w B j vs).heap.size = w.heap.size
  | [], _, _ => rfl
  | v :: vs, j, w => by rw [put, put_size B vs]; simp
theorem put_ext {a : World} {B : Nat} (hB : a.heap.size ≤ B) : ∀ (vs : List Value) (j : Nat) (w : World), Ext a w → Ext a (put w B j vs)
  | [], _, _, h => h
  | v :: vs, j, w, h => by rw [put]; exact put_ext hB vs (j + 1) _ (h.setCell (by simpa using hB) v)
theorem agree_put {V : Nat → Prop} {B : Nat} (hB : V B) : ∀ (vs : List Value) (j : Nat) (w : World), Agree V w (put w B j vs)
  | [], _, w => Agree.refl V w
  | v :: vs, j, w => by rw [put]; exact (agree_setCell (p := ⟨B, j, none⟩) hB v).trans (agree_put hB vs (j + 1) _)
theorem put_other {B B' : Nat} {t : TypeId} {cs : Array Value} (hB : B' ≠ B) : ∀ (vs : List Value) (j : Nat) (w : World), Bk w B t cs → Bk (put w B' j vs) B t cs
  | [], _, _, h => h
  | v :: vs, j, w, h => by rw [put]; exact put_other hB vs (j + 1) _ (h.setOther hB j v)
theorem put_at {B : Nat} {t : TypeId} : ∀ (vs cs : List Value) (j : Nat) (w : World), Bk w B t cs.toArray → j + vs.length ≤ cs.length → Bk (put w B j vs) B t (cs.take j ++ vs ++ cs.drop (j + vs.length)).toArray
  | [], cs, j, w, h, _ => by simpa [put] using h
  | v :: vs, cs, j, w, h, hl => by
    rw [put]
    simp only [List.length_cons] at hl
    have h2 := h.setCell j v
    rw [List.setIfInBounds_toArray] at h2
    have := put_at vs (cs.set j v) (j + 1) _ h2 (by rw [List.length_set]; omega)
    have e1 : (cs.set j v).take (j + 1) = cs.take j ++ [v] := by
      rw [List.take_add_one, List.take_set_of_le (Nat.le_refl _)]
      congr 1
      rw [List.getElem?_set_self (by omega)]
      rfl
    have e2 : (cs.set j v).drop (j + 1 + vs.length) = cs.drop (j + (vs.length + 1)) := by
      rw [List.drop_set_of_lt (by omega)]
      congr 1
      omega
    rw [e1, e2] at this
    simpa using this
/-- The whole block is stored anew. -/
theorem put_all {B : Nat} {t : TypeId} {vs : List Value} {cs : Array Value} {w : World} (h : Bk w B t cs) (hl : vs.length = cs.size) : Bk (put w B 0 vs) B t vs.toArray := by
  obtain ⟨cs⟩ := cs
  have := put_at vs cs 0 w h (by simp at hl; omega)
  simp at hl
  simpa [hl] using this
/-- Block B is a row of n cells of type t, none of them frozen. -/
def Row (w : World) (B : Nat) (t : TypeId) (n : Nat) : Prop := ∃ cs, Bk w B t cs ∧ cs.size = n
theorem Bk.isRow {w : World} {B : Nat} {t : TypeId} {cs : Array Value} (h : Bk w B t cs) (n : Nat) (hn : cs.size = n) : Row w B t n := ⟨cs, h, hn⟩
section
variable {P : Program}
theorem run_storeAt_row {w : World} {B : Nat} {ty t : TypeId} {n : Nat} (cells : Array Value) (h : Row w B t n) (hi : (P.info? ty).map (·.size) = some n) (hs : cells.size = n) (h1 : cells.toList.all (·.oneCell') = true) :
    (Instr.storeAt ty (.pointer (some ⟨B, 0, none⟩)) (.agg cells)).run P w = .ok () (w.setRow B cells) := by
  obtain ⟨cs, hb, hn⟩ := h
  simp only [Instr.storeAt, Instr.sureAddr, Sem.run_bind, Sem.run_pure, Result.andThen_ok]
  exact run_storeVar_row w B t ty cs cells hb (by rw [hi, hs]) (by omega) (by rw [← Array.all_toList]; exact h1)
/-- A store of a whole variable, in a region that draws its order. -/
theorem step_store_row {ops : Array Oper} {o : Oper} {a : Act} {w : World} {K : Act → World → Prop} {Q : Exit → Act → World → Prop} {E : Prop} (hgd : o.guard = none) (ty : TypeId) (x y : Operand) (ho : o.op = .store ty x y)
    (g : Nat) (cells : Array Value) (hx : a.eval x = .pointer (some ⟨g, 0, none⟩)) (hy : a.eval y = .agg cells)
    (t : TypeId) (old : Array Value) (hg : w.heap[g]? = some (.cells old t (0, 0))) (hi : (P.info? ty).map (·.size) = some cells.size)
    (hold : old.size = cells.size) (h1 : cells.toList.all (·.oneCell') = true)
    (h : K (a.put o.dst undef) (w.setRow g cells)) : if Region.wanted o (yielded ops a.tmps) = true then Oper.wp P o a w K Q else E := by
  have hw : Region.wanted o (yielded ops a.tmps) = true := by simp [Region.wanted, hgd]
  rw [if_pos hw]
  exact wp_store_row ty x y ho g cells hx hy t old hg hi hold (by rw [← Array.all_toList]; exact h1) h
end
end Go.Proofs.Ytjaofbfppnmdjaa
