/- Nodes of layer 10 as plain data (depth by depth), how a slice of them lies in memory, and sums over lists. -/
import Derived.Test.YtjaofbfppnmdjaaBase
namespace Go.Proofs.Ytjaofbfppnmdjaa
open Go.RowKit

/-- A node with kids of type α: tag, data, kids. -/
abbrev NodeOf (α : Type) : Type := Int × List Int × List α
/-- Nodes that are nested less than n deep. -/
def Nd : Nat → Type
  | 0 => Empty
  | n + 1 => NodeOf (Nd n)

/-- How lists of kids lie in memory. -/
structure Rk (α : Type) where
  rk : (Nat → Prop) → World → Value → List α → Prop
  agree : ∀ {V : Nat → Prop} {w w' : World} {v : Value} {l : List α}, rk V w v l → Agree V w w' → rk V w' v l
  weak : ∀ {V V' : Nat → Prop} {w : World} {v : Value} {l : List α}, rk V w v l → (∀ k, k < w.heap.size → V' k → V k) → rk V' w v l
  form : ∀ {V : Nat → Prop} {w : World} {v : Value} {l : List α}, rk V w v l → ∃ a c, v = .slice a l.length c ∧ l.length ≤ c ∧ c ≤ maxLen

theorem Rk.ext {α : Type} (R : Rk α) {V : Nat → Prop} {w w' : World} {v : Value} {l : List α} (h : R.rk V w v l) (hw : Ext w w') : R.rk V w' v l := R.agree h (hw.agree V)

/-- The three cells of a node. -/
def nodeRep {α : Type} (R : Rk α) (V : Nat → Prop) (w : World) (x : NodeOf α) (cs : List Value) : Prop :=
  ∃ dv kv, cs = [.int .i64 x.1, dv, kv] ∧ RB V w dv x.2.1 ∧ R.rk V w kv x.2.2

def nodesRk {α : Type} (R : Rk α) : Rk (NodeOf α) where
  rk V w v l := RS V 3 (nodeRep R V) w v l
  agree h hw := h.agree hw fun _ _ _ ⟨dv, kv, hc, hd, hk⟩ => ⟨dv, kv, hc, hd.agree hw, R.agree hk hw⟩
  weak h hv := h.weak (by omega) hv fun _ _ _ ⟨dv, kv, hc, hd, hk⟩ => ⟨dv, kv, hc, hd.weak hv, R.weak hk hv⟩
  form h := h.form

def emptyRk : Rk Empty where
  rk V w v l := RS V 3 (fun _ (_ : Empty) _ => True) w v l
  agree h hw := h.agree hw fun _ _ _ _ => trivial
  weak h hv := h.weak (by omega) hv fun _ _ _ _ => trivial
  form h := h.form

def RkN : (n : Nat) → Rk (Nd n)
  | 0 => emptyRk
  | n + 1 => nodesRk (RkN n)

theorem nd_zero (l : List (Nd 0)) : l = [] := by
  cases l with
  | nil => rfl
  | cons x _ => exact Empty.elim x

theorem rkn_zero {V : Nat → Prop} {w : World} {v : Value} (h : (RkN 0).rk V w v []) : (nodesRk emptyRk).rk V w v [] := by
  obtain ⟨a, c, hv, h1, h2, _⟩ := (show RS V 3 (fun _ (_ : Empty) _ => True) w v [] from h)
  exact ⟨a, c, hv, h1, h2, fun h => absurd rfl h⟩

theorem node_at {α : Type} {R : Rk α} {V : Nat → Prop} {w : World} {v : Value} {l : List (NodeOf α)} (h : (nodesRk R).rk V w v l) {i : Nat} (hi : i < l.length) :
    ∃ b off c da dc ka kc, v = .slice (some ⟨b, off, none⟩) l.length c ∧ l.length ≤ c ∧ ¬ V b ∧ w.cell? ⟨b, off + i * 3, none⟩ = some (.int .i64 l[i].1) ∧
      w.cell? ⟨b, off + i * 3 + 1, none⟩ = some (.slice da l[i].2.1.length dc) ∧ w.cell? ⟨b, off + i * 3 + 2, none⟩ = some (.slice ka l[i].2.2.length kc) ∧
      RB V w (.slice da l[i].2.1.length dc) l[i].2.1 ∧ R.rk V w (.slice ka l[i].2.2.length kc) l[i].2.2 := by
  obtain ⟨b, off, c, cs, hv, hc, hV, _, ⟨dv, kv, rfl, hd, hk⟩, hcell⟩ := RS.at_ h hi
  obtain ⟨da, dc, rfl, _, _⟩ := hd.form
  obtain ⟨ka, kc, rfl, _, _⟩ := R.form hk
  exact ⟨b, off, c, da, dc, ka, kc, hv, hc, hV, hcell 0 _ rfl, hcell 1 _ rfl, hcell 2 _ rfl, hd, hk⟩

/-! ### Sums -/
theorem sum_take_succ {α : Type} (g : α → Nat) (l : List α) (k : Nat) (h : k < l.length) : ((l.take (k + 1)).map g).sum = ((l.take k).map g).sum + g l[k] := by
  rw [List.take_succ_eq_append_getElem h, List.map_append, List.sum_append]; simp
theorem sum_take_le {α : Type} (g : α → Nat) (l : List α) (k : Nat) : ((l.take k).map g).sum ≤ (l.map g).sum := by
  conv => rhs; rw [← List.take_append_drop k l]
  rw [List.map_append, List.sum_append]; omega
theorem sum_mem_le {α : Type} (g : α → Nat) (l : List α) (x : α) (h : x ∈ l) : g x ≤ (l.map g).sum := by
  induction l with
  | nil => cases h
  | cons y l ih =>
    simp only [List.map_cons, List.sum_cons]
    cases h with
    | head => omega
    | tail _ h => have := ih h; omega
theorem any_take_succ {α : Type} (p : α → Bool) (l : List α) (k : Nat) (h : k < l.length) : (l.take (k + 1)).any p = ((l.take k).any p || p l[k]) := by
  rw [List.take_succ_eq_append_getElem h, List.any_append]; simp
theorem flatMap_take_succ {α β : Type} (g : α → List β) (l : List α) (k : Nat) (h : k < l.length) : (l.take (k + 1)).flatMap g = (l.take k).flatMap g ++ g l[k] := by
  rw [List.take_succ_eq_append_getElem h, List.flatMap_append]; simp
theorem take_all {α : Type} (l : List α) (k : Nat) (h : l.length ≤ k) : l.take k = l := List.take_of_length_le h
/-- The first error of a list, or 0. -/
def fstErr : List Int → Int
  | [] => 0
  | e :: l => if e = 0 then fstErr l else e
theorem fstErr_append_zero (l r : List Int) (h : fstErr l = 0) : fstErr (l ++ r) = fstErr r := by
  induction l with
  | nil => rfl
  | cons e l ih =>
    simp only [List.cons_append, fstErr] at h ⊢
    split at h
    · rename_i h0; rw [if_pos h0]; exact ih h
    · rename_i h0; exact absurd h h0
theorem fstErr_append_of (l r : List Int) (h : fstErr l ≠ 0) : fstErr (l ++ r) = fstErr l := by
  induction l with
  | nil => exact absurd rfl h
  | cons e l ih =>
    simp only [List.cons_append, fstErr] at h ⊢
    split
    · rename_i h0; rw [if_pos h0] at h; exact ih h
    · rfl
theorem fstErr_take_succ {α : Type} (g : α → Int) (l : List α) (k : Nat) (h : k < l.length) (h0 : fstErr ((l.take k).map g) = 0) : fstErr ((l.take (k + 1)).map g) = g l[k] := by
  rw [List.take_succ_eq_append_getElem h, List.map_append, fstErr_append_zero _ _ h0]
  simp only [List.map_cons, List.map_nil, fstErr]
  split
  · rename_i h1; exact h1.symm
  · rfl
theorem fstErr_of_take {α : Type} (g : α → Int) (l : List α) (k : Nat) (h : fstErr ((l.take k).map g) ≠ 0) : fstErr (l.map g) = fstErr ((l.take k).map g) := by
  conv => lhs; rw [← List.take_append_drop k l]
  rw [List.map_append, fstErr_append_of _ _ h]
theorem fstErr_zero {α : Type} (g : α → Int) (l : List α) (h : fstErr (l.map g) = 0) : ∀ x ∈ l, g x = 0 := by
  induction l with
  | nil => intro x hx; cases hx
  | cons y l ih =>
    simp only [List.map_cons, fstErr] at h
    split at h
    · rename_i h0
      intro x hx
      cases hx with
      | head => exact h0
      | tail _ hx => exact ih h x hx
    · rename_i h0; exact absurd h h0
theorem fstErr_of_zero {α : Type} (g : α → Int) (l : List α) (h : ∀ x ∈ l, g x = 0) : fstErr (l.map g) = 0 := by
  induction l with
  | nil => rfl
  | cons y l ih =>
    simp only [List.map_cons, fstErr]
    rw [if_pos (h y (by simp))]
    exact ih fun x hx => h x (by simp [hx])
end Go.Proofs.Ytjaofbfppnmdjaa
