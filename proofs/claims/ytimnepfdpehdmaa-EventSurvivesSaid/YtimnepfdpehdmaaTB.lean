/- Nodes of layer 10 as plain data (depth by depth), how a slice of them lies in memory, and sums over lists. -/
import Derived.Test.YtimnepfdpehdmaaTA
import Derived.Test.YtimnepfdpehdmaaChecked
import Derived.Laws.BytesArg
import Derived.Lib.Bytes
namespace Go.Proofs.Ytimnepfdpehdmaa
open Go.RowKit

/-- A node with kids of type α: tag, data, kids. -/
abbrev NodeOf (α : Type) : Type := Int × List Int × List α
/-- Nodes that are nested less than n deep. -/
def Nd : Nat → Type
  | 0 => Empty
  | n + 1 => NodeOf (Nd n)

/-- How lists of kids lie in memory. -/
structure Rk (α : Type) where
  rk : (Nat → Prop) → World → Value → List α → Prop
  agree : ∀ {V : Nat → Prop} {w w' : World} {v : Value} {l : List α}, rk V w v l → Agree V w w' → rk V w' v l
  weak : ∀ {V V' : Nat → Prop} {w : World} {v : Value} {l : List α}, rk V w v l → (∀ k, k < w.heap.size → V' k → V k) → rk V' w v l
  form : ∀ {V : Nat → Prop} {w : World} {v : Value} {l : List α}, rk V w v l → ∃ a c, v = .slice a l.length c ∧ l.length ≤ c ∧ c ≤ maxLen

theorem Rk.ext {α : Type} (R : Rk α) {V : Nat → Prop} {w w' : World} {v : Value} {l : List α} (h : R.rk V w v l) (hw : Ext w w') : R.rk V w' v l := R.agree h (hw.agree V)

/-- The three cells of a node. -/
def nodeRep {α : Type} (R : Rk α) (V : Nat → Prop) (w : World) (x : NodeOf α) (cs : List Value) : Prop :=
  ∃ dv kv, cs = [.int .i64 x.1, dv, kv] ∧ RB V w dv x.2.1 ∧ R.rk V w kv x.2.2

def nodesRk {α : Type} (R : Rk α) : Rk (NodeOf α) where
  rk V w v l := RS V 3 (nodeRep R V) w v l
  agree h hw := h.agree hw fun _ _ _ ⟨dv, kv, hc, hd, hk⟩ => ⟨dv, kv, hc, hd.agree hw, R.agree hk hw⟩
  weak h hv := h.weak (by omega) hv fun _ _ _ ⟨dv, kv, hc, hd, hk⟩ => ⟨dv, kv, hc, hd.weak hv, R.weak hk hv⟩
  form h := h.form

def emptyRk : Rk Empty where
  rk V w v l := RS V 3 (fun _ (_ : Empty) _ => True) w v l
  agree h hw := h.agree hw fun _ _ _ _ => trivial
  weak h hv := h.weak (by omega) hv fun _ _ _ _ => trivial
  form h := h.form

def RkN : (n : Nat) → Rk (Nd n)
  | 0 => emptyRk
  | n + 1 => nodesRk (RkN n)

theorem nd_zero (l : List (Nd 0)) : l = [] := by
  cases l with
  | nil => rfl
  | cons x _ => exact Empty.elim x

theorem rkn_zero {V : Nat → Prop} {w : World} {v : Value} (h : (RkN 0).rk V w v []) : (nodesRk emptyRk).rk V w v [] := by
  obtain ⟨a, c, hv, h1, h2, _⟩ := (show RS V 3 (fun _ (_ : Empty) _ => True) w v [] from h)
  exact ⟨a, c, hv, h1, h2, fun h => absurd rfl h⟩

theorem node_at {α : Type} {R : Rk α} {V : Nat → Prop} {w : World} {v : Value} {l : List (NodeOf α)} (h : (nodesRk R).rk V w v l) {i : Nat} (hi : i < l.length) :
    ∃ b off c da dc ka kc, v = .slice (some ⟨b, off, none⟩) l.length c ∧ l.length ≤ c ∧ ¬ V b ∧ w.cell? ⟨b, off + i * 3, none⟩ = some (.int .i64 l[i].1) ∧
      w.cell? ⟨b, off + i * 3 + 1, none⟩ = some (.slice da l[i].2.1.length dc) ∧ w.cell? ⟨b, off + i * 3 + 2, none⟩ = some (.slice ka l[i].2.2.length kc) ∧
      RB V w (.slice da l[i].2.1.length dc) l[i].2.1 ∧ R.rk V w (.slice ka l[i].2.2.length kc) l[i].2.2 := by
  obtain ⟨b, off, c, cs, hv, hc, hV, _, ⟨dv, kv, rfl, hd, hk⟩, hcell⟩ := RS.at_ h hi
  obtain ⟨da, dc, rfl, _, _⟩ := hd.form
  obtain ⟨ka, kc, rfl, _, _⟩ := R.form hk
  exact ⟨b, off, c, da, dc, ka, kc, hv, hc, hV, hcell 0 _ rfl, hcell 1 _ rfl, hcell 2 _ rfl, hd, hk⟩

/-! ### Sums -/
theorem sum_take_succ {α : Type} (g : α → Nat) (l : List α) (k : Nat) (h : k < l.length) : ((l.take (k + 1)).map g).sum = ((l.take k).map g).sum + g l[k] := by
  rw [List.take_succ_eq_append_getElem h, List.map_append, List.sum_append]; simp
theorem sum_take_le {α : Type} (g : α → Nat) (l : List α) (k : Nat) : ((l.take k).map g).sum ≤ (l.map g).sum := by
  conv => rhs; rw [← List.take_append_drop k l]
  rw [List.map_append, List.sum_append]; omega
theorem sum_mem_le {α : Type} (g : α → Nat) (l : List α) (x : α) (h : x ∈ l) : g x ≤ (l.map g).sum := by
  induction l with
  | nil => cases h
  | cons y l ih =>
    simp only [List.map_cons, List.sum_cons]
    cases h with
    | head => omega
    | tail _ h => have := ih h; omega
theorem any_take_succ {α : Type} (p : α → Bool) (l : List α) (k : Nat) (h : k < l.length) : (l.take (k + 1)).any p = ((l.take k).any p || p l[k]) := by
  rw [List.take_succ_eq_append_getElem h, List.any_append]; simp
theorem flatMap_take_succ {α β : Type} (g : α → List β) (l : List α) (k : Nat) (h : k < l.length) : (l.take (k + 1)).flatMap g = (l.take k).flatMap g ++ g l[k] := by
  rw [List.take_succ_eq_append_getElem h, List.flatMap_append]; simp
theorem take_all {α : Type} (l : List α) (k : Nat) (h : l.length ≤ k) : l.take k = l := List.take_of_length_le h
/-- The first error of a list, or 0. -/
def fstErr : List Int → Int
  | [] => 0
  | e :: l => if e = 0 then fstErr l else e
theorem fstErr_append_zero (l r : List Int) (h : fstErr l = 0) : fstErr (l ++ r) = fstErr r := by
  induction l with
  | nil => rfl
  | cons e l ih =>
    simp only [List.cons_append, fstErr] at h ⊢
    split at h
    · rename_i h0; rw [if_pos h0]; exact ih h
    · rename_i h0; exact absurd h h0
theorem fstErr_append_of (l r : List Int) (h : fstErr l ≠ 0) : fstErr (l ++ r) = fstErr l := by
  induction l with
  | nil => exact absurd rfl h
  | cons e l ih =>
    simp only [List.cons_append, fstErr] at h ⊢
    split
    · rename_i h0; rw [if_pos h0] at h; exact ih h
    · rfl
theorem fstErr_take_succ {α : Type} (g : α → Int) (l : List α) (k : Nat) (h : k < l.length) (h0 : fstErr ((l.take k).map g) = 0) : fstErr ((l.take (k + 1)).map g) = g l[k] := by
  rw [List.take_succ_eq_append_getElem h, List.map_append, fstErr_append_zero _ _ h0]
  simp only [List.map_cons, List.map_nil, fstErr]
  split
  · rename_i h1; exact h1.symm
  · rfl
theorem fstErr_of_take {α : Type} (g : α → Int) (l : List α) (k : Nat) (h : fstErr ((l.take k).map g) ≠ 0) : fstErr (l.map g) = fstErr ((l.take k).map g) := by
  conv => lhs; rw [← List.take_append_drop k l]
  rw [List.map_append, fstErr_append_of _ _ h]
theorem fstErr_zero {α : Type} (g : α → Int) (l : List α) (h : fstErr (l.map g) = 0) : ∀ x ∈ l, g x = 0 := by
  induction l with
  | nil => intro x hx; cases hx
  | cons y l ih =>
    simp only [List.map_cons, fstErr] at h
    split at h
    · rename_i h0
      intro x hx
      cases hx with
      | head => exact h0
      | tail _ hx => exact ih h x hx
    · rename_i h0; exact absurd h h0
theorem fstErr_of_zero {α : Type} (g : α → Int) (l : List α) (h : ∀ x ∈ l, g x = 0) : fstErr (l.map g) = 0 := by
  induction l with
  | nil => rfl
  | cons y l ih =>
    simp only [List.map_cons, fstErr]
    rw [if_pos (h y (by simp))]
    exact ih fun x hx => h x (by simp [hx])
end Go.Proofs.Ytimnepfdpehdmaa

namespace Go.Proofs.Ytimnepfdpehdmaa
open Go.RowKit

def nestB (t : Int) : Bool := bits .and .i64 t 32 != 0
def tagB (t : Int) : Bool := decide (1 ≤ t) && decide (t ≤ 254) && (bits .and .i64 t 31 != 31)
/-- The bytes of a length. -/
def lenB (n : Nat) : List Int := if n < 128 then [(n : Int)] else if n < 256 then [129, (n : Int)] else [130, (n : Int) / 256 % 256, (n : Int) % 256]
theorem lenB_byt (n : Nat) : Byt (lenB n) := by
  unfold lenB
  split
  · intro x hx; simp at hx; omega
  split
  · intro x hx; simp at hx; omega
  · intro x hx; simp at hx; omega
theorem lenB_le (n : Nat) : (lenB n).length ≤ 3 := by
  unfold lenB; split <;> (try split) <;> simp
theorem lenB_pos (n : Nat) : 1 ≤ (lenB n).length := by
  unfold lenB; split <;> (try split) <;> simp

/-- It returns a new byte slice that reads as bs. -/
def RetB (w : World) (bs : List Int) (e : Ending) (w' : World) : Prop :=
  ∃ a c, e = .returned (.slice a bs.length c) ∧ Ext w w' ∧ ∀ V : Nat → Prop, (∀ k, V k → k < w.heap.size) → RB V w' (.slice a bs.length c) bs
theorem RetB.lit {w : World} {t : TypeId} (bs : List Int) (cs : Array Value) (n : Nat) (hn : n = bs.length) (hcs : cs = (bs.map (Value.int .u8)).toArray) (hb : Byt bs) (hm : bs.length ≤ 65536) :
    RetB w bs (.returned (.slice (some ⟨w.heap.size, 0, none⟩) n n)) (w.alloc (.cells cs t)) := by
  subst hn hcs
  refine ⟨_, _, rfl, (Ext.refl w).alloc _, fun V hV => ⟨hb, _, _, rfl, Nat.le_refl _, by unfold maxLen; omega, fun _ => ⟨w.heap.size, 0, rfl, fun h => by have := hV _ h; omega, fun j hj => ?_⟩⟩⟩
  simp [hj]

theorem nestedP_any (t : Int) (w : World) : Calls Try.prog 68 #[.int .i64 t] w fun e w' => e = .returned (.bool (nestB t)) ∧ w = w' := by
  go_enter Try.func68, Try.ntmps68
  go_wp2
  go_ret
  exact ⟨rfl, rfl⟩
theorem isTag_any (t : Int) (w : World) : Calls Try.prog 69 #[.int .i64 t] w fun e w' => e = .returned (.bool (tagB t)) ∧ w = w' := by
  go_enter Try.func69, Try.ntmps69
  go_wp2
  all_goals go_ret
  all_goals refine ⟨?_, rfl⟩
  all_goals (unfold tagB; simp [*])
  all_goals omega
theorem lengthBytes_int (x : Int) (w : World) (h0 : 0 ≤ x) : Calls Try.prog 70 #[.int .i64 x] w fun e w' =>
    (x < 128 → e = .returned (.slice (some ⟨w.heap.size, 0, none⟩) 1 1) ∧ w' = w.alloc (.cells #[.int .u8 x] 5)) ∧
    (128 ≤ x → x < 256 → e = .returned (.slice (some ⟨w.heap.size, 0, none⟩) 2 2) ∧ w' = w.alloc (.cells #[.int .u8 129, .int .u8 x] 5)) ∧
    (256 ≤ x → e = .returned (.slice (some ⟨w.heap.size, 0, none⟩) 3 3) ∧ w' = w.alloc (.cells #[.int .u8 130, .int .u8 (x / 256 % 256), .int .u8 (x % 256)] 5)) := by
  go_enter Try.func70, Try.ntmps70
  go_wp2
  all_goals go_ret
  · exact ⟨fun _ => ⟨rfl, rfl⟩, fun _ _ => by omega, fun _ => by omega⟩
  · exact ⟨fun _ => by omega, fun _ _ => ⟨rfl, rfl⟩, fun _ => by omega⟩
  · exact ⟨fun _ => by omega, fun _ _ => by omega, fun _ => ⟨rfl, rfl⟩⟩
theorem lengthBytes_any (n : Nat) (w : World) : Calls Try.prog 70 #[.int .i64 n] w (RetB w (lenB n)) := by
  refine (lengthBytes_int n w (by omega)).mono fun e w' ⟨c1, c2, c3⟩ => ?_
  have hb := lenB_byt n
  by_cases h1 : n < 128
  · have e : lenB n = [(n : Int)] := by unfold lenB; rw [if_pos h1]
    obtain ⟨rfl, rfl⟩ := c1 (by omega)
    rw [e] at hb ⊢
    exact RetB.lit _ _ _ rfl rfl hb (by simp)
  by_cases h2 : n < 256
  · have e : lenB n = [129, (n : Int)] := by unfold lenB; rw [if_neg h1, if_pos h2]
    obtain ⟨rfl, rfl⟩ := c2 (by omega) (by omega)
    rw [e] at hb ⊢
    exact RetB.lit _ _ _ rfl rfl hb (by simp)
  · have e : lenB n = [130, (n : Int) / 256 % 256, (n : Int) % 256] := by unfold lenB; rw [if_neg h1, if_neg h2]
    obtain ⟨rfl, rfl⟩ := c3 (by omega)
    rw [e] at hb ⊢
    exact RetB.lit _ _ _ rfl rfl hb (by simp)
end Go.Proofs.Ytimnepfdpehdmaa

namespace Go.Proofs.Ytimnepfdpehdmaa
open Go.RowKit
attribute [local go_sem ↓] Go.wp_at_zero Go.wp_at_succ

/-! ### count -/
def cntS {α : Type} (ck : List α → Nat) (l : List (NodeOf α)) : Nat := l.length + (l.map fun x => x.2.1.length + ck x.2.2).sum
def cntN : (n : Nat) → List (Nd n) → Nat
  | 0, _ => 0
  | n + 1, l => cntS (cntN n) l

/-! ### Deep -/
def deepS {α : Type} (dk : List α → Int → Bool) (l : List (NodeOf α)) (n : Int) : Bool := l.any fun x => decide (n < 0) || dk x.2.2 (n - 1)
def deepN : (n : Nat) → List (Nd n) → Int → Bool
  | 0, _, _ => false
  | n + 1, l, m => deepS (deepN n) l m

def largeN (n : Nat) (l : List (Nd n)) : Bool := deepN n l 12 || decide (5000 < cntN n l)
end Go.Proofs.Ytimnepfdpehdmaa

namespace Go.Proofs.Ytimnepfdpehdmaa
open Go.RowKit
attribute [local go_sem ↓] Go.wp_at_zero Go.wp_at_succ

/-- It returns a list of kids that reads as l, outside V. -/
def RetK {α : Type} (R : Rk α) (V : Nat → Prop) (w : World) (l : List α) (e : Ending) (w' : World) : Prop := ∃ a c, e = .returned (.slice a l.length c) ∧ Ext w w' ∧ R.rk V w' (.slice a l.length c) l

/-- The blocks of V, and the row of v. -/
def With (V : Nat → Prop) (v : Value) : Nat → Prop := fun k => V k ∨ v.ownBlock = some k
/-- A row that is being built: v owns the cells css, which read as l outside V and v's own row. -/
def Built {α : Type} (R : Rk α) (V : Nat → Prop) (base : Nat) (e : TypeId) (w : World) (v : Value) (l : List (NodeOf α)) : Prop :=
  ∃ css : List (List Value), w.ownsRow base e 3 v l.length css.flatten ∧ css.length = l.length ∧ (∀ cs ∈ css, cs.length = 3) ∧ ∀ i (h1 : i < l.length) (h2 : i < css.length), nodeRep R (With V v) w l[i] css[i]
theorem Built.nil {α : Type} (R : Rk α) (V : Nat → Prop) (base : Nat) (e : TypeId) (w : World) : Built R V base e w (.slice none 0 0) ([] : List (NodeOf α)) :=
  ⟨[], World.ownsRow_nil _ _ _ _, rfl, fun _ h => (by simp at h), fun i h _ => (by simp at h)⟩
theorem nodeRep.agree {α : Type} {R : Rk α} {V : Nat → Prop} {w w' : World} {x : NodeOf α} {cs : List Value} (h : nodeRep R V w x cs) (hw : Agree V w w') : nodeRep R V w' x cs := by
  obtain ⟨dv, kv, hc, hd, hk⟩ := h
  exact ⟨dv, kv, hc, hd.agree hw, R.agree hk hw⟩
theorem nodeRep.weak {α : Type} {R : Rk α} {V V' : Nat → Prop} {w : World} {x : NodeOf α} {cs : List Value} (h : nodeRep R V w x cs) (hv : ∀ k, k < w.heap.size → V' k → V k) : nodeRep R V' w x cs := by
  obtain ⟨dv, kv, hc, hd, hk⟩ := h
  exact ⟨dv, kv, hc, hd.weak hv, R.weak hk hv⟩
/-- One more element. w: ahead of the element's own call; w1: where the row was still v; w2: behind the append. -/
theorem Built.push {α : Type} {R : Rk α} {V : Nat → Prop} {base : Nat} {e : TypeId} {w w1 w2 : World} {v v' : Value} {l : List (NodeOf α)} {x : NodeOf α} {css : List (List Value)} {cs : List Value}
    (hlen : css.length = l.length) (h3 : ∀ cs ∈ css, cs.length = 3) (hrep : ∀ i (h1 : i < l.length) (h2 : i < css.length), nodeRep R (With V v) w l[i] css[i]) (hcs : cs.length = 3)
    (hw1 : Ext w w1) (hx : nodeRep R (With V v) w1 x cs) (hown : w2.ownsRow base e 3 v' (l.length + 1) (css.flatten ++ cs)) (hg : w1.grownBy w2 v.ownBlock) (hat : v'.ownBlock = v.ownBlock ∨ v'.ownBlock = some w1.heap.size) :
    Built R V base e w2 v' (l ++ [x]) := by
  have ha : Agree (With V v) w1 w2 := Agree.of_grown hg (fun k hk => Or.inr hk)
  have hw : ∀ k, k < w1.heap.size → With V v' k → With V v k := by
    intro k hk h
    rcases h with h | h
    · exact Or.inl h
    · rcases hat with e | e
      · exact Or.inr (by rw [← e]; exact h)
      · rw [e] at h; injection h with h; omega
  refine ⟨css ++ [cs], by simpa using hown, by simp [hlen], ?_, ?_⟩
  · intro c hc
    rcases List.mem_append.1 hc with hc | hc
    · exact h3 c hc
    · simp at hc; subst hc; exact hcs
  · have key : ∀ (y : NodeOf α) (c : List Value), nodeRep R (With V v) w1 y c → nodeRep R (With V v') w2 y c := by
      intro y c hy
      have h1 : nodeRep R (fun k => With V v k ∨ With V v' k) w1 y c := hy.weak (fun k hk h => h.elim id (hw k hk))
      have h2 := h1.agree (ha.mono (fun k hk => Or.inl hk))
      exact h2.weak (fun k _ hk => Or.inr hk)
    intro i h1 h2
    by_cases hi : i < l.length
    · have hi2 : i < css.length := by omega
      rw [List.getElem_append_left hi, List.getElem_append_left hi2]
      exact key _ _ ((hrep i hi hi2).agree (hw1.agree _))
    · have hi3 : i = l.length := by simp at h1; omega
      subst hi3
      rw [List.getElem_append_right (Nat.le_refl _), List.getElem_append_right (by omega)]
      simp only [Nat.sub_self, List.getElem_cons_zero, hlen]
      exact key _ _ hx
theorem Built.done {α : Type} {R : Rk α} {V : Nat → Prop} {base : Nat} {e : TypeId} {w : World} {v : Value} {l : List (NodeOf α)} (h : Built R V base e w v l) (hV : ∀ k, V k → k < base) : (nodesRk R).rk V w v l := by
  obtain ⟨css, hown, hlen, h3, hrep⟩ := h
  exact RS.of_own css hown hlen h3 (fun i h1 h2 => (hrep i h1 h2).weak (fun k _ hk => Or.inl hk)) hV
theorem With.lt {V : Nat → Prop} {base : Nat} {e : TypeId} {w : World} {v : Value} {n : Nat} {xs : List Value} (hV : ∀ k, V k → k < w.heap.size) (h : w.ownsRow base e 3 v n xs) : ∀ k, With V v k → k < w.heap.size := by
  intro k hk
  rcases hk with hk | hk
  · exact hV k hk
  · exact (h.lt k hk).2

end Go.Proofs.Ytimnepfdpehdmaa

namespace Go.Proofs.Ytimnepfdpehdmaa
open Go.RowKit
attribute [local go_sem ↓] Go.wp_at_zero Go.wp_at_succ

/-! ### What they compute -/
/-- The error of one node at depth d. -/
def errS {α : Type} (ek : List α → Int → Int) (d : Int) (x : NodeOf α) : Int :=
  if tagB x.1 = false then 15 else if 6 < d then 17 else if (nestB x.1 = true ∧ 0 < x.2.1.length) ∨ (nestB x.1 = false ∧ 0 < x.2.2.length) then 12 else ek x.2.2 (d + 1)
def chkS {α : Type} (ek : List α → Int → Int) (l : List (NodeOf α)) (d : Int) : Int := fstErr (l.map (errS ek d))
def chkN : (n : Nat) → List (Nd n) → Int → Int
  | 0, _, _ => 0
  | n + 1, l, d => chkS (chkN n) l d
def szE {α : Type} (zk : List α → Nat) (x : NodeOf α) : Nat := 1 + (lenB (x.2.1.length + zk x.2.2)).length + (x.2.1.length + zk x.2.2)
def szS {α : Type} (zk : List α → Nat) (l : List (NodeOf α)) : Nat := (l.map (szE zk)).sum
def szN : (n : Nat) → List (Nd n) → Nat
  | 0, _ => 0
  | n + 1, l => szS (szN n) l
theorem chkN_nil : ∀ (n : Nat) (d : Int), chkN n [] d = 0
  | 0, _ => rfl
  | _ + 1, _ => rfl
theorem szN_nil : ∀ (n : Nat), szN n [] = 0
  | 0 => rfl
  | _ + 1 => rfl
theorem szS_le {α : Type} (zk ck : List α → Nat) (l : List (NodeOf α)) (h : ∀ x ∈ l, zk x.2.2 ≤ 4 * ck x.2.2) : szS zk l ≤ 4 * cntS ck l := by
  unfold szS cntS
  induction l with
  | nil => simp
  | cons x l ih =>
    have h1 := ih fun y hy => h y (by simp [hy])
    have h2 := h x (by simp)
    have h3 := lenB_le (x.2.1.length + zk x.2.2)
    simp only [List.map_cons, List.sum_cons, List.length_cons, szE] at *
    omega
theorem szN_le : ∀ (n : Nat) (l : List (Nd n)), szN n l ≤ 4 * cntN n l
  | 0, _ => by simp [szN]
  | n + 1, l => szS_le (szN n) (cntN n) l fun x _ => szN_le n x.2.2

/-! ### size of the reference -/
/-! ### check of the reference -/
end Go.Proofs.Ytimnepfdpehdmaa

namespace Go.Proofs.Ytimnepfdpehdmaa
open Go.RowKit
attribute [local go_sem ↓] Go.wp_at_zero Go.wp_at_succ

/-- A number and an error: the number is 0 if there is an error. -/
def numErr (n : Nat) (e : Int) : Value := .tuple #[.int .i64 (if e = 0 then (n : Int) else 0), .int .i64 e]

set_option maxRecDepth 100000 in
set_option maxHeartbeats 4000000 in
theorem measure_step {α : Type} (R : Rk α) (V : Nat → Prop) (ek : List α → Int → Int) (zk : List α → Nat) (l : List (NodeOf α)) (d : Int) (v : Value) (w : World) (h : (nodesRk R).rk V w v l) (hd0 : 0 ≤ d) (hd1 : d ≤ 7)
    (hek : ∀ d, ek [] d = 0) (hzk : zk [] = 0) (hb : szS zk l ≤ 4000000000) (hll : l.length ≤ 1000000000)
    (hk : d ≤ 6 → ∀ x ∈ l, ∀ w1 kv, R.rk V w1 kv x.2.2 → Calls Try.prog 56 #[kv, .int .i64 (d + 1)] w1 fun e w' => e = .returned (numErr (zk x.2.2) (ek x.2.2 (d + 1))) ∧ Ext w1 w') :
    Calls Try.prog 56 #[v, .int .i64 d] w fun e w' => e = .returned (numErr (szS zk l) (chkS ek l d)) ∧ Ext w w' := by
  obtain ⟨a, c, rfl, hc1, hc2⟩ := (nodesRk R).form h
  have HH := Lib.hid h
  have HK := Lib.hid hk
  have HB := Lib.hid hb
  have HEK := Lib.hid hek
  have HZK := Lib.hid hzk
  clear h hk hc2 hb hek hzk
  go_enter Try.func56, Try.ntmps56
  go_wp2
  go_loopw [6, 14] (fun s i wr => ∃ (k : Nat), k ≤ l.length ∧ i = .int .i64 k ∧ s = .int .i64 ((szS zk (l.take k) : Nat) : Int) ∧ chkS ek (l.take k) d = 0 ∧ Ext w wr) (fun _ i _ => l.length - (intOf i).toNat)
  case atStart => exact ⟨0, Nat.zero_le _, rfl, by simp [szS], rfl, Ext.refl _⟩
  case round =>
    obtain ⟨k, hk1, rfl, rfl, hno, hx⟩ := hrel
    have HNO := Lib.hid hno
    clear hno
    by_cases hlt : k < l.length
    · have HE := Lib.hid (show chkS ek (l.take (k + 1)) d = errS ek d l[k] from fstErr_take_succ (errS ek d) l k hlt HNO.out)
      have HF := Lib.hid (show chkS ek (l.take (k + 1)) d ≠ 0 → chkS ek l d = chkS ek (l.take (k + 1)) d from fstErr_of_take (errS ek d) l (k + 1))
      have hsum : szS zk (l.take (k + 1)) = szS zk (l.take k) + szE zk l[k] := sum_take_succ (szE zk) l k hlt
      have hle : szS zk (l.take (k + 1)) ≤ szS zk l := sum_take_le (szE zk) l (k + 1)
      have hbb := HB.out
      obtain ⟨b, off, c', da, dc, ka, kc, hv, hcap, _, g0, g1, g2, hdd, hkk⟩ := node_at ((nodesRk R).ext HH.out hx) hlt
      have HKK := Lib.hid (fun h => HK.out h l[k] (List.getElem_mem hlt))
      generalize hS : szS zk (l.take k) = S at *
      generalize hS' : szS zk (l.take (k + 1)) = S' at *
      generalize hx1 : l[k] = x at *
      obtain ⟨t, dt, ks⟩ := x
      simp only [szE] at *
      have HRK := Lib.hid hkk
      simp only [Value.slice.injEq] at hv
      obtain ⟨rfl, -, rfl⟩ := hv
      have ht := Lib.hid (fun w1 => isTag_any t w1)
      have hn := Lib.hid (fun w1 => nestedP_any t w1)
      have HX := Lib.hid (show errS ek d (t, dt, ks) = if tagB t = false then 15 else if 6 < d then 17 else if (nestB t = true ∧ 0 < dt.length) ∨ (nestB t = false ∧ 0 < ks.length) then 12 else ek ks (d + 1) from rfl)
      have b1 : S + (1 + (lenB (dt.length + zk ks)).length + (dt.length + zk ks)) ≤ 4000000000 := by omega
      have HS := Lib.hid hsum
      have HS2 := Lib.hid hS'
      have HZ0 : Hid (ks.length = 0 → zk ks = 0 ∧ ek ks (d + 1) = 0) := fun h0 => by
        have : ks = [] := List.eq_nil_of_length_eq_zero h0
        subst this
        exact ⟨HZK.out, HEK.out _⟩
      clear hx1 hkk hdd HK hsum hS hS' hle hbb HB HZK HEK
      generalize errS ek d (t, dt, ks) = E at *
      generalize hE' : chkS ek (l.take (k + 1)) d = E' at *
      have HE' := Lib.hid hE'
      clear hE'
      generalize hnk : ks.length = nk at *
      generalize hnd : dt.length = nd at *
      have HNK := Lib.hid hnk
      have HND := Lib.hid hnd
      clear hnk hnd
      generalize tagB t = tb at *
      generalize nestB t = nb at *
      generalize ek ks (d + 1) = ee at *
      generalize zk ks = z at *
      have hki : (k : Int) < l.length := by omega
      cases tb
      · cases nb <;>
        · go_wp2_with (first | (go_at_call 69; refine (ht.out _).mono ?_; rintro e w1 ⟨rfl, rfl⟩) | (go_at_call 68; refine (hn.out _).mono ?_; rintro e w1 ⟨rfl, rfl⟩))
          go_ret2
          exact ⟨by have h1 := HX.out; have h2 := HE.out; simp at h1; rw [HF.out (by omega), h2, h1]; rfl, hx.alloc _⟩
      by_cases hd6 : 6 < d
      · cases nb <;>
        · go_wp2_with (first | (go_at_call 69; refine (ht.out _).mono ?_; rintro e w1 ⟨rfl, rfl⟩) | (go_at_call 68; refine (hn.out _).mono ?_; rintro e w1 ⟨rfl, rfl⟩))
          go_ret2
          exact ⟨by have h1 := HX.out; have h2 := HE.out; simp [hd6] at h1; rw [HF.out (by omega), h2, h1]; rfl, hx.alloc _⟩
      have hcall := Lib.hid (HKK.out (by omega))
      clear HKK
      cases nb
      · by_cases hk0 : nk = 0
        · subst hk0
          obtain ⟨hz0, he0⟩ := HZ0.out rfl
          subst hz0 he0
          clear hcall HZ0
          simp only [Nat.add_zero] at b1
          go_wp2_with (first | (go_at_call 69; refine (ht.out _).mono ?_; rintro e w1 ⟨rfl, rfl⟩) | (go_at_call 68; refine (hn.out _).mono ?_; rintro e w1 ⟨rfl, rfl⟩) | (go_at_call 70; refine (lengthBytes_any _ _).mono ?_; rintro e w2 ⟨a2, c2, rfl, he2, -⟩))
          go_roundw
          case rel => exact ⟨k + 1, by omega, by go_num, by rw [HS2.out, HS.out]; exact val_int (by simp only [Nat.add_zero]; omega), by have h1 := HX.out; have h2 := HE.out; simp [show ¬ 6 < d by omega] at h1; rw [HE'.out, h2, h1], (hx.alloc _).trans he2⟩
          case measure => simp [intOf]; omega
        · have hkz : (0 : Int) < nk := by omega
          go_wp2_with (first | (go_at_call 69; refine (ht.out _).mono ?_; rintro e w1 ⟨rfl, rfl⟩) | (go_at_call 68; refine (hn.out _).mono ?_; rintro e w1 ⟨rfl, rfl⟩))
          go_ret2
          exact ⟨by have h1 := HX.out; have h2 := HE.out; simp [show ¬ 6 < d by omega, show 0 < nk by omega] at h1; rw [HF.out (by omega), h2, h1]; rfl, hx.alloc _⟩
      · by_cases hk0 : nd = 0
        · subst hk0
          simp only [Nat.zero_add] at b1
          by_cases he0 : ee = 0
          · subst he0
            have HN : Hid (numErr z 0 = .tuple #[.int .i64 (z : Int), .int .i64 0]) := rfl
            have hcall2 := Lib.hid (fun w1 kv h => HN.out ▸ hcall.out w1 kv h)
            clear hcall
            go_wp2_with (first | (go_at_call 69; refine (ht.out _).mono ?_; rintro e w1 ⟨rfl, rfl⟩) | (go_at_call 68; refine (hn.out _).mono ?_; rintro e w1 ⟨rfl, rfl⟩) | (go_at_call 56; refine (hcall2.out _ _ (R.ext HRK.out ((Ext.refl _).alloc _))).mono ?_; rintro e w1 ⟨rfl, hx1⟩) | (go_at_call 70; refine (lengthBytes_any _ _).mono ?_; rintro e w2 ⟨a2, c2, rfl, he2, -⟩))
            go_roundw
            case rel => exact ⟨k + 1, by omega, by go_num, by rw [HS2.out, HS.out]; exact val_int (by rw [Nat.zero_add]; omega), by have h1 := HX.out; have h2 := HE.out; simp [show ¬ 6 < d by omega] at h1; rw [HE'.out, h2, h1], ((hx.alloc _).trans hx1).trans he2⟩
            case measure => simp [intOf]; omega
          · have he1 : (ee != 0) = true := by simp [he0]
            have HN : Hid (numErr z ee = .tuple #[.int .i64 0, .int .i64 ee]) := by show numErr z ee = _; unfold numErr; rw [if_neg he0]
            have hcall2 := Lib.hid (fun w1 kv h => HN.out ▸ hcall.out w1 kv h)
            clear hcall
            go_wp2_with (first | (go_at_call 69; refine (ht.out _).mono ?_; rintro e w1 ⟨rfl, rfl⟩) | (go_at_call 68; refine (hn.out _).mono ?_; rintro e w1 ⟨rfl, rfl⟩) | (go_at_call 56; refine (hcall2.out _ _ (R.ext HRK.out ((Ext.refl _).alloc _))).mono ?_; rintro e w1 ⟨rfl, hx1⟩))
            go_ret2
            exact ⟨by have h1 := HX.out; have h2 := HE.out; simp [show ¬ 6 < d by omega] at h1; rw [HF.out (by omega), h2, h1]; unfold numErr; rw [if_neg he0]; rfl, (hx.alloc _).trans hx1⟩
        · have hkz : (0 : Int) < nd := by omega
          go_wp2_with (first | (go_at_call 69; refine (ht.out _).mono ?_; rintro e w1 ⟨rfl, rfl⟩) | (go_at_call 68; refine (hn.out _).mono ?_; rintro e w1 ⟨rfl, rfl⟩))
          go_ret2
          exact ⟨by have h1 := HX.out; have h2 := HE.out; simp [show ¬ 6 < d by omega, show 0 < nd by omega] at h1; rw [HF.out (by omega), h2, h1]; rfl, hx.alloc _⟩
    · go_wp2
      go_ret2
      exact ⟨by have := HNO.out; rw [take_all l k (by omega)] at this ⊢; rw [this]; rfl, hx⟩
theorem measure_any : ∀ (n : Nat) (V : Nat → Prop) (l : List (Nd n)) (d : Int) (v : Value) (w : World), (RkN n).rk V w v l → 0 ≤ d → d ≤ 7 → cntN n l ≤ 1000000000 →
    Calls Try.prog 56 #[v, .int .i64 d] w fun e w' => e = .returned (numErr (szN n l) (chkN n l d)) ∧ Ext w w'
  | 0, V, l, d, v, w, h, h1, h2, _ => by
    have hl := nd_zero l
    subst hl
    exact measure_step (α := Empty) emptyRk V (fun _ _ => 0) (fun _ => 0) [] d v w (rkn_zero h) h1 h2 (fun _ => rfl) rfl (by simp [szS]) (by simp) (fun _ x hx => by cases hx)
  | n + 1, V, l, d, v, w, h, h1, h2, hb => measure_step (RkN n) V (chkN n) (szN n) l d v w h h1 h2 (chkN_nil n) (szN_nil n) (by have := szN_le (n + 1) l; show szN (n + 1) l ≤ _; omega) (by
      have h1 : cntS (cntN n) l ≤ 1000000000 := hb
      unfold cntS at h1
      omega) (fun h6 x hx w1 kv hkv => measure_any n V x.2.2 (d + 1) kv w1 hkv (by omega) (by omega) (by
      have h1 : cntS (cntN n) l ≤ 1000000000 := hb
      have h2 := sum_mem_le (fun x : NodeOf (Nd n) => x.2.1.length + cntN n x.2.2) l x hx
      unfold cntS at h1
      omega))
end Go.Proofs.Ytimnepfdpehdmaa

namespace Go.Proofs.Ytimnepfdpehdmaa
open Go.RowKit
attribute [local go_sem ↓] Go.wp_at_zero Go.wp_at_succ

/-! ### What it computes -/
def encE {α : Type} (ek : List α → List Int) (x : NodeOf α) : List Int := (x.1 % 256) :: (lenB (x.2.1.length + (ek x.2.2).length) ++ (x.2.1 ++ ek x.2.2))
def encS {α : Type} (ek : List α → List Int) (l : List (NodeOf α)) : List Int := l.flatMap (encE ek)
def encN : (n : Nat) → List (Nd n) → List Int
  | 0, _ => []
  | n + 1, l => encS (encN n) l
theorem encN_nil : ∀ (n : Nat), encN n [] = []
  | 0 => rfl
  | _ + 1 => rfl
theorem encE_len {α : Type} (ek : List α → List Int) (x : NodeOf α) : (encE ek x).length = szE (fun ks => (ek ks).length) x := by
  simp only [encE, szE, List.length_cons, List.length_append]; omega
theorem encS_len {α : Type} (ek : List α → List Int) (l : List (NodeOf α)) : (encS ek l).length = szS (fun ks => (ek ks).length) l := by
  unfold encS szS
  induction l with
  | nil => rfl
  | cons x l ih => simp only [List.flatMap_cons, List.length_append, List.map_cons, List.sum_cons, ih, encE_len]
theorem encN_len : ∀ (n : Nat) (l : List (Nd n)), (encN n l).length = szN n l
  | 0, _ => rfl
  | n + 1, l => by
    have h : (fun ks => (encN n ks).length) = szN n := funext fun ks => encN_len n ks
    have h2 := encS_len (encN n) l
    rw [h] at h2
    exact h2

/-- The row of v. -/
def Own (v : Value) : Nat → Prop := fun k => v.ownBlock = some k
/-- What does not lie in v's row does not lie in the row of what v has become. -/
theorem RB.shift {w1 w2 : World} {v v' x : Value} {bs : List Int} (h : RB (Own v) w1 x bs) (hg : w1.grownBy w2 v.ownBlock) (hat : v'.ownBlock = v.ownBlock ∨ v'.ownBlock = some w1.heap.size) : RB (Own v') w2 x bs := by
  have hw : ∀ k, k < w1.heap.size → Own v' k → Own v k := by
    intro k hk h
    rcases hat with e | e
    · exact (by rw [← e]; exact h : v.ownBlock = some k)
    · rw [Own, e] at h; injection h with h; omega
  have h1 : RB (fun k => Own v k ∨ Own v' k) w1 x bs := h.weak (fun k hk h => h.elim id (hw k hk))
  have h2 := h1.agree ((Agree.of_grown (V := Own v) hg (fun k hk => hk)).mono (fun k hk => Or.inl hk))
  exact h2.weak (fun k _ hk => Or.inr hk)
theorem Own.lt {base : Nat} {e : TypeId} {size : Nat} {w : World} {v : Value} {n : Nat} {xs : List Value} (h : w.ownsRow base e size v n xs) : ∀ k, Own v k → k < w.heap.size := fun k hk => (h.lt k hk).2
theorem info_byte : (Try.prog.info? 5).map (fun i => (i.zero, i.size, i.bytes)) = some (some (.int .u8 0), 1, 1) := by kernel_rfl

end Go.Proofs.Ytimnepfdpehdmaa

namespace Go.Proofs.Ytimnepfdpehdmaa
open Go.RowKit
attribute [local go_sem ↓] Go.wp_at_zero Go.wp_at_succ

/-- Nodes without an error: constructed ones have no data, primitive ones no kids. -/
def okE {α : Type} (ok : List α → Prop) (x : NodeOf α) : Prop := (nestB x.1 = true ∧ x.2.1 = [] ∧ ok x.2.2) ∨ (nestB x.1 = false ∧ x.2.2 = [])
def okN : (n : Nat) → List (Nd n) → Prop
  | 0, _ => True
  | n + 1, l => ∀ x ∈ (show List (NodeOf (Nd n)) from l), okE (okN n) x
theorem okN_of : ∀ (n : Nat) (l : List (Nd n)) (d : Int), chkN n l d = 0 → okN n l
  | 0, _, _, _ => trivial
  | n + 1, l, d, h => by
    intro x hx
    have h1 : errS (chkN n) d x = 0 := fstErr_zero (errS (chkN n) d) l h x hx
    unfold errS at h1
    split at h1
    · cases h1
    split at h1
    · cases h1
    split at h1
    · cases h1
    rename_i h2
    have ih := okN_of n x.2.2 (d + 1) h1
    cases hn : nestB x.1 with
    | true => exact .inl ⟨hn, List.eq_nil_of_length_eq_zero (by
        rcases Nat.eq_zero_or_pos x.2.1.length with h | h
        · exact h
        · exact absurd (Or.inl ⟨hn, h⟩) h2), ih⟩
    | false => exact .inr ⟨hn, List.eq_nil_of_length_eq_zero (by
        rcases Nat.eq_zero_or_pos x.2.2.length with h | h
        · exact h
        · exact absurd (Or.inr ⟨hn, h⟩) h2)⟩

theorem ext_of_grown {w w' : World} (h : w.grownBy w' none) : Ext w w' := (Ext.refl w).grown h (fun k hk => by cases hk)
theorem RB.capcut {V : Nat → Prop} {w : World} {a : Option Addr} {n c : Nat} {bs : List Int} (h : RB V w (.slice a n c) bs) : RB V w (.slice a n n) bs := by
  obtain ⟨hb, a', c', hv, h1, h2, h3⟩ := h
  simp only [Value.slice.injEq] at hv
  obtain ⟨rfl, rfl, rfl⟩ := hv
  exact ⟨hb, a, bs.length, rfl, Nat.le_refl _, by omega, h3⟩
/-- It returns xs and the bytes of the nodes; only v's row may have turned. -/
def RetW (w : World) (base : Nat) (v : Value) (bs : List Int) (e : Ending) (w' : World) : Prop :=
  ∃ a c, e = .returned (.slice a bs.length c) ∧ w.grownBy w' v.ownBlock ∧ RB (fun k => k < base) w' (.slice a bs.length c) bs
/-- v, or a row that is newer than w. -/
def Later (w : World) (v o : Value) : Prop := o.ownBlock = v.ownBlock ∨ ∃ g, o.ownBlock = some g ∧ w.heap.size ≤ g
theorem Later.next {w w1 : World} {v o o' : Value} (h : Later w v o) (hw : w.heap.size ≤ w1.heap.size) (hat : o'.ownBlock = o.ownBlock ∨ o'.ownBlock = some w1.heap.size) : Later w v o' := by
  rcases hat with e | e
  · unfold Later; rw [e]; exact h
  · exact .inr ⟨_, e, hw⟩
theorem grown_step {w w1 w2 : World} {v o : Value} (h : w.grownBy w1 v.ownBlock) (hl : Later w v o) (h2 : w1.grownBy w2 o.ownBlock) : w.grownBy w2 v.ownBlock :=
  ⟨h2.os.trans h.os, h2.tape.trans h.tape, h2.output.trans h.output, Nat.le_trans h.size h2.size, fun k hk hne => (h2.block k (Nat.lt_of_lt_of_le hk h.size) (by
    rcases hl with e | ⟨g, e, hg⟩
    · rw [e]; exact hne
    · rw [e]; intro hh; injection hh with hh; omega)).trans (h.block k hk hne)⟩
theorem grown_thenExt {w w1 w2 : World} {row : Option Nat} (h : w.grownBy w1 row) (h2 : Ext w1 w2) : w.grownBy w2 row := by
  have h3 : Below w1.heap.size w1 w2 := h2
  exact ⟨h3.os.trans h.os, h3.tape.trans h.tape, h3.output.trans h.output, Nat.le_trans h.size h3.size, fun k hk hne => (h3.block k (Nat.lt_of_lt_of_le hk h.size)).trans (h.block k hk hne)⟩

set_option maxRecDepth 100000 in
set_option maxHeartbeats 4000000 in
theorem write_step {α : Type} (R : Rk α) (ok : List α → Prop) (ek : List α → List Int) (l : List (NodeOf α)) (lv v : Value) (base : Nat) (xs : List Int) (w : World) (h : (nodesRk R).rk (Own v) w lv l)
    (hown : w.ownsRow base 5 1 v xs.length (xs.map (Value.int .u8))) (hbase : base ≤ w.heap.size) (hxs : Byt xs) (hok : ∀ x ∈ l, okE ok x) (hek : ek [] = [])
    (hk : ∀ x ∈ l, ok x.2.2 → ∀ w1 kv, R.rk (Own (.slice none 0 0)) w1 kv x.2.2 → Calls Try.prog 57 #[.slice none 0 0, kv] w1 (RetW w1 w1.heap.size (.slice none 0 0) (ek x.2.2)))
    (hb : (encS ek l).length ≤ 4000000000) (hxl : xs.length ≤ 1000000000) (hll : l.length ≤ 1000000000) : Calls Try.prog 57 #[v, lv] w (RetW w base v (xs ++ encS ek l)) := by
  obtain ⟨i0, hi0, hz0, hz1, hz2⟩ := info_parts info_byte
  obtain ⟨a, c, rfl, hc1, hc2⟩ := (nodesRk R).form h
  obtain ⟨va, vc, rfl⟩ := owns_slice hown
  have HB := Lib.hid hb
  have HH := Lib.hid h
  have HK := Lib.hid hk
  have HO := Lib.hid hown
  have HXS := Lib.hid hxs
  have HOK := Lib.hid hok
  have HEK := Lib.hid hek
  clear hb h hk hc2 hown hxs hok hek
  generalize hV : Value.slice va xs.length vc = V at *
  have HVV := Lib.hid hV
  clear hV
  go_enter Try.func57, Try.ntmps57
  go_wp2
  go_loopw [0, 10] (fun o i wr => ∃ (k : Nat), k ≤ l.length ∧ i = .int .i64 k ∧ wr.ownsRow base 5 1 o (xs ++ encS ek (l.take k)).length ((xs ++ encS ek (l.take k)).map (Value.int .u8)) ∧ Byt (xs ++ encS ek (l.take k)) ∧ w.grownBy wr V.ownBlock ∧ Later w V o) (fun _ i _ => l.length - (intOf i).toNat)
  case atStart => exact ⟨0, Nat.zero_le _, rfl, by simpa [encS] using HO.out, by simpa [encS] using HXS.out, World.grownBy.refl _ _, .inl rfl⟩
  case round =>
    obtain ⟨k, hk1, rfl, hown, hbyt, hgr, hlater⟩ := hrel
    by_cases hlt : k < l.length
    · have hrk : (nodesRk R).rk (Own u0) wr (.slice a l.length c) l := by
        have h1 : (nodesRk R).rk (fun g => Own V g ∨ Own u0 g) w (.slice a l.length c) l := (nodesRk R).weak HH.out (fun g hg hh => by
          rcases hh with hh | hh
          · exact hh
          · rcases hlater with e | ⟨g', e, hg'⟩
            · exact (by rw [← e]; exact hh : V.ownBlock = some g)
            · rw [Own, e] at hh; injection hh with hh; omega)
        exact (nodesRk R).weak ((nodesRk R).agree h1 ((Agree.of_grown (V := Own V) hgr (fun _ hh => hh)).mono (fun _ hh => Or.inl hh))) (fun _ _ hh => Or.inr hh)
      obtain ⟨b, off, c', da, dc, ka, kc, hv, hcap, _, g0, g1, g2, hd, hkk⟩ := node_at hrk hlt
      have hokk := HOK.out l[k] (List.getElem_mem hlt)
      have hcall := Lib.hid (HK.out l[k] (List.getElem_mem hlt))
      have hsum : encS ek (l.take (k + 1)) = encS ek (l.take k) ++ encE ek l[k] := flatMap_take_succ (encE ek) l k hlt
      have hle : (encS ek (l.take (k + 1))).length ≤ (encS ek l).length := by
        have := sum_take_le (szE fun ks => (ek ks).length) l (k + 1)
        rw [encS_len, encS_len]; exact this
      have hbb := HB.out
      generalize hS : encS ek (l.take k) = S at *
      generalize hS' : encS ek (l.take (k + 1)) = S' at *
      generalize hx1 : l[k] = x at *
      obtain ⟨t, d, ks⟩ := x
      simp only [encE, okE] at *
      have hlen : S'.length = S.length + (1 + (lenB (d.length + (ek ks).length)).length + (d.length + (ek ks).length)) := by rw [hsum]; simp; omega
      have b1 : S.length + (1 + (lenB (d.length + (ek ks).length)).length + (d.length + (ek ks).length)) ≤ 4000000000 := by omega
      have HS := Lib.hid hsum
      have HS2 := Lib.hid hS'
      have HKK := Lib.hid hkk
      have HO := Lib.hid hown
      have HBY := Lib.hid hbyt
      have HD := Lib.hid hd
      have HGR := Lib.hid hgr
      have HLA := Lib.hid hlater
      have HOL := Lib.hid (Own.lt hown)
      have hn := Lib.hid (fun w1 => nestedP_any t w1)
      have hsz : w.heap.size ≤ wr.heap.size := hgr.size
      simp only [Value.slice.injEq] at hv
      obtain ⟨rfl, -, rfl⟩ := hv
      generalize hss : (xs ++ S).length = sl at *
      have hsl : sl ≤ 1000000000 + S.length := by rw [← hss, List.length_append]; omega
      have HSL := Lib.hid hss
      clear hsum hS hS' hx1 hkk hle hbb HB HK hd hlen hown hbyt hrk hgr hlater hss HH HVV HOK
      have hki : (k : Int) < l.length := by omega
      -- the rest of a round, once the contents are known
      have fin : ∀ (S8 : World) (A8 : Option Addr) (c8 m : Nat) (cc : List Int), Byt cc → S' = S ++ (t % 256 :: (lenB m ++ cc)) → m = cc.length → S8.ownsRow base 5 1 (.slice A8 (sl + 1 + (lenB m).length + m) c8) (sl + 1 + (lenB m).length + m) ((xs ++ S).map (Value.int .u8) ++ [Value.int .u8 (t % 256)] ++ (lenB m).map (Value.int .u8) ++ cc.map (Value.int .u8)) →
          S8.ownsRow base 5 1 (.slice A8 (sl + 1 + (lenB m).length + m) c8) (xs ++ encS ek (l.take (k + 1))).length ((xs ++ encS ek (l.take (k + 1))).map (Value.int .u8)) ∧ Byt (xs ++ encS ek (l.take (k + 1))) := by
        intro S8 A8 c8 m cc hcc hS' hm h8
        have hl8 : sl + 1 + (lenB m).length + m = (xs ++ S').length := by
          have h5 := HSL.out
          rw [List.length_append] at h5
          rw [hS']
          simp only [List.length_append, List.length_cons]
          omega
        rw [HS2.out]
        refine ⟨?_, ?_⟩
        · rw [← hl8]
          have e : (xs ++ S').map (Value.int .u8) = (xs ++ S).map (Value.int .u8) ++ [Value.int .u8 (t % 256)] ++ (lenB m).map (Value.int .u8) ++ cc.map (Value.int .u8) := by
            rw [hS']; simp
          rw [e]; exact h8
        · rw [hS', ← List.append_assoc]
          refine HBY.out.append (fun y hy => ?_)
          rcases List.mem_cons.1 hy with hy | hy
          · subst hy; omega
          · exact (lenB_byt m).append hcc y hy
      have FIN := Lib.hid fin
      clear fin
      rcases hokk with ⟨hnt, rfl, hok1⟩ | ⟨hnt, rfl⟩
      · -- a constructed node
        have hcl := Lib.hid (hcall.out hok1)
        have hn2 := Lib.hid (fun w1 => hnt ▸ hn.out w1)
        generalize hz : ek ks = z at *
        simp only [List.length_nil, Nat.zero_add, List.nil_append] at *
        have HSZ : Hid (S' = S ++ (t % 256 :: (lenB z.length ++ z))) := HS.out
        clear hcall hok1 hn hnt hz HD HS
        generalize hmm : z.length = m at *
        have HM := Lib.hid hmm
        clear hmm
        have hlb := lenB_le m
        have hlt2 : w.heap.size ≤ wr.heap.size := hsz
        go_wp2_with (first
          | (go_at_call 68; refine (hn2.out _).mono ?_; rintro e w1 ⟨rfl, rfl⟩)
          | (go_at_call 57; refine (hcl.out _ _ (R.weak (R.ext HKK.out ((Ext.refl _).alloc _)) (fun _ _ h => by cases h))).mono ?_; rintro e w1 ⟨a1, c1, he, hg1, hr1⟩; rw [HM.out] at he hr1; subst he; have EX1 : Ext wr w1 := ((Ext.refl _).alloc _).trans (ext_of_grown hg1); have gb := (ext_of_grown hg1).cell (p := ⟨wr.heap.size, 0, none⟩) (v := .int .i64 t) (by simp); have HC := Lib.hid (hr1.weak (V' := Own u0) (fun g _ hg => Nat.lt_trans (HOL.out g hg) (by simp))))
          | (at_builtin; refine wpList_append_src _ rfl (.tmp 22) (.tmp 26) _ rfl base 5 i0 _ 1 1 Try.underlying51 hi0 hz0 hz1 hz2 rfl (by omega) _ sl _ rfl ((own_ext HO.out EX1).alloc _) _ 1 1 _ rfl (Src.lit _ #[_] _ 1 rfl (by simp [Value.oneCell'])) (by unfold maxLen; omega) (by omega) (Nat.le_trans hbase (Nat.le_trans (Nat.le_trans hsz EX1.size) (by simp))) ?_; intro A4 c4 w4 hown4 hg4 hat4; have hG4 := Lib.hid (grown_step (grown_thenExt HGR.out (EX1.alloc _)) HLA.out hg4); have hL4 := Lib.hid (HLA.out.next (Nat.le_trans (Nat.le_trans hsz EX1.size) (by simp)) hat4); have hC4 := Lib.hid ((HC.out.ext ((Ext.refl _).alloc _)).shift hg4 hat4); have hz4 := hg4.size)
          | (go_at_call 70; refine (lengthBytes_any m _).mono ?_; rintro e w5 ⟨a5, c5, rfl, he5, hr5⟩)
          | (at_builtin; refine wpList_append_src _ rfl (.tmp 28) (.tmp 31) _ rfl base 5 i0 _ 1 1 Try.underlying51 hi0 hz0 hz1 hz2 rfl (by omega) _ (sl + 1) _ rfl (own_ext hown4 he5) a5 (lenB m).length c5 _ rfl (Src.bytes (hr5 Any (fun _ h => h.elim))) (by unfold maxLen; omega) (by omega) (Nat.le_trans hbase (grown_thenExt hG4.out he5).size) ?_; intro A6 c6 w6 hown6 hg6 hat6; have hG6 := Lib.hid (grown_step (grown_thenExt hG4.out he5) hL4.out hg6); have hL6 := Lib.hid (hL4.out.next (grown_thenExt hG4.out he5).size hat6); have hC6 := Lib.hid ((hC4.out.ext he5).shift hg6 hat6))
          | (at_builtin; refine wpList_append_src _ rfl (.tmp 33) (.tmp 34) _ rfl base 5 i0 _ 1 1 Try.underlying51 hi0 hz0 hz1 hz2 rfl (by omega) _ (sl + 1 + (lenB m).length) _ rfl hown6 _ m _ _ rfl (Src.bytes hC6.out) (by unfold maxLen; omega) (by omega) (Nat.le_trans hbase hG6.out.size) ?_; intro A8 c8 w8 hown8 hg8 hat8; have hG8 := Lib.hid (grown_step hG6.out hL6.out hg8); have hL8 := Lib.hid (hL6.out.next hG6.out.size hat8)))
        obtain ⟨f1, f2⟩ := FIN.out w8 A8 c8 m z hC6.out.byt HSZ.out HM.out.symm hown8
        have F1 := Lib.hid f1
        have F2 := Lib.hid f2
        clear f1 f2
        go_roundw
        case rel => exact ⟨k + 1, by omega, by go_num, F1.out, F2.out, hG8.out, hL8.out⟩
        case measure => simp [intOf]; omega
      · -- a primitive node
        have hn2 := Lib.hid (fun w1 => hnt ▸ hn.out w1)
        rw [HEK.out] at b1
        simp only [List.length_nil, Nat.add_zero] at b1 g2
        have HSZ : Hid (S' = S ++ (t % 256 :: (lenB d.length ++ d))) := by
          have := HS.out
          rw [HEK.out] at this
          have h2 : S' = S ++ (t % 256 :: (lenB d.length ++ d)) := by simpa using this
          exact h2
        clear hcall hn hnt HS HKK
        generalize hmm : d.length = m at *
        have HM := Lib.hid hmm
        clear hmm
        have hlb := lenB_le m
        have EX1 : Ext wr (wr.alloc (.cells #[.int .i64 t, .slice da m dc, .slice ka 0 kc] 95)) := (Ext.refl _).alloc _
        have HC := Lib.hid (HD.out.ext EX1)
        go_wp2_with (first
          | (go_at_call 68; refine (hn2.out _).mono ?_; rintro e w1 ⟨rfl, rfl⟩)
          | (at_builtin; refine wpList_append_src _ rfl (.tmp 22) (.tmp 26) _ rfl base 5 i0 _ 1 1 Try.underlying51 hi0 hz0 hz1 hz2 rfl (by omega) _ sl _ rfl ((own_ext HO.out EX1).alloc _) _ 1 1 _ rfl (Src.litB _ #[.int .u8 (t % 256)] _ 1 _ (by simp) rfl (by simp [Value.oneCell'])) (by unfold maxLen; omega) (by omega) (Nat.le_trans hbase (Nat.le_trans (Nat.le_trans hsz EX1.size) (by simp))) ?_; intro A4 c4 w4 hown4 hg4 hat4; have hG4 := Lib.hid (grown_step (grown_thenExt HGR.out (EX1.alloc _)) HLA.out hg4); have hL4 := Lib.hid (HLA.out.next (Nat.le_trans (Nat.le_trans hsz EX1.size) (by simp)) hat4); have hC4 := Lib.hid ((HC.out.ext ((Ext.refl _).alloc _)).shift hg4 hat4); have hz4 := hg4.size)
          | (go_at_call 70; refine (lengthBytes_any m _).mono ?_; rintro e w5 ⟨a5, c5, rfl, he5, hr5⟩)
          | (at_builtin; refine wpList_append_src _ rfl (.tmp 28) (.tmp 31) _ rfl base 5 i0 _ 1 1 Try.underlying51 hi0 hz0 hz1 hz2 rfl (by omega) _ (sl + 1) _ rfl (own_ext hown4 he5) a5 (lenB m).length c5 _ rfl (Src.bytes (hr5 Any (fun _ h => h.elim))) (by unfold maxLen; omega) (by omega) (Nat.le_trans hbase (grown_thenExt hG4.out he5).size) ?_; intro A6 c6 w6 hown6 hg6 hat6; have hG6 := Lib.hid (grown_step (grown_thenExt hG4.out he5) hL4.out hg6); have hL6 := Lib.hid (hL4.out.next (grown_thenExt hG4.out he5).size hat6); have hC6 := Lib.hid ((hC4.out.ext he5).shift hg6 hat6))
          | (at_builtin; refine wpList_append_src _ rfl (.tmp 33) (.tmp 34) _ rfl base 5 i0 _ 1 1 Try.underlying51 hi0 hz0 hz1 hz2 rfl (by omega) _ (sl + 1 + (lenB m).length) _ rfl hown6 _ m _ _ rfl (Src.bytes hC6.out) (by unfold maxLen; omega) (by omega) (Nat.le_trans hbase hG6.out.size) ?_; intro A8 c8 w8 hown8 hg8 hat8; have hG8 := Lib.hid (grown_step hG6.out hL6.out hg8); have hL8 := Lib.hid (hL6.out.next hG6.out.size hat8)))
        obtain ⟨f1, f2⟩ := FIN.out w8 A8 c8 m d hC6.out.byt HSZ.out HM.out.symm hown8
        have F1 := Lib.hid f1
        have F2 := Lib.hid f2
        clear f1 f2
        go_roundw
        case rel => exact ⟨k + 1, by omega, by go_num, F1.out, F2.out, hG8.out, hL8.out⟩
        case measure => simp [intOf]; omega
    · have hl := take_all l k (by omega)
      rw [hl] at hown hbyt
      have HO2 := Lib.hid hown
      have HBY := Lib.hid hbyt
      have HGR := Lib.hid hgr
      generalize hss : (xs ++ encS ek l).length = sl at *
      have HSL := Lib.hid hss
      rcases hown.2 with ⟨rfl, hn0⟩ | ⟨g, cap, cur, rfl, hbg, hgg, hnc, hcm, -⟩
      · subst hn0
        clear hown hbyt hgr hlater hss
        go_wp2
        go_ret
        refine ⟨none, 0, by rw [HSL.out]; rfl, HGR.out, ?_⟩
        have h := RB.of_own (V := fun k => k < base) (bs := xs ++ encS ek l) (by rw [HSL.out]; exact HO2.out) HBY.out (fun k hk => hk)
        rw [HSL.out]
        exact h
      · have hm2 : sl ≤ 9223372036854775807 := by unfold maxLen at hcm; omega
        have hc0 : (0 : Int) ≤ sl := by omega
        have hc1 : (sl : Int) ≤ cap := by omega
        clear hown hbyt hgr hlater hss hgg hcm
        go_wp2
        go_ret
        refine ⟨some ⟨g, 0, none⟩, sl, by rw [HSL.out]; rfl, HGR.out, ?_⟩
        have h := (RB.of_own (V := fun k => k < base) (bs := xs ++ encS ek l) (by rw [HSL.out]; exact HO2.out) HBY.out (fun k hk => hk)).capcut
        rw [HSL.out]
        exact h
theorem write_any : ∀ (n : Nat) (l : List (Nd n)) (lv v : Value) (base : Nat) (xs : List Int) (w : World), (RkN n).rk (Own v) w lv l → w.ownsRow base 5 1 v xs.length (xs.map (Value.int .u8)) → base ≤ w.heap.size → Byt xs → okN n l →
    cntN n l ≤ 1000000000 → xs.length ≤ 1000000000 → Calls Try.prog 57 #[v, lv] w (RetW w base v (xs ++ encN n l))
  | 0, l, lv, v, base, xs, w, h, ho, hb, hx, _, _, hxl => by
    have hl := nd_zero l
    subst hl
    exact write_step (α := Empty) emptyRk (fun _ => True) (fun _ => []) [] lv v base xs w (rkn_zero h) ho hb hx (fun x hx => by cases hx) rfl (fun x hx => by cases hx) (by simp [encS]) hxl (by simp)
  | n + 1, l, lv, v, base, xs, w, h, ho, hb, hx, hok, hc, hxl => write_step (RkN n) (okN n) (encN n) l lv v base xs w h ho hb hx hok (encN_nil n) (fun x hx hok1 w1 kv hkv => write_any n x.2.2 kv (.slice none 0 0) w1.heap.size [] w1 hkv (World.ownsRow_nil _ _ _ _) (Nat.le_refl _) Byt.nil hok1 (by
      have h1 : cntS (cntN n) l ≤ 1000000000 := hc
      have h2 := sum_mem_le (fun x : NodeOf (Nd n) => x.2.1.length + cntN n x.2.2) l x hx
      unfold cntS at h1
      omega) (by simp)) (by have := szN_le (n + 1) l; have := encN_len (n + 1) l; show (encN (n + 1) l).length ≤ _; omega) hxl (by
      have h1 : cntS (cntN n) l ≤ 1000000000 := hc
      unfold cntS at h1
      omega)
end Go.Proofs.Ytimnepfdpehdmaa

namespace Go.Proofs.Ytimnepfdpehdmaa
open Go.RowKit

theorem RB.conv {P : Program} {V : Nat → Prop} {w : World} {a : Option Addr} {n c : Nat} {bs : List Int} (h : RB V w (.slice a n c) bs) (src dst e : TypeId) (hs : P.underlying src = some (.slice e)) (he : P.underlying e = some (.int .u8)) (hd : P.underlying dst = some .string) :
    (convert src dst (.slice a n c)).run P w = .ok (.string (strOfNums bs)) w := by
  obtain ⟨hb, a', c', hv, h1, h2, h3⟩ := h
  simp only [Value.slice.injEq] at hv
  obtain ⟨rfl, rfl, rfl⟩ := hv
  by_cases hne : bs = []
  · subst hne
    cases a with
    | none => exact run_convert_bytes_nil w src e hs he _ _ dst hd
    | some ad =>
      have hl : (loadCells ad 0).run P w = .ok (([] : List Int).map (Value.int .u8)).toArray w := by simp [loadCells, loadCellsFrom]
      rw [run_convert_bytes_string w src dst e _ _ c hs he hd, List.length_nil, run_bytesToString w ad 0 c [] hl]
      rfl
  · obtain ⟨b, off, rfl, _, hc⟩ := h3 hne
    refine run_convert_bytes_arg w src e hs he b off bs.length c bs rfl (fun i hi => ?_) dst hd
    rw [hc i hi]
    simp [List.getD, List.getElem?_eq_getElem hi]
theorem byte_inj {x y : Int} (hx : 0 ≤ x ∧ x ≤ 255) (hy : 0 ≤ y ∧ y ≤ 255) (h : UInt8.ofNat x.toNat = UInt8.ofNat y.toNat) : x = y := by
  have h2 := congrArg UInt8.toNat h
  simp only [UInt8.toNat_ofNat'] at h2
  omega
theorem nums_inj : ∀ (a b : List Int), Byt a → Byt b → (a.map fun n => UInt8.ofNat n.toNat) = (b.map fun n => UInt8.ofNat n.toNat) → a = b
  | [], [], _, _, _ => rfl
  | [], _ :: _, _, _, h => by simp at h
  | _ :: _, [], _, _, h => by simp at h
  | x :: a, y :: b, ha, hb, h => by
    simp only [List.map_cons, List.cons.injEq] at h
    have h1 := byte_inj (ha x (by simp)) (hb y (by simp)) h.1
    have h2 := nums_inj a b (fun z hz => ha z (by simp [hz])) (fun z hz => hb z (by simp [hz])) h.2
    rw [h1, h2]
theorem str_eq {a b : List Int} (ha : Byt a) (hb : Byt b) : ((strOfNums a).toList == (strOfNums b).toList) = decide (a = b) := by
  rw [Lib.strOfNums_toList, Lib.strOfNums_toList, Bool.eq_iff_iff, beq_iff_eq, decide_eq_true_eq]
  exact ⟨fun h => nums_inj a b ha hb h, fun h => by rw [h]⟩
end Go.Proofs.Ytimnepfdpehdmaa

namespace Go.Proofs.Ytimnepfdpehdmaa
open Go.RowKit
attribute [local go_sem ↓] Go.wp_at_zero Go.wp_at_succ

/-- It returns a new byte slice and an error. -/
def RetBE (w : World) (bs : List Int) (er : Int) (e : Ending) (w' : World) : Prop :=
  ∃ a c, e = .returned (.tuple #[.slice a bs.length c, .int .i64 er]) ∧ Ext w w' ∧ ∀ V : Nat → Prop, (∀ k, V k → k < w.heap.size) → RB V w' (.slice a bs.length c) bs
theorem RetBE.nil {w w' : World} (er : Int) (h : Ext w w') : RetBE w [] er (.returned (.tuple #[.slice none 0 0, .int .i64 er])) w' := ⟨none, 0, rfl, h, fun V _ => RB.nil V w'⟩
/-- What Encode gives. -/
def encOut (n : Nat) (l : List (Nd n)) : List Int := if chkN n l 0 = 0 then if szN n l ≤ 1500 then encN n l else [] else []
def encErr (n : Nat) (l : List (Nd n)) : Int := if chkN n l 0 = 0 then if szN n l ≤ 1500 then 0 else 4 else chkN n l 0

set_option maxRecDepth 100000 in
set_option maxHeartbeats 1000000 in
theorem encodeP_any (n : Nat) (V : Nat → Prop) (l : List (Nd n)) (v : Value) (w : World) (h : (RkN n).rk V w v l) (hb : cntN n l ≤ 1000000000) :
    Calls Try.prog 31 #[v] w (RetBE w (encOut n l) (encErr n l)) := by
  have HM := Lib.hid (measure_any n V l 0 v w h (by omega) (by omega) hb)
  have HL := Lib.hid (encN_len n l)
  by_cases he : chkN n l 0 = 0
  · rw [he] at HM
    by_cases hs : szN n l ≤ 1500
    · have HE : Hid (RetBE w (encOut n l) (encErr n l) = RetBE w (encN n l) 0) := by
        show RetBE w (encOut n l) (encErr n l) = RetBE w (encN n l) 0
        unfold encOut encErr; rw [if_pos he, if_pos hs, if_pos he, if_pos hs]
      rw [HE.out]
      have HW := Lib.hid (fun (w1 : World) (hw1 : Ext w w1) (v0 : Value) (ho : w1.ownsRow w.heap.size 5 1 v0 0 []) => write_any n l v v0 w.heap.size [] w1 ((RkN n).ext ((RkN n).weak h (fun k hk hh => by have := (ho.lt k hh).1; omega)) hw1) ho hw1.size Byt.nil (okN_of n l 0 he) hb (by simp))
      obtain ⟨i0, hi0, hz0, hz1, hz2⟩ := info_parts info_byte
      have HN : Hid (numErr (szN n l) 0 = .tuple #[.int .i64 ((szN n l : Nat) : Int), .int .i64 0]) := rfl
      rw [HN.out] at HM
      clear h he HE HN
      generalize szN n l = sz at *
      generalize encN n l = bs at *
      have hs2 : ¬ (1500 : Int) < sz := by omega
      go_enter Try.func31, Try.ntmps31
      go_wp2_with (first
        | (go_at_call 56; refine HM.out.mono ?_; rintro e w1 ⟨rfl, he1⟩)
        | (at_make; refine wpList_make_own _ rfl _ _ 51 rfl w.heap.size 5 i0 _ 1 Try.underlying51 hi0 hz0 hz1 _ _ _ sz rfl rfl (by omega) (by rw [hz2]; omega) (by unfold maxLen; omega) he1.size ?_; intro w2 hown2 hg2; have he2 := he1.trans (ext_of_grown hg2))
        | (go_at_call 57; refine (HW.out _ he2 _ hown2).mono ?_; rintro e w3 ⟨a3, c3, rfl, hg3, hr3⟩))
      go_ret2
      refine ⟨a3, c3, by simp, he2.grown hg3 (fun k hk => (hown2.lt k hk).1), fun V' hV' => ?_⟩
      exact hr3.weak (fun k _ hk => hV' k hk)
    · have HE : Hid (RetBE w (encOut n l) (encErr n l) = RetBE w [] 4) := by
        show RetBE w (encOut n l) (encErr n l) = RetBE w [] 4
        unfold encOut encErr; rw [if_pos he, if_neg hs, if_pos he, if_neg hs]
      rw [HE.out]
      have HN : Hid (numErr (szN n l) 0 = .tuple #[.int .i64 ((szN n l : Nat) : Int), .int .i64 0]) := rfl
      rw [HN.out] at HM
      clear h he HE HN
      generalize szN n l = sz at *
      have hs2 : (1500 : Int) < sz := by omega
      go_enter Try.func31, Try.ntmps31
      go_wp2_with (go_at_call 56; refine HM.out.mono ?_; rintro e w1 ⟨rfl, he1⟩)
      go_ret2
      exact RetBE.nil 4 he1
  · have HE : Hid (RetBE w (encOut n l) (encErr n l) = RetBE w [] (chkN n l 0)) := by
      show RetBE w (encOut n l) (encErr n l) = RetBE w [] (chkN n l 0)
      unfold encOut encErr; rw [if_neg he, if_neg he]
    rw [HE.out]
    have HN : Hid (numErr (szN n l) (chkN n l 0) = .tuple #[.int .i64 0, .int .i64 (chkN n l 0)]) := by show numErr _ _ = _; unfold numErr; rw [if_neg he]
    rw [HN.out] at HM
    clear h HE HN
    generalize chkN n l 0 = ee at *
    have he1 : (ee != 0) = true := by simp [he]
    go_enter Try.func31, Try.ntmps31
    go_wp2_with (go_at_call 56; refine HM.out.mono ?_; rintro e w1 ⟨rfl, hx1⟩)
    go_ret2
    exact RetBE.nil ee hx1

/-! ### Size -/
def sizeOut (n : Nat) (l : List (Nd n)) : Nat := if chkN n l 0 = 0 then szN n l else 0
end Go.Proofs.Ytimnepfdpehdmaa

namespace Go.Proofs.Ytimnepfdpehdmaa
open Go.RowKit
attribute [local go_sem ↓] Go.wp_at_zero Go.wp_at_succ

/-- A slice of one struct, written out. -/
theorem RS.one {α : Type} {V : Nat → Prop} {k : Nat} {rep : World → α → List Value → Prop} (w : World) (cs : Array Value) (t : TypeId) (B : Nat) (hB : w.heap.size = B) (x : α) (hk : cs.size = k) (hrep : rep (w.alloc (.cells cs t)) x cs.toList) (hV : ¬ V B) :
    RS V k rep (w.alloc (.cells cs t)) (.slice (some ⟨B, 0, none⟩) 1 1) [x] := by
  subst hB
  refine ⟨_, _, rfl, Nat.le_refl _, by unfold maxLen; simp, fun _ => ⟨w.heap.size, 0, rfl, hV, fun i hi => ?_⟩⟩
  have hi0 : i = 0 := by simpa using hi
  subst hi0
  refine ⟨cs.toList, by simpa using hk, hrep, fun j u hu => ?_⟩
  have := World.news_of_block (heap_alloc_new w (.cells cs t)) j u hu
  simpa [Addr.add_lit] using this
theorem rk_nil : ∀ (n : Nat) (V : Nat → Prop) (w : World), (RkN n).rk V w (.slice none 0 0) []
  | 0, V, w => (RS.nil V 3 _ w : RS V 3 (fun _ (_ : Empty) _ => True) w (.slice none 0 0) [])
  | _ + 1, V, w => RS.nil V 3 _ w
/-- Node{Tag: 48, Kids: {Node{Tag: 5}}} -/
def knownL : List (Nd 2) := [((48, [], [((5, [], []) : NodeOf (Nd 0))]) : NodeOf (Nd 1))]
theorem known_out : encOut 2 knownL = [48, 2, 5, 0] := by decide +kernel
theorem known_err : encErr 2 knownL = 0 := by decide +kernel

end Go.Proofs.Ytimnepfdpehdmaa
