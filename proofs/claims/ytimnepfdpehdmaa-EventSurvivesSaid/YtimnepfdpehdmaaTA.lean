/- Words for memory that all walks of this seat share: a world that extends another one, byte slices and slices of structs that read as lists, rows that a call builds by append. Nothing of the program stands here. -/
import Derived.WalkKit
import Derived.WalkLawsBesides
import Derived.WalkSpells
import Derived.Lib.Hide
import Derived.Deep.RegionHeld3
import Derived.Deep.DrawnRows
import Derived.Deep.AppendLies
import Derived.Maps.AppendAt
import Derived.Laws.AppendOwnNone
import Derived.BigQuiet
import Derived.Deep.Draws
import Derived.Laws.CopyOwn
import Derived.Laws.OwnMore
import Derived.Lib.AppendZerosOnto
import Derived.Lib.Overlaps
import Derived.Laws.Tables
import Derived.Laws.Rows
import Derived.StillTail
import Derived.StillTailTactics
import Derived.OrdersHeld
namespace Go.Proofs.Ytimnepfdpehdmaa
open Go.RowKit

/-! ### Worlds -/
/-- w' is w with new blocks: nothing that was there has turned. -/
def Ext (w w' : World) : Prop := Below w.heap.size w w'
theorem Ext.refl (w : World) : Ext w w := Below.refl _ _
theorem Ext.trans {a b c : World} (h : Ext a b) (k : Ext b c) : Ext a c := Below.trans h (Below.mono k h.size)
theorem Ext.size {w w' : World} (h : Ext w w') : w.heap.size ≤ w'.heap.size := Below.size h
theorem Ext.cell {w w' : World} (h : Ext w w') {p : Addr} {v : Value} (hc : w.cell? p = some v) : w'.cell? p = some v :=
  (Below.cell h (World.block_lt_of_cell? w p hc)).trans hc
theorem Ext.frozen {w w' : World} (h : Ext w w') {p : Addr} (hp : p.block < w.heap.size) : w'.frozen? p = w.frozen? p := Below.frozen h hp
theorem Ext.drew {a w : World} (h : Ext a w) : Ext a w.drew := Below.drew h
theorem Ext.drewN {a w : World} (h : Ext a w) (n : Nat) : Ext a (w.drewN n) := by
  have h' : Below a.heap.size a w := h
  exact (⟨h'.os, h'.tape, h'.output, h'.size, h'.block⟩ : Below a.heap.size a (w.drewN n))
theorem Ext.alloc {a w : World} (h : Ext a w) (o : Obj) : Ext a (w.alloc o) := Below.alloc h h.size o
theorem Ext.setCell {a w : World} (h : Ext a w) {p : Addr} (hp : a.heap.size ≤ p.block) (u : Value) : Ext a (w.setCell p u) := Below.setCell h hp u
theorem Ext.grown {a w w' : World} {row : Option Nat} (h : Ext a w) (hg : w.grownBy w' row) (hr : ∀ k, row = some k → a.heap.size ≤ k) : Ext a w' := Below.grown h hg h.size hr
theorem Ext.lt {w w' : World} (h : Ext w w') {k : Nat} (hk : k < w.heap.size) : k < w'.heap.size := Nat.lt_of_lt_of_le hk h.size

/-- w' is as w was, but for new blocks and for the blocks of V. -/
structure Agree (V : Nat → Prop) (w w' : World) : Prop where
  size : w.heap.size ≤ w'.heap.size
  block : ∀ k, k < w.heap.size → ¬ V k → w'.heap[k]? = w.heap[k]?
theorem Agree.refl (V : Nat → Prop) (w : World) : Agree V w w := ⟨Nat.le_refl _, fun _ _ _ => rfl⟩
theorem Agree.cell {V : Nat → Prop} {w w' : World} (h : Agree V w w') {p : Addr} {v : Value} (hp : ¬ V p.block) (hc : w.cell? p = some v) : w'.cell? p = some v :=
  (World.cell?_of_block (h.block p.block (World.block_lt_of_cell? w p hc) hp)).trans hc
theorem Ext.agree {w w' : World} (h : Ext w w') (V : Nat → Prop) : Agree V w w' := ⟨h.size, fun k hk _ => Below.block h k hk⟩
theorem Agree.of_grown {V : Nat → Prop} {w w' : World} {row : Option Nat} (h : w.grownBy w' row) (hr : ∀ k, row = some k → V k) : Agree V w w' :=
  ⟨h.size, fun k hk hv => h.block k hk (fun e => hv (hr k e.symm))⟩
theorem Agree.trans {V : Nat → Prop} {a b c : World} (h : Agree V a b) (k : Agree V b c) : Agree V a c :=
  ⟨Nat.le_trans h.size k.size, fun i hi hv => (k.block i (Nat.lt_of_lt_of_le hi h.size) hv).trans (h.block i hi hv)⟩
theorem Agree.mono {V V' : Nat → Prop} {a b : World} (h : Agree V a b) (hv : ∀ k, V k → V' k) : Agree V' a b :=
  ⟨h.size, fun i hi hn => h.block i hi (fun hh => hn (hv i hh))⟩

/-! ### Endings and numbers -/
theorem ret_int {k : IntKind} {a b : Int} (h : a = b) : Ending.returned (.int k a) = .returned (.int k b) := by rw [h]
theorem ret_bool {a b : Bool} (h : a = b) : Ending.returned (.bool a) = .returned (.bool b) := by rw [h]
theorem val_int {k : IntKind} {a b : Int} (h : a = b) : Value.int k a = Value.int k b := by rw [h]
theorem val_bool {a b : Bool} (h : a = b) : Value.bool a = Value.bool b := by rw [h]
theorem wrap_id (a : Int) (h1 : -1000000000000 ≤ a) (h2 : a ≤ 1000000000000) : IntKind.i64.wrap a = a := IntWalk.i64_in a (by omega)
theorem wrap_nat (a b : Nat) (h : a + b ≤ 1000000000000) : IntKind.i64.wrap ((a : Int) + b) = ((a + b : Nat) : Int) := by rw [wrap_id _ (by omega) (by omega)]; omega

/-! ### Byte slices -/
/-- Each number is a byte. -/
def Byt (bs : List Int) : Prop := ∀ x ∈ bs, 0 ≤ x ∧ x ≤ 255
/-- The value v is a slice of bytes that reads as bs, in blocks outside V. -/
def RB (V : Nat → Prop) (w : World) (v : Value) (bs : List Int) : Prop :=
  Byt bs ∧ ∃ a c, v = .slice a bs.length c ∧ bs.length ≤ c ∧ c ≤ maxLen ∧
    (bs ≠ [] → ∃ b off, a = some ⟨b, off, none⟩ ∧ ¬ V b ∧ ∀ j (h : j < bs.length), w.cell? ⟨b, off + j, none⟩ = some (.int .u8 bs[j]))
/-- No block is barred. -/
def Any : Nat → Prop := fun _ => False

theorem RB.agree {V : Nat → Prop} {w w' : World} {v : Value} {bs : List Int} (h : RB V w v bs) (hw : Agree V w w') : RB V w' v bs := by
  obtain ⟨hb, a, c, hv, h1, h2, h3⟩ := h
  refine ⟨hb, a, c, hv, h1, h2, fun hne => ?_⟩
  obtain ⟨b, off, e, hV, hc⟩ := h3 hne
  exact ⟨b, off, e, hV, fun j hj => hw.cell (p := ⟨b, off + j, none⟩) hV (hc j hj)⟩
theorem RB.ext {V : Nat → Prop} {w w' : World} {v : Value} {bs : List Int} (h : RB V w v bs) (hw : Ext w w') : RB V w' v bs := h.agree (hw.agree V)
theorem RB.weak {V V' : Nat → Prop} {w : World} {v : Value} {bs : List Int} (h : RB V w v bs) (hv : ∀ k, k < w.heap.size → V' k → V k) : RB V' w v bs := by
  obtain ⟨hb, a, c, hv', h1, h2, h3⟩ := h
  refine ⟨hb, a, c, hv', h1, h2, fun hne => ?_⟩
  obtain ⟨b, off, e, hV, hc⟩ := h3 hne
  have hl : 0 < bs.length := List.length_pos_iff.2 hne
  exact ⟨b, off, e, fun h => hV (hv _ (World.block_lt_of_cell? w ⟨b, off + 0, none⟩ (hc 0 hl)) h), hc⟩
theorem RB.any {V : Nat → Prop} {w : World} {v : Value} {bs : List Int} (h : RB V w v bs) : RB Any w v bs := h.weak fun _ _ h => h.elim
theorem RB.byt {V : Nat → Prop} {w : World} {v : Value} {bs : List Int} (h : RB V w v bs) : Byt bs := h.1
theorem RB.le {V : Nat → Prop} {w : World} {v : Value} {bs : List Int} (h : RB V w v bs) : bs.length ≤ maxLen := by
  obtain ⟨_, _, _, _, h1, h2, _⟩ := h; omega
/-- nil -/
theorem RB.nil (V : Nat → Prop) (w : World) : RB V w (.slice none 0 0) [] := ⟨fun _ h => by simp at h, none, 0, rfl, Nat.le_refl _, Nat.zero_le _, fun h => absurd rfl h⟩
theorem Byt.append {a b : List Int} (h : Byt a) (k : Byt b) : Byt (a ++ b) := fun x hx => by
  rcases List.mem_append.1 hx with hx | hx
  · exact h x hx
  · exact k x hx
theorem Byt.take {a : List Int} (h : Byt a) (n : Nat) : Byt (a.take n) := fun x hx => h x (List.mem_of_mem_take hx)
theorem Byt.drop {a : List Int} (h : Byt a) (n : Nat) : Byt (a.drop n) := fun x hx => h x (List.mem_of_mem_drop hx)
theorem Byt.nil : Byt [] := fun x hx => by simp at hx

/-! ### Slices of structs of k cells -/
/-- The value v is a slice of structs (k cells each) that reads as l, element by element by 'rep', its row in a block outside V. -/
def RS {α : Type} (V : Nat → Prop) (k : Nat) (rep : World → α → List Value → Prop) (w : World) (v : Value) (l : List α) : Prop :=
  ∃ a c, v = .slice a l.length c ∧ l.length ≤ c ∧ c ≤ maxLen ∧
    (l ≠ [] → ∃ b off, a = some ⟨b, off, none⟩ ∧ ¬ V b ∧ ∀ i (h : i < l.length), ∃ cs, cs.length = k ∧ rep w l[i] cs ∧ ∀ j u, cs[j]? = some u → w.cell? ⟨b, off + i * k + j, none⟩ = some u)
section
variable {α : Type} {V : Nat → Prop} {k : Nat} {rep rep' : World → α → List Value → Prop} {w w' : World} {v : Value} {l : List α}
theorem RS.agree (h : RS V k rep w v l) (hw : Agree V w w') (hr : ∀ x ∈ l, ∀ cs, rep w x cs → rep' w' x cs) : RS V k rep' w' v l := by
  obtain ⟨a, c, hv, h1, h2, h3⟩ := h
  refine ⟨a, c, hv, h1, h2, fun hne => ?_⟩
  obtain ⟨b, off, e, hV, hc⟩ := h3 hne
  refine ⟨b, off, e, hV, fun i hi => ?_⟩
  obtain ⟨cs, hl, hrep, hcell⟩ := hc i hi
  exact ⟨cs, hl, hr _ (List.getElem_mem hi) _ hrep, fun j u hu => hw.cell (p := ⟨b, off + i * k + j, none⟩) hV (hcell j u hu)⟩
theorem RS.le (h : RS V k rep w v l) : l.length ≤ maxLen := by
  obtain ⟨_, _, _, h1, h2, _⟩ := h; omega
theorem RS.nil (V : Nat → Prop) (k : Nat) (rep : World → α → List Value → Prop) (w : World) : RS V k rep w (.slice none 0 0) [] :=
  ⟨none, 0, rfl, Nat.le_refl _, Nat.zero_le _, fun h => absurd rfl h⟩
theorem RS.weak {V' : Nat → Prop} (h : RS V k rep w v l) (hk : 0 < k) (hv : ∀ g, g < w.heap.size → V' g → V g) (hr : ∀ x ∈ l, ∀ cs, rep w x cs → rep' w x cs) : RS V' k rep' w v l := by
  obtain ⟨a, c, hv', h1, h2, h3⟩ := h
  refine ⟨a, c, hv', h1, h2, fun hne => ?_⟩
  obtain ⟨b, off, e, hV, hc⟩ := h3 hne
  have hl : 0 < l.length := List.length_pos_iff.2 hne
  refine ⟨b, off, e, fun hh => ?_, fun i hi => ?_⟩
  · obtain ⟨cs, hl', _, hcell⟩ := hc 0 hl
    have h0 : cs[0]? = some (cs[0]'(by omega)) := List.getElem?_eq_getElem (by omega)
    exact hV (hv _ (World.block_lt_of_cell? w _ (hcell 0 _ h0)) hh)
  · obtain ⟨cs, hl, hrep, hcell⟩ := hc i hi
    exact ⟨cs, hl, hr _ (List.getElem_mem hi) _ hrep, hcell⟩
/-- The cells of element i. -/
theorem RS.at_ (h : RS V k rep w v l) {i : Nat} (hi : i < l.length) : ∃ b off c cs, v = .slice (some ⟨b, off, none⟩) l.length c ∧ l.length ≤ c ∧ ¬ V b ∧ cs.length = k ∧ rep w l[i] cs ∧ ∀ j u, cs[j]? = some u → w.cell? ⟨b, off + i * k + j, none⟩ = some u := by
  obtain ⟨a, c, hv, h1, h2, h3⟩ := h
  obtain ⟨b, off, rfl, hV, hc⟩ := h3 (fun e => by subst e; simp at hi)
  obtain ⟨cs, hl, hrep, hcell⟩ := hc i hi
  exact ⟨b, off, c, cs, hv, h1, hV, hl, hrep, hcell⟩
end
theorem RB.at_ {V : Nat → Prop} {w : World} {v : Value} {bs : List Int} (h : RB V w v bs) (hne : 0 < bs.length) :
    ∃ b off c, v = .slice (some ⟨b, off, none⟩) bs.length c ∧ bs.length ≤ c ∧ c ≤ maxLen ∧ ¬ V b ∧ ∀ j (hj : j < bs.length), w.cell? ⟨b, off + j, none⟩ = some (.int .u8 bs[j]) := by
  obtain ⟨_, a, c, hv, h1, h2, h3⟩ := h
  obtain ⟨b, off, rfl, hV, hc⟩ := h3 (fun e => by subst e; simp at hne)
  exact ⟨b, off, c, hv, h1, h2, hV, hc⟩
theorem RB.form {V : Nat → Prop} {w : World} {v : Value} {bs : List Int} (h : RB V w v bs) : ∃ a c, v = .slice a bs.length c ∧ bs.length ≤ c ∧ c ≤ maxLen := by
  obtain ⟨_, a, c, hv, h1, h2, _⟩ := h
  exact ⟨a, c, hv, h1, h2⟩
theorem RS.form {α : Type} {V : Nat → Prop} {k : Nat} {rep : World → α → List Value → Prop} {w : World} {v : Value} {l : List α} (h : RS V k rep w v l) : ∃ a c, v = .slice a l.length c ∧ l.length ≤ c ∧ c ≤ maxLen := by
  obtain ⟨a, c, hv, h1, h2, _⟩ := h
  exact ⟨a, c, hv, h1, h2⟩

/-! ### Rows that a call builds -/
theorem flatten_get {k : Nat} : ∀ (css : List (List Value)), (∀ cs ∈ css, cs.length = k) → ∀ i (hi : i < css.length) j u, css[i][j]? = some u → css.flatten[i * k + j]? = some u
  | [], _, i, hi, _, _, _ => by simp at hi
  | cs :: css, hl, 0, _, j, u, hu => by
    have hj : j < cs.length := by
      rcases Nat.lt_or_ge j cs.length with h | h
      · exact h
      · simp only [List.getElem_cons_zero] at hu; rw [List.getElem?_eq_none h] at hu; cases hu
    simp only [List.flatten_cons, Nat.zero_mul, Nat.zero_add]
    rw [List.getElem?_append_left hj]
    simpa using hu
  | cs :: css, hl, i + 1, hi, j, u, hu => by
    have hk : cs.length = k := hl cs (by simp)
    have ih := flatten_get css (fun c hc => hl c (by simp [hc])) i (by simpa using hi) j u (by simpa using hu)
    simp only [List.flatten_cons]
    rw [List.getElem?_append_right (by rw [hk, Nat.add_mul]; omega), hk]
    rw [← ih]
    congr 1
    rw [Nat.add_mul]; omega
theorem flatten_len {k : Nat} : ∀ (css : List (List Value)), (∀ cs ∈ css, cs.length = k) → css.flatten.length = css.length * k
  | [], _ => by simp
  | cs :: css, hl => by
    have hk : cs.length = k := hl cs (by simp)
    have ih := flatten_len css (fun c hc => hl c (by simp [hc]))
    simp only [List.flatten_cons, List.length_append, List.length_cons, ih, hk, Nat.add_mul]; omega

/-- A row of the call's own, read as a byte slice. -/
theorem RB.of_own {V : Nat → Prop} {w : World} {base : Nat} {e : TypeId} {v : Value} {bs : List Int} (h : w.ownsRow base e 1 v bs.length (bs.map (Value.int .u8))) (hb : Byt bs) (hV : ∀ k, V k → k < base) : RB V w v bs := by
  refine ⟨hb, ?_⟩
  rcases h.2 with ⟨rfl, hn⟩ | ⟨g, cap, cur, rfl, hg, hh, hnc, hcm, hcs, ht⟩
  · have : bs = [] := List.eq_nil_of_length_eq_zero hn
    subst this
    exact ⟨none, 0, rfl, Nat.le_refl _, Nat.zero_le _, fun h => absurd rfl h⟩
  · refine ⟨_, _, rfl, hnc, hcm, fun hne => ⟨g, 0, rfl, fun hv => by have := hV _ hv; omega, fun j hj => ?_⟩⟩
    have hx := h.cells (g := g) rfl j (.int .u8 bs[j]) (by simp [hj])
    simpa [Addr.add_lit] using hx
theorem RS.of_own {α : Type} {V : Nat → Prop} {k : Nat} {rep : World → α → List Value → Prop} {w : World} {base : Nat} {e : TypeId} {v : Value} {l : List α} (css : List (List Value))
    (h : w.ownsRow base e k v l.length css.flatten) (hl : css.length = l.length) (hk : ∀ cs ∈ css, cs.length = k) (hr : ∀ i (h1 : i < l.length) (h2 : i < css.length), rep w l[i] css[i]) (hV : ∀ k, V k → k < base) : RS V k rep w v l := by
  rcases h.2 with ⟨rfl, hn⟩ | ⟨g, cap, cur, rfl, hg, hh, hnc, hcm, hcs, ht⟩
  · have : l = [] := List.eq_nil_of_length_eq_zero hn
    subst this
    exact ⟨none, 0, rfl, Nat.le_refl _, Nat.zero_le _, fun h => absurd rfl h⟩
  · refine ⟨_, _, rfl, hnc, hcm, fun hne => ⟨g, 0, rfl, fun hv => by have := hV _ hv; omega, fun i hi => ?_⟩⟩
    have hi2 : i < css.length := by omega
    refine ⟨css[i], hk _ (List.getElem_mem hi2), hr i hi hi2, fun j u hu => ?_⟩
    have hx := h.cells (g := g) rfl (i * k + j) u (flatten_get css hk i hi2 j u hu)
    simpa [Addr.add_lit, Nat.add_assoc] using hx

/-- The cells of a byte slice, as a source of append. -/
theorem RB.src {V : Nat → Prop} {w : World} {a : Option Addr} {n c : Nat} {bs : List Int} (h : RB V w (.slice a n c) bs) :
    n = bs.length ∧ (a = none → bs = []) ∧ ∀ ad, a = some ad → ∀ j u, (bs.map (Value.int .u8))[j]? = some u → w.cell? (ad.add j) = some u := by
  obtain ⟨_, a', c', hv, h1, h2, h3⟩ := h
  simp only [Value.slice.injEq] at hv
  obtain ⟨rfl, rfl, rfl⟩ := hv
  refine ⟨rfl, fun e => ?_, fun ad e j u hu => ?_⟩
  · subst e
    rcases List.eq_nil_or_concat bs with hb | ⟨_, _, hb⟩
    · exact hb
    · obtain ⟨_, _, e, _⟩ := h3 (by rw [hb]; simp)
      cases e
  · have hne : bs ≠ [] := by rintro rfl; simp at hu
    obtain ⟨b, off, e', _, hc⟩ := h3 hne
    rw [e] at e'
    injection e' with e'
    subst e'
    have hj : j < bs.length := by
      rcases Nat.lt_or_ge j bs.length with hj | hj
      · exact hj
      · rw [List.getElem?_eq_none (by simpa using hj)] at hu; cases hu
    simp only [List.getElem?_map, List.getElem?_eq_getElem hj, Option.map_some] at hu
    injection hu with hu
    subst hu
    simpa [Addr.add_lit] using hc j hj
theorem RS.src {α : Type} {V : Nat → Prop} {k : Nat} {rep : World → α → List Value → Prop} {w : World} {a : Option Addr} {n c : Nat} {l : List α} (h : RS V k rep w (.slice a n c) l) (hk : 0 < k) :
    n = l.length ∧ (a = none → l = []) ∧ ∃ css : List (List Value), css.length = l.length ∧ (∀ cs ∈ css, cs.length = k) ∧ (∀ i (h1 : i < l.length) (h2 : i < css.length), rep w l[i] css[i]) ∧
      ∀ ad, a = some ad → ∀ j u, css.flatten[j]? = some u → w.cell? (ad.add j) = some u := by
  obtain ⟨a', c', hv, h1, h2, h3⟩ := h
  simp only [Value.slice.injEq] at hv
  obtain ⟨rfl, rfl, rfl⟩ := hv
  by_cases hne : l = []
  · subst hne
    exact ⟨rfl, fun _ => rfl, [], rfl, by simp, by simp, by simp⟩
  · obtain ⟨b, off, rfl, hV, hc⟩ := h3 hne
    have hex : ∀ i : Fin l.length, ∃ cs : List Value, cs.length = k ∧ rep w l[i] cs ∧ ∀ j u, cs[j]? = some u → w.cell? ⟨b, off + i.1 * k + j, none⟩ = some u := fun i => hc i.1 i.2
    refine ⟨rfl, (fun e => by cases e), List.ofFn fun i : Fin l.length => (hex i).choose, by simp, ?_, ?_, ?_⟩
    · intro cs hcs
      obtain ⟨i, rfl⟩ := (List.mem_ofFn).1 hcs
      exact (hex i).choose_spec.1
    · intro i hi hi2
      simp only [List.getElem_ofFn]
      exact (hex ⟨i, hi⟩).choose_spec.2.1
    · intro ad e j u hu
      injection e with e
      subst e
      have hlen : ∀ cs ∈ (List.ofFn fun i : Fin l.length => (hex i).choose), cs.length = k := by
        intro cs hcs
        obtain ⟨i, rfl⟩ := (List.mem_ofFn).1 hcs
        exact (hex i).choose_spec.1
      have hj : j < l.length * k := by
        have hl := flatten_len (k := k) _ hlen
        rcases Nat.lt_or_ge j (l.length * k) with hj | hj
        · exact hj
        · rw [List.getElem?_eq_none (by rw [hl]; simpa using hj)] at hu; cases hu
      have hi : j / k < l.length := Nat.div_lt_of_lt_mul (by rw [Nat.mul_comm]; exact hj)
      have hu' : ((hex ⟨j / k, hi⟩).choose)[j % k]? = some u := by
        have hlk : ((hex ⟨j / k, hi⟩).choose).length = k := (hex ⟨j / k, hi⟩).choose_spec.1
        have hm : j % k < k := Nat.mod_lt _ hk
        have h4 : ((hex ⟨j / k, hi⟩).choose)[j % k]? = some (((hex ⟨j / k, hi⟩).choose)[j % k]'(by omega)) := List.getElem?_eq_getElem (by omega)
        have h5 : j / k < (List.ofFn fun i : Fin l.length => (hex i).choose).length := by simpa using hi
        have h6 : (List.ofFn fun i : Fin l.length => (hex i).choose)[j / k]'h5 = (hex ⟨j / k, hi⟩).choose := by simp only [List.getElem_ofFn]
        have := flatten_get (k := k) _ hlen (j / k) h5 (j % k) (((hex ⟨j / k, hi⟩).choose)[j % k]'(by omega)) (by rw [h6]; exact h4)
        rw [Nat.div_add_mod'] at this
        rw [this] at hu
        rw [h4]; exact hu
      have hx := (hex ⟨j / k, hi⟩).choose_spec.2.2 (j % k) u hu'
      simp only [Nat.add_assoc, Nat.div_add_mod'] at hx
      simpa [Addr.add_lit] using hx

/-! ### append onto a row of the call's own, whatever the source -/
section
variable {P : Program} (w : World)
theorem run_append_nothing (base : Nat) (t ty e : TypeId) (i : TypeInfo) (size : Nat) (ht : P.underlying t = some (.slice e)) (hi : P.info? e = some i)
    (v : Value) (n c : Nat) (xs : List Value) (hown : w.ownsRow base e size v n xs) : (Builtin.append_ #[t, t] ty #[v, .slice none 0 c]).run P w = .ok v w := by
  rcases hown.2 with ⟨rfl, rfl⟩ | ⟨g, cap, cur, rfl, _, _, hnc, _⟩
  · simp [Builtin.append_, run_underlying ht, sizeOf, typeInfo, hi, Builtin.lenOf, Builtin.firstCells]
  · simp [Builtin.append_, run_underlying ht, sizeOf, typeInfo, hi, Builtin.lenOf, Builtin.firstCells, hnc, storeCells]
theorem owns_slice {base : Nat} {e : TypeId} {size : Nat} {v : Value} {n : Nat} {xs : List Value} {w : World} (h : w.ownsRow base e size v n xs) : ∃ a c, v = .slice a n c := by
  rcases h.2 with ⟨rfl, rfl⟩ | ⟨g, cap, cur, rfl, _⟩
  · exact ⟨none, 0, rfl⟩
  · exact ⟨_, _, rfl⟩
/-- The source: m elements at A, whose cells are news. -/
structure Src (w : World) (size : Nat) (A : Option Addr) (m : Nat) (news : List Value) : Prop where
  len : news.length = m * size
  none_ : A = none → m = 0
  cell : ∀ ad, A = some ad → ∀ j u, news[j]? = some u → w.cell? (ad.add j) = some u
  one : ∀ u ∈ news, u.oneCell' = true
theorem run_append_src (base : Nat) (t ty e : TypeId) (i : TypeInfo) (z : Value) (size bytes : Nat) (ht : P.underlying t = some (.slice e)) (hi : P.info? e = some i) (hz : i.zero = some z)
    (hsize : i.size = size) (hby : i.bytes = bytes) (hzs : z.cells.size = size) (hsz : 0 < size)
    (v : Value) (n : Nat) (xs : List Value) (hown : w.ownsRow base e size v n xs)
    (A : Option Addr) (m c : Nat) (news : List Value) (hsrc : Src w size A m news)
    (h63 : n + m ≤ maxLen) (hbytes : (n + m) * bytes ≤ 140737488355328) (hbase : base ≤ w.heap.size) :
    ∃ A' c' w', (Builtin.append_ #[t, t] ty #[v, .slice A m c]).run P w = .ok (.slice A' (n + m) c') w' ∧ w'.ownsRow base e size (.slice A' (n + m) c') (n + m) (xs ++ news) ∧ w.grownBy w' v.ownBlock ∧
      ((Value.slice A' (n + m) c').ownBlock = v.ownBlock ∨ (Value.slice A' (n + m) c').ownBlock = some w.heap.size) := by
  rcases A with _ | ad
  · obtain rfl := hsrc.none_ rfl
    have hn : news = [] := List.eq_nil_of_length_eq_zero (by simpa using hsrc.len)
    subst hn
    obtain ⟨a, c', rfl⟩ := owns_slice hown
    exact ⟨a, c', w, run_append_nothing w base t ty e i size ht hi _ n c xs hown, by simpa using hown, World.grownBy.refl w _, .inl rfl⟩
  · obtain ⟨v', w', hr, h2, h3, _, h5⟩ := run_append_own_at (P := P) w base t ty e i z size bytes ht hi hz hsize hby hzs hsz v n xs hown ad m c news hsrc.len (hsrc.cell ad rfl) hsrc.one h63 hbytes hbase
    obtain ⟨a, c', rfl⟩ := owns_slice h2
    exact ⟨a, c', w', hr, h2, h3, h5⟩
theorem wp_append_src {o : Oper} {a : Act} {K : Act → World → Prop} {Q : Exit → Act → World → Prop} (s x : Operand) (t : TypeId)
    (ho : o.op = .call { callee := .builtin .append, args := #[s, x], argTypes := #[t, t] })
    (base : Nat) (e : TypeId) (i : TypeInfo) (z : Value) (size bytes : Nat) (ht : P.underlying t = some (.slice e)) (hi : P.info? e = some i) (hz : i.zero = some z)
    (hsize : i.size = size) (hby : i.bytes = bytes) (hzs : z.cells.size = size) (hsz : 0 < size)
    (v : Value) (n : Nat) (xs : List Value) (hs : a.eval s = v) (hown : w.ownsRow base e size v n xs)
    (A : Option Addr) (m c : Nat) (news : List Value) (hx : a.eval x = .slice A m c) (hsrc : Src w size A m news)
    (h63 : n + m ≤ maxLen) (hbytes : (n + m) * bytes ≤ 140737488355328) (hbase : base ≤ w.heap.size)
    (h : ∀ A' c' w', w'.ownsRow base e size (.slice A' (n + m) c') (n + m) (xs ++ news) → w.grownBy w' v.ownBlock →
      ((Value.slice A' (n + m) c').ownBlock = v.ownBlock ∨ (Value.slice A' (n + m) c').ownBlock = some w.heap.size) → K (a.put o.dst (.slice A' (n + m) c')) w') : o.wp P a w K Q := by
  obtain ⟨A', c', w', hr, h2, h3, h4⟩ := run_append_src (P := P) w base t o.type e i z size bytes ht hi hz hsize hby hzs hsz v n xs hown A m c news hsrc h63 hbytes hbase
  unfold Oper.wp execOp
  simp only [ho, resolve, invoke, builtin, Sem.run_bind, Sem.run_pure, Result.andThen_ok, List.map_toArray, List.map_cons, List.map_nil, hs, hx, hr]
  exact h A' c' w' h2 h3 h4
theorem wpList_append_src {ops : Array Oper} {rest : List Oper} {o : Oper} {a : Act} {Q : Exit → Act → World → Prop} (hgd : o.guard = none) (s x : Operand) (t : TypeId)
    (ho : o.op = .call { callee := .builtin .append, args := #[s, x], argTypes := #[t, t] })
    (base : Nat) (e : TypeId) (i : TypeInfo) (z : Value) (size bytes : Nat) (ht : P.underlying t = some (.slice e)) (hi : P.info? e = some i) (hz : i.zero = some z)
    (hsize : i.size = size) (hby : i.bytes = bytes) (hzs : z.cells.size = size) (hsz : 0 < size)
    (v : Value) (n : Nat) (xs : List Value) (hs : a.eval s = v) (hown : w.ownsRow base e size v n xs)
    (A : Option Addr) (m c : Nat) (news : List Value) (hx : a.eval x = .slice A m c) (hsrc : Src w size A m news)
    (h63 : n + m ≤ maxLen) (hbytes : (n + m) * bytes ≤ 140737488355328) (hbase : base ≤ w.heap.size)
    (h : ∀ A' c' w', w'.ownsRow base e size (.slice A' (n + m) c') (n + m) (xs ++ news) → w.grownBy w' v.ownBlock →
      ((Value.slice A' (n + m) c').ownBlock = v.ownBlock ∨ (Value.slice A' (n + m) c').ownBlock = some w.heap.size) → wpList P ops Q rest (a.put o.dst (.slice A' (n + m) c')) w') : wpList P ops Q (o :: rest) a w :=
  wpList_plain hgd fun _ hK => wp_append_src w s x t ho base e i z size bytes ht hi hz hsize hby hzs hsz v n xs hs hown A m c news hx hsrc h63 hbytes hbase fun A' c' w' h2 h3 h4 => hK _ _ (h A' c' w' h2 h3 h4)
theorem step_append_src {ops : Array Oper} {o : Oper} {a : Act} {K : Act → World → Prop} {Q : Exit → Act → World → Prop} {E : Prop} (hgd : o.guard = none) (s x : Operand) (t : TypeId)
    (ho : o.op = .call { callee := .builtin .append, args := #[s, x], argTypes := #[t, t] })
    (base : Nat) (e : TypeId) (i : TypeInfo) (z : Value) (size bytes : Nat) (ht : P.underlying t = some (.slice e)) (hi : P.info? e = some i) (hz : i.zero = some z)
    (hsize : i.size = size) (hby : i.bytes = bytes) (hzs : z.cells.size = size) (hsz : 0 < size)
    (v : Value) (n : Nat) (xs : List Value) (hs : a.eval s = v) (hown : w.ownsRow base e size v n xs)
    (A : Option Addr) (m c : Nat) (news : List Value) (hx : a.eval x = .slice A m c) (hsrc : Src w size A m news)
    (h63 : n + m ≤ maxLen) (hbytes : (n + m) * bytes ≤ 140737488355328) (hbase : base ≤ w.heap.size)
    (h : ∀ A' c' w', w'.ownsRow base e size (.slice A' (n + m) c') (n + m) (xs ++ news) → w.grownBy w' v.ownBlock →
      ((Value.slice A' (n + m) c').ownBlock = v.ownBlock ∨ (Value.slice A' (n + m) c').ownBlock = some w.heap.size) → K (a.put o.dst (.slice A' (n + m) c')) w') :
    if Region.wanted o (yielded ops a.tmps) = true then Oper.wp P o a w K Q else E := by
  have hw : Region.wanted o (yielded ops a.tmps) = true := by simp [Region.wanted, hgd]
  rw [if_pos hw]
  exact wp_append_src w s x t ho base e i z size bytes ht hi hz hsize hby hzs hsz v n xs hs hown A m c news hx hsrc h63 hbytes hbase h
end
theorem own_ext {w w' : World} {base : Nat} {e : TypeId} {size : Nat} {v : Value} {n : Nat} {xs : List Value} (h : w.ownsRow base e size v n xs) (hw : Ext w w') : w'.ownsRow base e size v n xs := by
  refine ⟨h.1, ?_⟩
  rcases h.2 with hn | ⟨g, cap, cur, rfl, hb, hgg, rest⟩
  · exact .inl hn
  · exact .inr ⟨g, cap, cur, rfl, hb, (Below.block hw g (Array.getElem?_eq_some_iff.1 hgg).1).trans hgg, rest⟩
/-- The one element that 'append(out, x)' lays into a block of its own first. -/
theorem Src.lit (w : World) (cs : Array Value) (t : TypeId) (k : Nat) (hk : cs.size = k) (h1 : ∀ u ∈ cs.toList, u.oneCell' = true) : Src (w.alloc (.cells cs t)) k (some ⟨w.heap.size, 0, none⟩) 1 cs.toList :=
  ⟨by simpa using hk, (fun h => by cases h), (fun ad h => by injection h with h; subst h; exact World.news_of_block (heap_alloc_new w _)), h1⟩
theorem Src.litB (w : World) (cs : Array Value) (t : TypeId) (k B : Nat) (hB : w.heap.size = B) (hk : cs.size = k) (h1 : ∀ u ∈ cs.toList, u.oneCell' = true) : Src (w.alloc (.cells cs t)) k (some ⟨B, 0, none⟩) 1 cs.toList := by
  subst hB
  exact Src.lit w cs t k hk h1
theorem Src.bytes {V : Nat → Prop} {w : World} {a : Option Addr} {n c : Nat} {bs : List Int} (h : RB V w (.slice a n c) bs) : Src w 1 a n (bs.map (Value.int .u8)) := by
  obtain ⟨hn, h0, hc⟩ := h.src
  exact ⟨by simp [hn], fun e => by rw [hn, h0 e]; rfl, hc, ints_oneCell _ _⟩
theorem Src.drew {w : World} {size : Nat} {A : Option Addr} {m : Nat} {news : List Value} (h : Src w size A m news) : Src w.drew size A m news := ⟨h.len, h.none_, h.cell, h.one⟩
end Go.Proofs.Ytimnepfdpehdmaa

namespace Go.Proofs.Ytimnepfdpehdmaa
open Go.RowKit

/-- A list's last place is not written by one who writes elsewhere: two steps of growth, one after the other. -/
theorem grown_trans {a b c : World} {r : Option Nat} (h : a.grownBy b r) (k : b.grownBy c r) : a.grownBy c r :=
  ⟨k.os.trans h.os, k.tape.trans h.tape, k.output.trans h.output, Nat.le_trans h.size k.size, fun i hi hr => (k.block i (Nat.lt_of_lt_of_le hi h.size) hr).trans (h.block i hi hr)⟩
theorem grown_refl (a : World) (r : Option Nat) : a.grownBy a r := ⟨rfl, rfl, rfl, Nat.le_refl _, fun _ _ _ => rfl⟩
theorem grown_drew {a b : World} {r : Option Nat} (h : a.grownBy b r) : a.grownBy b.drew r := ⟨h.os, h.tape, h.output, h.size, h.block⟩
theorem grown_new {a b c : World} {r : Option Nat} {g : Nat} (h : a.grownBy b r) (k : b.grownBy c (some g)) (hg : a.heap.size ≤ g) : a.grownBy c r :=
  ⟨k.os.trans h.os, k.tape.trans h.tape, k.output.trans h.output, Nat.le_trans h.size k.size, fun i hi hr => (k.block i (Nat.lt_of_lt_of_le hi h.size) (fun e => by injection e with e; omega)).trans (h.block i hi hr)⟩
theorem grown_ext {a b : World} (h : Ext a b) (r : Option Nat) : a.grownBy b r :=
  ⟨Below.os h, Below.tape h, Below.output h, Below.size h, fun i hi _ => Below.block h i hi⟩
theorem grown_setRow (w : World) (g : Nat) (cs : Array Value) : w.grownBy (w.setRow g cs) (some g) :=
  ⟨rfl, rfl, rfl, by simp, fun k _ hk => setRow_other w g k cs (fun e => hk (by rw [e]))⟩

theorem cell_at (w : World) (cs : Array Value) (t : TypeId) (B j : Nat) (v : Value) (hB : w.heap.size = B) (h : cs[j]? = some v) : (w.alloc (.cells cs t)).cell? ⟨B, j, none⟩ = some v := by
  subst hB
  rw [World.cell?_alloc_at cs t w.heap.size j rfl]
  exact h
theorem frozen_at (w : World) (cs : Array Value) (t : TypeId) (B j : Nat) (hB : w.heap.size = B) : (w.alloc (.cells cs t)).frozen? ⟨B, j, none⟩ = false := by
  subst hB
  exact World.frozen?_alloc_at cs t w.heap.size j rfl
theorem cell_keep (w : World) (o : Obj) {p : Addr} {v : Value} (h : w.cell? p = some v) : (w.alloc o).cell? p = some v := ((Ext.refl w).alloc o).cell h

theorem agree_setCell {V : Nat → Prop} {w : World} {p : Addr} (hp : V p.block) (u : Value) : Agree V w (w.setCell p u) :=
  ⟨by simp [World.setCell], fun k _ hk => Below.heap_setCell _ _ _ _ (fun e => hk (by rw [e]; exact hp))⟩

/-- Blocks that are there already. -/
def Old (w : World) : Nat → Prop := fun k => k < w.heap.size
theorem get_lt {α : Type} {l : List α} {i : Nat} {x : α} (h : l[i]? = some x) : i < l.length := (List.getElem?_eq_some_iff.1 h).1
theorem list_eq_of {α : Type} (a b : List α) (h : a.length = b.length) (hk : ∀ (i : Nat) x y, a[i]? = some x → b[i]? = some y → x = y) : a = b := by
  apply List.ext_getElem h
  intro i h1 h2
  exact hk i _ _ (List.getElem?_eq_getElem h1) (List.getElem?_eq_getElem h2)
theorem list_ne_at {α : Type} (a b : List α) (i : Nat) (x y : α) (h1 : a[i]? = some x) (h2 : b[i]? = some y) (h : x ≠ y) : a ≠ b := by
  rintro rfl
  rw [h1] at h2
  injection h2 with h2
  exact h h2

/-! ### Copies of structs -/
section
variable {P : Program}
theorem run_copy_rowK (w : World) (dT sT ty elem : TypeId) (size : Nat) (g o dLen dCap : Nat) (a : Addr) (sLen sCap : Nat) (cur : Array Value) (t : TypeId) (cs : List Value)
    (hu : P.underlying dT = some (.slice elem)) (hs : (P.info? elem).map (·.size) = some size)
    (hg : w.heap[g]? = some (.cells cur t (0, 0))) (hn : cs.length = Nat.min sLen dLen * size)
    (hsrc : ∀ j v, cs[j]? = some v → w.cell? (a.add j) = some v) (hfit : o + cs.length ≤ cur.size) (h1 : ∀ v ∈ cs, v.oneCell' = true) :
    (Builtin.copy_ #[dT, sT] ty #[.slice (some ⟨g, o, none⟩) dLen dCap, .slice (some a) sLen sCap]).run P w =
      .ok (goInt (Nat.min sLen dLen)) (w.setRow g (cur.toList.take o ++ cs ++ cur.toList.drop (o + cs.length)).toArray) := by
  have hl := run_loadCells_list (P := P) w a cs hsrc
  have hst := run_storeCells_at P g o t cs 0 cur w hg (by simpa using hfit) h1
  cases hq : P.info? elem with
  | none => simp [hq] at hs
  | some i =>
    have hi : i.size = size := by simpa [hq] using hs
    simp [Builtin.copy_, run_underlying hu, Builtin.lenOf, Builtin.firstCells, sizeOf, typeInfo, hq, hi, ← hn, hl, hst]
theorem run_copy_noneK (w : World) (dT sT ty elem : TypeId) (d a : Option Addr) (dLen dCap sLen sCap : Nat) (hu : P.underlying dT = some (.slice elem)) (hs : ((P.info? elem).map (·.size)).isSome = true) (hn : Nat.min sLen dLen = 0) :
    (Builtin.copy_ #[dT, sT] ty #[.slice d dLen dCap, .slice a sLen sCap]).run P w = .ok (goInt 0) w := by
  cases hq : P.info? elem with
  | none => simp [hq] at hs
  | some i =>
    cases d <;> cases a <;> simp [Builtin.copy_, run_underlying hu, Builtin.lenOf, Builtin.firstCells, sizeOf, typeInfo, hq, hn, loadCells, loadCellsFrom, storeCells]
/-- One run equation for every copy into a row that is known whole. -/
theorem run_copyK (w : World) (dT sT ty elem : TypeId) (size : Nat) (hu : P.underlying dT = some (.slice elem)) (hs : (P.info? elem).map (·.size) = some size) (hsz : 0 < size)
    (dp sp : Option Addr) (dLen dCap sLen sCap : Nat) (g off : Nat) (cur : List Value) (t : TypeId) (hg : w.heap[g]? = some (.cells cur.toArray t (0, 0))) (cs : List Value) (hn : cs.length = Nat.min sLen dLen * size)
    (hpos : 0 < cs.length → dp = some ⟨g, off, none⟩ ∧ ∃ ad, sp = some ad ∧ ∀ j v, cs[j]? = some v → w.cell? (ad.add j) = some v)
    (hfit : off + cs.length ≤ cur.length) (h1 : ∀ v ∈ cs, v.oneCell' = true) :
    ∃ w', (Builtin.copy_ #[dT, sT] ty #[.slice dp dLen dCap, .slice sp sLen sCap]).run P w = .ok (goInt (Nat.min sLen dLen)) w' ∧ w'.heap[g]? = some (.cells (splice cur off cs).toArray t (0, 0)) ∧ w.grownBy w' (some g) := by
  by_cases h0 : cs.length = 0
  · obtain rfl : cs = [] := List.eq_nil_of_length_eq_zero h0
    have hm : Nat.min sLen dLen = 0 := by
      rcases Nat.mul_eq_zero.1 hn.symm with h | h
      · exact h
      · omega
    refine ⟨w, ?_, by simpa [splice] using hg, grown_refl _ _⟩
    rw [run_copy_noneK w dT sT ty elem dp sp dLen dCap sLen sCap hu (by rw [hs]; rfl) hm, hm]
    rfl
  · obtain ⟨rfl, ad, rfl, hsrc⟩ := hpos (by omega)
    refine ⟨_, run_copy_rowK w dT sT ty elem size g off dLen dCap ad sLen sCap cur.toArray t cs hu hs hg hn hsrc (by simpa using hfit) h1, ?_, grown_setRow _ _ _⟩
    have := setRow_heap w g cur.toArray (cur.take off ++ cs ++ cur.drop (off + cs.length)).toArray t _ hg
    simpa [splice] using this
theorem wpList_copyK {w : World} {ops : Array Oper} {rest : List Oper} {o : Oper} {a : Act} {Q : Exit → Act → World → Prop} (hgd : o.guard = none) (d s : Operand) (dT sT : TypeId)
    (ho : o.op = .call { callee := .builtin .copy, args := #[d, s], argTypes := #[dT, sT] }) (elem : TypeId) (size : Nat) (hu : P.underlying dT = some (.slice elem)) (hs : (P.info? elem).map (·.size) = some size) (hsz : 0 < size)
    (dp sp : Option Addr) (dLen dCap sLen sCap : Nat) (hd : a.eval d = .slice dp dLen dCap) (hs2 : a.eval s = .slice sp sLen sCap)
    (g off : Nat) (cur : List Value) (t : TypeId) (hg : w.heap[g]? = some (.cells cur.toArray t (0, 0))) (cs : List Value) (hn : cs.length = Nat.min sLen dLen * size)
    (hpos : 0 < cs.length → dp = some ⟨g, off, none⟩ ∧ ∃ ad, sp = some ad ∧ ∀ j v, cs[j]? = some v → w.cell? (ad.add j) = some v)
    (hfit : off + cs.length ≤ cur.length) (h1 : ∀ v ∈ cs, v.oneCell' = true)
    (h : ∀ w', Hid (w'.heap[g]? = some (.cells (splice cur off cs).toArray t (0, 0))) → w.grownBy w' (some g) → wpList P ops Q rest (a.put o.dst (goInt (Nat.min sLen dLen))) w') : wpList P ops Q (o :: rest) a w := by
  refine wpList_plain hgd fun K hK => ?_
  obtain ⟨w', hrun, h2, h3⟩ := run_copyK (P := P) w dT sT o.type elem size hu hs hsz dp sp dLen dCap sLen sCap g off cur t hg cs hn hpos hfit h1
  unfold Oper.wp
  simp [execOp, ho, resolve, invoke, builtin, hd, hs2, hrun, Result.andThen]
  exact hK _ _ (h w' h2 h3)
theorem step_copyK {ops : Array Oper} {o : Oper} {a : Act} {w : World} {K : Act → World → Prop} {Q : Exit → Act → World → Prop} {E : Prop} (hgd : o.guard = none) (d s : Operand) (dT sT : TypeId)
    (ho : o.op = .call { callee := .builtin .copy, args := #[d, s], argTypes := #[dT, sT] }) (elem : TypeId) (size : Nat) (hu : P.underlying dT = some (.slice elem)) (hs : (P.info? elem).map (·.size) = some size) (hsz : 0 < size)
    (dp sp : Option Addr) (dLen dCap sLen sCap : Nat) (hd : a.eval d = .slice dp dLen dCap) (hs2 : a.eval s = .slice sp sLen sCap)
    (g off : Nat) (cur : List Value) (t : TypeId) (hg : w.heap[g]? = some (.cells cur.toArray t (0, 0))) (cs : List Value) (hn : cs.length = Nat.min sLen dLen * size)
    (hpos : 0 < cs.length → dp = some ⟨g, off, none⟩ ∧ ∃ ad, sp = some ad ∧ ∀ j v, cs[j]? = some v → w.cell? (ad.add j) = some v)
    (hfit : off + cs.length ≤ cur.length) (h1 : ∀ v ∈ cs, v.oneCell' = true)
    (h : ∀ w', Hid (w'.heap[g]? = some (.cells (splice cur off cs).toArray t (0, 0))) → w.grownBy w' (some g) → K (a.put o.dst (goInt (Nat.min sLen dLen))) w') :
    if Region.wanted o (yielded ops a.tmps) = true then Oper.wp P o a w K Q else E := by
  have hw : Region.wanted o (yielded ops a.tmps) = true := by simp [Region.wanted, hgd]
  rw [if_pos hw]
  obtain ⟨w', hrun, h2, h3⟩ := run_copyK (P := P) w dT sT o.type elem size hu hs hsz dp sp dLen dCap sLen sCap g off cur t hg cs hn hpos hfit h1
  unfold Oper.wp
  simp [execOp, ho, resolve, invoke, builtin, hd, hs2, hrun, Result.andThen]
  exact h w' h2 h3
end

/-! ### Rows of structs that lead to no memory -/
section
variable {α : Type} {V : Nat → Prop} {k : Nat} {enc : α → List Value} {w w' : World} {v : Value} {l : List α}
/-- The value v is a slice of structs that reads as l, each by its cells. -/
def RF (V : Nat → Prop) (k : Nat) (enc : α → List Value) (w : World) (v : Value) (l : List α) : Prop := RS V k (fun _ x cs => cs = enc x) w v l
theorem RF.agree (h : RF V k enc w v l) (hw : Agree V w w') : RF V k enc w' v l := RS.agree h hw fun _ _ _ h => h
theorem RF.ext (h : RF V k enc w v l) (hw : Ext w w') : RF V k enc w' v l := h.agree (hw.agree V)
theorem RF.form (h : RF V k enc w v l) : ∃ a c, v = .slice a l.length c ∧ l.length ≤ c ∧ c ≤ maxLen := RS.form h
theorem RF.nil (V : Nat → Prop) (k : Nat) (enc : α → List Value) (w : World) : RF V k enc w (.slice none 0 0) [] := RS.nil _ _ _ _
theorem RF.at_ (h : RF V k enc w v l) {i : Nat} (hi : i < l.length) : ∃ b off c, v = .slice (some ⟨b, off, none⟩) l.length c ∧ l.length ≤ c ∧ ¬ V b ∧ ∀ j u, (enc l[i])[j]? = some u → w.cell? ⟨b, off + i * k + j, none⟩ = some u := by
  obtain ⟨b, off, c, cs, h1, h2, h3, _, rfl, h5⟩ := RS.at_ h hi
  exact ⟨b, off, c, h1, h2, h3, h5⟩
theorem RF.get (h : RF V k enc w v l) {i : Nat} {x : α} (hx : l[i]? = some x) : ∃ b off c, v = .slice (some ⟨b, off, none⟩) l.length c ∧ l.length ≤ c ∧ ¬ V b ∧ ∀ j u, (enc x)[j]? = some u → w.cell? ⟨b, off + i * k + j, none⟩ = some u := by
  obtain ⟨hi, rfl⟩ := List.getElem?_eq_some_iff.1 hx
  exact h.at_ hi
theorem RF.src {a : Option Addr} {n c : Nat} (h : RF V k enc w (.slice a n c) l) (hk : 0 < k) (h1 : ∀ x, ∀ u ∈ enc x, u.oneCell' = true) : n = l.length ∧ Src w k a n (l.flatMap enc) := by
  obtain ⟨hn, h0, css, e1, e2, e3, e4⟩ := RS.src h hk
  have hc : css = l.map enc := by
    apply List.ext_getElem (by simp [e1])
    intro i hi1 hi2
    rw [List.getElem_map]
    exact e3 i (by omega) hi1
  have hf : css.flatten = l.flatMap enc := by rw [hc, List.flatMap_def]
  rw [hf] at e4
  refine ⟨hn, ⟨?_, fun e => by rw [hn, h0 e]; rfl, e4, fun u hu => ?_⟩⟩
  · rw [← hf, flatten_len css e2, e1, hn]
  · obtain ⟨x, _, hx⟩ := List.mem_flatMap.1 hu
    exact h1 x u hx
theorem flat_len (hk : ∀ x, (enc x).length = k) (l : List α) : (l.flatMap enc).length = l.length * k := by
  induction l with
  | nil => simp
  | cons x l ih => simp only [List.flatMap_cons, List.length_append, List.length_cons, ih, hk, Nat.add_mul]; omega
theorem flat_take (hk : ∀ x, (enc x).length = k) : ∀ (l : List α) (i : Nat), (l.flatMap enc).take (i * k) = (l.take i).flatMap enc
  | [], _ => by simp
  | x :: l, 0 => by simp
  | x :: l, i + 1 => by
    rw [List.take_succ_cons, List.flatMap_cons, List.flatMap_cons, List.take_append, ← flat_take hk l i, hk, List.take_of_length_le (by rw [hk, Nat.add_mul]; omega)]
    congr 2
    rw [Nat.add_mul]; omega
theorem flat_drop (hk : ∀ x, (enc x).length = k) : ∀ (l : List α) (i : Nat), (l.flatMap enc).drop (i * k) = (l.drop i).flatMap enc
  | [], _ => by simp
  | x :: l, 0 => by simp
  | x :: l, i + 1 => by
    rw [List.drop_succ_cons, List.flatMap_cons, ← flat_drop hk l i, List.drop_append, hk, List.drop_eq_nil_of_le (by rw [hk, Nat.add_mul]; omega), List.nil_append]
    congr 1
    rw [Nat.add_mul]; omega
theorem flat_get (hk : ∀ x, (enc x).length = k) (l : List α) (i : Nat) (hi : i < l.length) (j : Nat) (u : Value) (hu : (enc l[i])[j]? = some u) : (l.flatMap enc)[i * k + j]? = some u := by
  have := flatten_get (k := k) (l.map enc) (fun cs hc => by obtain ⟨x, _, rfl⟩ := List.mem_map.1 hc; exact hk x) i (by simpa using hi) j u (by simpa using hu)
  rwa [← List.flatMap_def] at this
theorem RF.of_own {base : Nat} {e : TypeId} (hk : ∀ x, (enc x).length = k) (h : w.ownsRow base e k v l.length (l.flatMap enc)) (hV : ∀ k, V k → k < base) : RF V k enc w v l := by
  rw [List.flatMap_def] at h
  refine RS.of_own (l.map enc) h (by simp) (fun cs hc => by obtain ⟨x, _, rfl⟩ := List.mem_map.1 hc; exact hk x) (fun i h1 h2 => by simp) hV
theorem RF.weak {V' : Nat → Prop} (h : RF V k enc w v l) (hk : 0 < k) (hv : ∀ g, g < w.heap.size → V' g → V g) : RF V' k enc w v l := RS.weak h hk hv fun _ _ _ h => h
theorem RF.le (h : RF V k enc w v l) : l.length ≤ maxLen := RS.le h
/-- The first i elements. -/
theorem RF.take {a : Option Addr} {n c : Nat} (h : RF V k enc w (.slice a n c) l) (i : Nat) (hi : i ≤ l.length) : RF V k enc w (.slice a i c) (l.take i) := by
  obtain ⟨a', c', hv, h1, h2, h3⟩ := h
  simp only [Value.slice.injEq] at hv
  obtain ⟨rfl, rfl, rfl⟩ := hv
  have hl : (l.take i).length = i := by simp; omega
  refine ⟨a, c, by rw [hl], by omega, h2, fun hne => ?_⟩
  have hne' : l ≠ [] := by rintro rfl; simp at hne
  obtain ⟨b, off, rfl, hV, hc⟩ := h3 hne'
  refine ⟨b, off, rfl, hV, fun j hj => ?_⟩
  have hj2 : j < l.length := by omega
  obtain ⟨cs, e1, e2, e3⟩ := hc j hj2
  exact ⟨cs, e1, by rw [List.getElem_take]; exact e2, e3⟩
end

/-- Where a part that begins at f begins: Go leaves the address where nothing is left of the capacity. -/
def cutK (b off cap f k : Nat) : Option Addr := some (if cap = f then ⟨b, off, none⟩ else ⟨b, off + f * k, none⟩)
theorem sliced_cutK (b off l h m k : Nat) : sliced (some ⟨b, off, none⟩) l h m k = .slice (cutK b off m l k) (h - l) (m - l) := by
  unfold sliced cutK
  split <;> simp [Addr.add]
theorem RF.drop {α : Type} {V : Nat → Prop} {k : Nat} {enc : α → List Value} {w : World} {l : List α} {b off n c : Nat} (h : RF V k enc w (.slice (some ⟨b, off, none⟩) n c) l) (i : Nat) (hi : i ≤ l.length) : RF V k enc w (.slice (cutK b off c i k) (n - i) (c - i)) (l.drop i) := by
  obtain ⟨a', c', hv, h1, h2, h3⟩ := h
  simp only [Value.slice.injEq] at hv
  obtain ⟨rfl, rfl, rfl⟩ := hv
  have hl : (l.drop i).length = l.length - i := by simp
  refine ⟨cutK b off c i k, c - i, by rw [hl], by omega, by omega, fun hne => ?_⟩
  have hlt : i < l.length := by
    have := List.length_pos_iff.2 hne
    omega
  have hne' : l ≠ [] := by rintro rfl; simp at hlt
  obtain ⟨b', off', hb, hV, hc⟩ := h3 hne'
  simp only [Option.some.injEq, Addr.mk.injEq, and_true] at hb
  obtain ⟨rfl, rfl⟩ := hb
  refine ⟨b, off + i * k, by unfold cutK; rw [if_neg (by omega)], hV, fun j hj => ?_⟩
  have hj2 : i + j < l.length := by omega
  obtain ⟨cs, e1, e2, e3⟩ := hc (i + j) hj2
  refine ⟨cs, e1, by rw [List.getElem_drop]; exact e2, fun p u hu => ?_⟩
  have := e3 p u hu
  rw [show off + (i + j) * k + p = off + i * k + j * k + p by rw [Nat.add_mul]; omega] at this
  exact this
end Go.Proofs.Ytimnepfdpehdmaa

namespace Go.Proofs.Ytimnepfdpehdmaa
open Go.RowKit

/-- A value: Kind, N, S, and the three numbers of T. -/
structure Val where
  kind : Int
  n : Int
  s : ByteArray
  sec : Int
  frac : Int
  qual : Int
deriving DecidableEq
def valE (v : Val) : List Value := [.int .i64 v.kind, .int .i64 v.n, .string v.s, .int .i64 v.sec, .int .i64 v.frac, .int .i64 v.qual]
abbrev valA (v : Val) : Value := .agg #[.int .i64 v.kind, .int .i64 v.n, .string v.s, .int .i64 v.sec, .int .i64 v.frac, .int .i64 v.qual]
theorem valE_len (v : Val) : (valE v).length = 6 := rfl
theorem valE_one : ∀ (x : Val), ∀ u ∈ valE x, u.oneCell' = true := by
  intro x u hu
  simp only [valE, List.mem_cons, List.not_mem_nil, or_false] at hu
  rcases hu with rfl | rfl | rfl | rfl | rfl | rfl <;> rfl
theorem val_get {V : Nat → Prop} {w : World} {v : Value} {l : List Val} (h : RF V 6 valE w v l) {i : Nat} {x : Val} (hx : l[i]? = some x) : ∃ b off c, v = .slice (some ⟨b, off, none⟩) l.length c ∧
    w.cell? ⟨b, off + i * 6, none⟩ = some (.int .i64 x.kind) ∧ w.cell? ⟨b, off + i * 6 + 1, none⟩ = some (.int .i64 x.n) ∧ w.cell? ⟨b, off + i * 6 + 2, none⟩ = some (.string x.s) ∧
    w.cell? ⟨b, off + i * 6 + 3, none⟩ = some (.int .i64 x.sec) ∧ w.cell? ⟨b, off + i * 6 + 4, none⟩ = some (.int .i64 x.frac) ∧ w.cell? ⟨b, off + i * 6 + 5, none⟩ = some (.int .i64 x.qual) := by
  obtain ⟨b, off, c, hv, _, _, hc⟩ := h.get hx
  exact ⟨b, off, c, hv, hc 0 _ rfl, hc 1 _ rfl, hc 2 _ rfl, hc 3 _ rfl, hc 4 _ rfl, hc 5 _ rfl⟩
theorem bytes_eq {a b : ByteArray} : a = b ↔ a.toList = b.toList := by
  constructor
  · rintro rfl; rfl
  · intro h
    rw [ByteArray.toList_eq, ByteArray.toList_eq] at h
    exact ByteArray.ext (Array.ext' h)
theorem val_eq (x y : Val) : (x = y) ↔ (x.kind = y.kind ∧ x.n = y.n ∧ x.s.toList = y.s.toList ∧ x.sec = y.sec ∧ x.frac = y.frac ∧ x.qual = y.qual) := by
  obtain ⟨a, b, c, d, e, f⟩ := x
  obtain ⟨a', b', c', d', e', f'⟩ := y
  simp only [Val.mk.injEq, bytes_eq]

/-! ### The error of a value -/
def stErr (sec frac qual : Int) : Int := if sec < 0 ∨ 4294967295 < sec ∨ frac < 0 ∨ 16777215 < frac ∨ qual < 0 ∨ 255 < qual then 2 else 0
def bitB (s : ByteArray) : Bool := s.toList.all fun c => c == 48 || c == 49
def bitErr (s : ByteArray) : Int := if 64 < s.size then 4 else if bitB s = true then 0 else 5
/-- No number; no string; no time. -/
def noN (v : Val) : Bool := decide (v.n = 0)
def noS (v : Val) : Bool := v.s.toList.isEmpty
def noT (v : Val) : Bool := decide (v.sec = 0) && decide (v.frac = 0) && decide (v.qual = 0)
def chk (v : Val) : Int :=
  if v.kind = 1 then (if noS v && noT v then (if v.n = 0 ∨ v.n = 1 then 0 else 2) else 12)
  else if v.kind = 2 then (if noS v && noT v then 0 else 12)
  else if v.kind = 3 then (if noN v && noT v then bitErr v.s else 12)
  else if v.kind = 4 then (if noN v && noT v then (if 64 < v.s.size then 4 else 0) else 12)
  else if v.kind = 5 then (if noN v && noS v then stErr v.sec v.frac v.qual else 12)
  else 10
end Go.Proofs.Ytimnepfdpehdmaa

namespace Go.Proofs.Ytimnepfdpehdmaa
open Go.RowKit

/-- The k lowest bytes of a number, the most significant one first. -/
def numB (n : Int) (k : Nat) : List Int := (List.range k).map fun i => n / 2 ^ (8 * (k - 1 - i)) % 256
theorem numB_len (n : Int) (k : Nat) : (numB n k).length = k := by simp [numB]
theorem numB_byt (n : Int) (k : Nat) : Byt (numB n k) := fun x hx => by
  simp only [numB, List.mem_map] at hx
  obtain ⟨i, _, rfl⟩ := hx
  omega
theorem numB_get (n : Int) (k i : Nat) (h : i < k) : (numB n k)[i]? = some (n / 2 ^ (8 * (k - 1 - i)) % 256) := by
  simp [numB, h]
/-- Does a number not fit into k bytes? -/
def wider (n : Int) (k : Nat) : Bool := (n / 2 ^ (8 * k - 1) != 0) && (n / 2 ^ (8 * k - 1) != -1)
def intLenF (n : Int) : Nat → Nat → Nat
  | 0, k => k
  | f + 1, k => if wider n k = true then intLenF n f (k + 1) else k
/-- The fewest bytes of a number. -/
def intLen (n : Int) : Nat := intLenF n 7 1
theorem intLenF_le (n : Int) : ∀ f k, k ≤ intLenF n f k ∧ intLenF n f k ≤ f + k
  | 0, k => by simp [intLenF]
  | f + 1, k => by
    simp only [intLenF]
    split
    · have := intLenF_le n f (k + 1); omega
    · omega
theorem intLen_le (n : Int) : 1 ≤ intLen n ∧ intLen n ≤ 8 := by
  have := intLenF_le n 7 1
  unfold intLen; omega
theorem intLenF_yes (n : Int) (k : Nat) (h : k < 8) (hw : wider n k = true) : intLenF n (8 - k) k = intLenF n (8 - (k + 1)) (k + 1) := by
  obtain ⟨f, hf⟩ : ∃ f, 8 - k = f + 1 := ⟨7 - k, by omega⟩
  rw [hf, show 8 - (k + 1) = f by omega]
  simp only [intLenF, if_pos hw]
theorem intLenF_no (n : Int) (k : Nat) (h : wider n k = false) : intLenF n (8 - k) k = k := by
  cases hf : 8 - k with
  | zero => rfl
  | succ f => simp only [intLenF, h]; rfl
/-- A byte with one bit more. -/
def orB (x : Int) (k : Nat) : Int := bits .or .u8 x (128 / 2 ^ (k % 8))
/-- The byte j of a bit string of which the first k bits are laid. -/
def bitV (s : ByteArray) : Nat → Nat → Int
  | 0, _ => 0
  | k + 1, j => if k / 8 = j ∧ s.data.toList.getD k 0 = 49 then orB (bitV s k j) k else bitV s k j
def padB (n : Nat) : Nat := 8 * ((n + 7) / 8) - n
theorem padB_le (n : Nat) : padB n ≤ 7 := by unfold padB; omega
def bitsB (s : ByteArray) : List Int := (padB s.size : Int) :: (List.range ((s.size + 7) / 8)).map fun j => bitV s s.size j
def strB (s : ByteArray) : List Int := s.data.toList.map fun x => (x.toNat : Int)
theorem strB_byt (s : ByteArray) : Byt (strB s) := fun x hx => by
  simp only [strB, List.mem_map] at hx
  obtain ⟨y, _, rfl⟩ := hx
  have := y.toNat_lt
  omega
theorem strB_len (s : ByteArray) : (strB s).length = s.size := by simp only [strB, List.length_map]; rfl
def tagV (v : Val) : Int := if v.kind = 1 then 131 else if v.kind = 2 then 133 else if v.kind = 3 then 132 else if v.kind = 4 then 138 else 145
def datV (v : Val) : List Int :=
  if v.kind = 1 then numB v.n 1 else if v.kind = 2 then numB v.n (intLen v.n) else if v.kind = 3 then bitsB v.s else if v.kind = 4 then strB v.s
  else numB v.sec 4 ++ numB v.frac 3 ++ numB v.qual 1
theorem orB_le (x : Int) (k : Nat) : 0 ≤ orB x k ∧ orB x k ≤ 255 := by
  have h : orB x k = IntKind.u8.wrap (((BitVec.ofInt 8 x ||| BitVec.ofInt 8 (128 / 2 ^ (k % 8))).toNat : Nat) : Int) := rfl
  rw [h, IntKind.wrap_u8]
  omega
theorem bitV_le (s : ByteArray) : ∀ k j, 0 ≤ bitV s k j ∧ bitV s k j ≤ 255
  | 0, _ => by simp [bitV]
  | k + 1, j => by
    simp only [bitV]
    split
    · exact orB_le _ _
    · exact bitV_le s k j
end Go.Proofs.Ytimnepfdpehdmaa

namespace Go.Proofs.Ytimnepfdpehdmaa
open Go.RowKit

/-- Block B is the cells cs of type t, none of them frozen. -/
def Bk (w : World) (B : Nat) (t : TypeId) (cs : Array Value) : Prop := w.heap[B]? = some (.cells cs t (0, 0))
section
variable {w w' : World} {B : Nat} {t : TypeId} {cs : Array Value}
theorem Bk.lt (h : Bk w B t cs) : B < w.heap.size := (Array.getElem?_eq_some_iff.1 h).1
theorem Bk.new (w : World) (cs : Array Value) (t : TypeId) (B : Nat) (hB : w.heap.size = B) : Bk (w.alloc (.cells cs t)) B t cs := by subst hB; exact Go.heap_alloc_new w _
theorem Bk.ext (h : Bk w B t cs) (hw : Ext w w') : Bk w' B t cs := (Below.block hw B h.lt).trans h
theorem Bk.alloc (h : Bk w B t cs) (o : Obj) : Bk (w.alloc o) B t cs := h.ext ((Ext.refl w).alloc o)
theorem Bk.drew (h : Bk w B t cs) : Bk w.drew B t cs := h
theorem Bk.drewN (h : Bk w B t cs) (n : Nat) : Bk (w.drewN n) B t cs := h.ext ((Ext.refl w).drewN n)
theorem Bk.cell (h : Bk w B t cs) (j : Nat) : w.cell? ⟨B, j, none⟩ = cs[j]? := cell_of_row w B j cs t (0, 0) h
theorem Bk.frozen (h : Bk w B t cs) (j : Nat) : w.frozen? ⟨B, j, none⟩ = false := by
  unfold World.frozen?
  simp [show w.heap[B]? = some (.cells cs t (0, 0)) from h]
theorem Bk.row (h : Bk w B t cs) (ds : Array Value) : Bk (w.setRow B ds) B t ds := setRow_heap w B cs ds t _ h
theorem Bk.rowOther (h : Bk w B t cs) {B' : Nat} (hB : B' ≠ B) (ds : Array Value) : Bk (w.setRow B' ds) B t cs := (setRow_other w B' B ds (fun e => hB e.symm)).trans h
theorem Bk.setCell (h : Bk w B t cs) (j : Nat) (v : Value) : Bk (w.setCell ⟨B, j, none⟩ v) B t (cs.setIfInBounds j v) := by
  rw [setCell_eq_setRow w B j cs t _ v h]
  exact h.row _
theorem Bk.setOther (h : Bk w B t cs) {B' : Nat} (hB : B' ≠ B) (j : Nat) (v : Value) : Bk (w.setCell ⟨B', j, none⟩ v) B t cs :=
  (Below.heap_setCell _ _ _ _ (by simpa using fun e => hB e.symm)).trans h
end
theorem agree_row {V : Nat → Prop} {w : World} {B : Nat} (hB : V B) (ds : Array Value) : Agree V w (w.setRow B ds) :=
  ⟨by simp, fun k _ hk => setRow_other w B k ds (fun e => hk (by rw [e]; exact hB))⟩
theorem Ext.row {a w : World} {B : Nat} (h : Ext a w) (hB : a.heap.size ≤ B) (ds : Array Value) : Ext a (w.setRow B ds) := below_setRow h hB ds
/-- Cells from j on, stored one after another. -/
def put (w : World) (B : Nat) : Nat → List Value → World
  | _, [] => w
  | j, v :: vs => put (w.setCell ⟨B, j, none⟩ v) B (j + 1) vs
theorem put_size (B : Nat) : ∀ (vs : List Value) (j : Nat) (w : World), (put w B j vs).heap.size = w.heap.size
  | [], _, _ => rfl
  | v :: vs, j, w => by rw [put, put_size B vs]; simp
theorem put_ext {a : World} {B : Nat} (hB : a.heap.size ≤ B) : ∀ (vs : List Value) (j : Nat) (w : World), Ext a w → Ext a (put w B j vs)
  | [], _, _, h => h
  | v :: vs, j, w, h => by rw [put]; exact put_ext hB vs (j + 1) _ (h.setCell (by simpa using hB) v)
theorem agree_put {V : Nat → Prop} {B : Nat} (hB : V B) : ∀ (vs : List Value) (j : Nat) (w : World), Agree V w (put w B j vs)
  | [], _, w => Agree.refl V w
  | v :: vs, j, w => by rw [put]; exact (agree_setCell (p := ⟨B, j, none⟩) hB v).trans (agree_put hB vs (j + 1) _)
theorem put_other {B B' : Nat} {t : TypeId} {cs : Array Value} (hB : B' ≠ B) : ∀ (vs : List Value) (j : Nat) (w : World), Bk w B t cs → Bk (put w B' j vs) B t cs
  | [], _, _, h => h
  | v :: vs, j, w, h => by rw [put]; exact put_other hB vs (j + 1) _ (h.setOther hB j v)
theorem put_at {B : Nat} {t : TypeId} : ∀ (vs cs : List Value) (j : Nat) (w : World), Bk w B t cs.toArray → j + vs.length ≤ cs.length → Bk (put w B j vs) B t (cs.take j ++ vs ++ cs.drop (j + vs.length)).toArray
  | [], cs, j, w, h, _ => by simpa [put] using h
  | v :: vs, cs, j, w, h, hl => by
    rw [put]
    simp only [List.length_cons] at hl
    have h2 := h.setCell j v
    rw [List.setIfInBounds_toArray] at h2
    have := put_at vs (cs.set j v) (j + 1) _ h2 (by rw [List.length_set]; omega)
    have e1 : (cs.set j v).take (j + 1) = cs.take j ++ [v] := by
      rw [List.take_add_one, List.take_set_of_le (Nat.le_refl _)]
      congr 1
      rw [List.getElem?_set_self (by omega)]
      rfl
    have e2 : (cs.set j v).drop (j + 1 + vs.length) = cs.drop (j + (vs.length + 1)) := by
      rw [List.drop_set_of_lt (by omega)]
      congr 1
      omega
    rw [e1, e2] at this
    simpa using this
/-- The whole block is stored anew. -/
theorem put_all {B : Nat} {t : TypeId} {vs : List Value} {cs : Array Value} {w : World} (h : Bk w B t cs) (hl : vs.length = cs.size) : Bk (put w B 0 vs) B t vs.toArray := by
  obtain ⟨cs⟩ := cs
  have := put_at vs cs 0 w h (by simp at hl; omega)
  simp at hl
  simpa [hl] using this
/-- Block B is a row of n cells of type t, none of them frozen. -/
def Row (w : World) (B : Nat) (t : TypeId) (n : Nat) : Prop := ∃ cs, Bk w B t cs ∧ cs.size = n
theorem Bk.isRow {w : World} {B : Nat} {t : TypeId} {cs : Array Value} (h : Bk w B t cs) (n : Nat) (hn : cs.size = n) : Row w B t n := ⟨cs, h, hn⟩
section
variable {P : Program}
theorem run_storeAt_row {w : World} {B : Nat} {ty t : TypeId} {n : Nat} (cells : Array Value) (h : Row w B t n) (hi : (P.info? ty).map (·.size) = some n) (hs : cells.size = n) (h1 : cells.toList.all (·.oneCell') = true) :
    (Instr.storeAt ty (.pointer (some ⟨B, 0, none⟩)) (.agg cells)).run P w = .ok () (w.setRow B cells) := by
  obtain ⟨cs, hb, hn⟩ := h
  simp only [Instr.storeAt, Instr.sureAddr, Sem.run_bind, Sem.run_pure, Result.andThen_ok]
  exact run_storeVar_row w B t ty cs cells hb (by rw [hi, hs]) (by omega) (by rw [← Array.all_toList]; exact h1)
/-- A store of a whole variable, in a region that draws its order. -/
theorem step_store_row {ops : Array Oper} {o : Oper} {a : Act} {w : World} {K : Act → World → Prop} {Q : Exit → Act → World → Prop} {E : Prop} (hgd : o.guard = none) (ty : TypeId) (x y : Operand) (ho : o.op = .store ty x y)
    (g : Nat) (cells : Array Value) (hx : a.eval x = .pointer (some ⟨g, 0, none⟩)) (hy : a.eval y = .agg cells)
    (t : TypeId) (old : Array Value) (hg : w.heap[g]? = some (.cells old t (0, 0))) (hi : (P.info? ty).map (·.size) = some cells.size)
    (hold : old.size = cells.size) (h1 : cells.toList.all (·.oneCell') = true)
    (h : K (a.put o.dst undef) (w.setRow g cells)) : if Region.wanted o (yielded ops a.tmps) = true then Oper.wp P o a w K Q else E := by
  have hw : Region.wanted o (yielded ops a.tmps) = true := by simp [Region.wanted, hgd]
  rw [if_pos hw]
  exact wp_store_row ty x y ho g cells hx hy t old hg hi hold (by rw [← Array.all_toList]; exact h1) h
end
end Go.Proofs.Ytimnepfdpehdmaa

namespace Go.Proofs.Ytimnepfdpehdmaa
open Go.RowKit

theorem own_agree {V : Nat → Prop} {w w' : World} {base : Nat} {e : TypeId} {size : Nat} {v : Value} {n : Nat} {xs : List Value} (h : w.ownsRow base e size v n xs) (ha : Agree V w w') (hv : ∀ g, v.ownBlock = some g → ¬ V g) : w'.ownsRow base e size v n xs := by
  refine ⟨h.1, ?_⟩
  rcases h.2 with hn | ⟨g, cap, cur, rfl, hb, hgg, rest⟩
  · exact .inl hn
  · exact .inr ⟨g, cap, cur, rfl, hb, (ha.block g (Array.getElem?_eq_some_iff.1 hgg).1 (hv g rfl)).trans hgg, rest⟩
theorem Bk.agree {V : Nat → Prop} {w w' : World} {B : Nat} {t : TypeId} {cs : Array Value} (h : Bk w B t cs) (ha : Agree V w w') (hB : ¬ V B) : Bk w' B t cs := (ha.block B h.lt hB).trans h
theorem Src.single {w : World} {x : Value} {b : Nat} (h : w.cell? ⟨b, 0, none⟩ = some x) (hx : x.oneCell' = true) : Src w 1 (some ⟨b, 0, none⟩) 1 [x] :=
  ⟨rfl, (fun h => by cases h), (fun ad e j u hu => by
    injection e with e
    subst e
    cases j with
    | zero => simp only [List.getElem?_cons_zero, Option.some.injEq] at hu; subst hu; exact h
    | succ j => simp at hu), fun u hu => by simp only [List.mem_singleton] at hu; subst hu; exact hx⟩
structure Rows2 (e : TypeId) (w : World) (B : Nat) (va vt : Value) (n m : Nat) (xs ys : List Value) : Prop where
  a : w.ownsRow (B + 1) e 1 va n xs
  t : w.ownsRow (B + 1) e 1 vt m ys
  ap : ∀ g, va.ownBlock = some g → vt.ownBlock ≠ some g
def RowsV (va vt : Value) : Nat → Prop := fun b => va.ownBlock = some b ∨ vt.ownBlock = some b
def Vrow (B : Nat) (va vt : Value) : Nat → Prop := fun b => b = B ∨ RowsV va vt b
section
variable {e : TypeId} {w w' w1 wx : World} {B : Nat} {va vt va' vt' va0 vt0 : Value} {n m : Nat} {xs ys : List Value} {x y : Value}
theorem Rows2.ext (h : Rows2 e w B va vt n m xs ys) (he : Ext w w') : Rows2 e w' B va vt n m xs ys := ⟨own_ext h.a he, own_ext h.t he, h.ap⟩
theorem Rows2.lt (h : Rows2 e w B va vt n m xs ys) {g : Nat} (hg : RowsV va vt g) : B < g ∧ g < w.heap.size := by
  rcases hg with hg | hg
  · have := h.a.lt g hg; omega
  · have := h.t.lt g hg; omega
theorem Rows2.stored (h : Rows2 e w B va vt n m xs ys) (vs : List Value) : Rows2 e (put w B 0 vs) B va vt n m xs ys :=
  ⟨own_agree h.a (agree_put (V := (· = B)) rfl vs 0 w) (fun g hg => by have := h.lt (.inl hg); omega), own_agree h.t (agree_put (V := (· = B)) rfl vs 0 w) (fun g hg => by have := h.lt (.inr hg); omega), h.ap⟩
/-- The two rows since world wx, where they were va0 and vt0. -/
structure TwoR (e : TypeId) (wx : World) (va0 vt0 : Value) (w : World) (B : Nat) (va vt : Value) (n m : Nat) (xs ys : List Value) : Prop where
  r : Rows2 e w B va vt n m xs ys
  ag : Agree (RowsV va0 vt0) wx w
  na : ∀ g, va.ownBlock = some g → va0.ownBlock = some g ∨ wx.heap.size ≤ g
  nt : ∀ g, vt.ownBlock = some g → vt0.ownBlock = some g ∨ wx.heap.size ≤ g
  st : w.os = wx.os ∧ w.tape = wx.tape ∧ w.output = wx.output
theorem TwoR.start (h : Rows2 e wx B va vt n m xs ys) : TwoR e wx va vt wx B va vt n m xs ys := ⟨h, Agree.refl _ _, fun _ h => .inl h, fun _ h => .inl h, rfl, rfl, rfl⟩
theorem TwoR.ext (h : TwoR e wx va0 vt0 w B va vt n m xs ys) (he : Ext w w') : TwoR e wx va0 vt0 w' B va vt n m xs ys := ⟨h.r.ext he, h.ag.trans (he.agree _), h.na, h.nt, (Below.os he).trans h.st.1, (Below.tape he).trans h.st.2.1, (Below.output he).trans h.st.2.2⟩
theorem TwoR.ownA (h : TwoR e wx va0 vt0 w B va vt n m xs ys) : w.ownsRow (B + 1) e 1 va n xs := h.r.a
theorem TwoR.ownT (h : TwoR e wx va0 vt0 w B va vt n m xs ys) : w.ownsRow (B + 1) e 1 vt m ys := h.r.t
theorem TwoR.base (h : TwoR e wx va0 vt0 w B va vt n m xs ys) (hB : B + 1 ≤ wx.heap.size) : B + 1 ≤ w.heap.size := Nat.le_trans hB h.ag.size
theorem TwoR.cell (h : TwoR e wx va0 vt0 w B va vt n m xs ys) {p : Addr} {v : Value} (hp : ¬ RowsV va0 vt0 p.block) (hc : wx.cell? p = some v) : w.cell? p = some v := h.ag.cell hp hc
theorem TwoR.appA (h : TwoR e wx va0 vt0 w B va vt n m xs ys) (o : w1.ownsRow (B + 1) e 1 va' (n + 1) (xs ++ [x])) (g : w.grownBy w1 va.ownBlock) (b : va'.ownBlock = va.ownBlock ∨ va'.ownBlock = some w.heap.size) :
    TwoR e wx va0 vt0 w1 B va' vt (n + 1) m (xs ++ [x]) ys := by
  refine ⟨⟨o, h.r.t.kept g ?_, fun k hk => ?_⟩, ⟨Nat.le_trans h.ag.size g.size, fun k hk hv => (g.block k (Nat.lt_of_lt_of_le hk h.ag.size) (fun e' => ?_)).trans (h.ag.block k hk hv)⟩, fun k hk => ?_, h.nt, g.os.trans h.st.1, g.tape.trans h.st.2.1, g.output.trans h.st.2.2⟩
  · cases hv : vt.ownBlock with
    | none => exact .inl rfl
    | some q => exact .inr (fun e' => h.r.ap q e'.symm hv)
  · rcases b with b | b
    · exact h.r.ap k (by rw [← b]; exact hk)
    · rw [hk] at b
      injection b with b
      subst b
      intro h2
      have := h.r.t.lt _ h2
      omega
  · rcases h.na k e'.symm with h3 | h3
    · exact hv (.inl h3)
    · omega
  · rcases b with b | b
    · exact h.na k (by rw [← b]; exact hk)
    · rw [hk] at b
      injection b with b
      subst b
      exact .inr h.ag.size
theorem TwoR.swap (h : TwoR e wx va0 vt0 w B va vt n m xs ys) : TwoR e wx vt0 va0 w B vt va m n ys xs :=
  ⟨⟨h.r.t, h.r.a, fun g h1 h2 => h.r.ap g h2 h1⟩, h.ag.mono (fun _ h => h.symm), h.nt, h.na, h.st⟩
theorem TwoR.appT (h : TwoR e wx va0 vt0 w B va vt n m xs ys) (o : w1.ownsRow (B + 1) e 1 vt' (m + 1) (ys ++ [y])) (g : w.grownBy w1 vt.ownBlock) (b : vt'.ownBlock = vt.ownBlock ∨ vt'.ownBlock = some w.heap.size) :
    TwoR e wx va0 vt0 w1 B va vt' n (m + 1) xs (ys ++ [y]) := (h.swap.appA o g b).swap
/-- What was there ahead of the rows is as it was. -/
theorem TwoR.below {w0 : World} (h : TwoR e wx va0 vt0 w B va vt n m xs ys) (hx : Ext w0 wx) (hB : w0.heap.size ≤ B) (hr : ∀ g, RowsV va0 vt0 g → B < g) : Ext w0 w :=
  ⟨h.st.1.trans (Below.os hx), h.st.2.1.trans (Below.tape hx), h.st.2.2.trans (Below.output hx), Nat.le_trans hx.size h.ag.size,
    fun k hk => (h.ag.block k (Nat.lt_of_lt_of_le hk hx.size) (fun hv => by have := hr k hv; omega)).trans (Below.block hx k hk)⟩
/-- A slice of structs that lies outside the rows as they were, lies outside the rows as they are. -/
theorem TwoR.flat {α : Type} {k : Nat} {enc : α → List Value} {v : Value} {l : List α} (hk : 0 < k) (h : TwoR e wx va0 vt0 w B va vt n m xs ys) (hr : RF (Vrow B va0 vt0) k enc wx v l) : RF (Vrow B va vt) k enc w v l := by
  have h1 : RF (fun b => Vrow B va vt b ∨ RowsV va0 vt0 b) k enc wx v l := hr.weak hk (fun g hg hv => by
    rcases hv with hv | hv
    · rcases hv with hv | hv | hv
      · exact .inl hv
      · rcases h.na g hv with h2 | h2
        · exact .inr (.inl h2)
        · omega
      · rcases h.nt g hv with h2 | h2
        · exact .inr (.inr h2)
        · omega
    · exact .inr hv)
  exact (h1.agree (h.ag.mono (fun _ h => .inr h))).weak hk (fun _ _ h => .inl h)
end
end Go.Proofs.Ytimnepfdpehdmaa

namespace Go.Proofs.Ytimnepfdpehdmaa
section
variable {P : Program} {ops : Array Oper} {Q : Exit → Act → World → Prop} {md : Region.Mode}

/-- Whatever order is picked; until number n has come up the world stays W. -/
def wpAnyC (P : Program) (md : Region.Mode) (ops : Array Oper) (Q : Exit → Act → World → Prop) (W : World) (n : Nat) : Nat → Array Bool → Act → World → Prop
  | 0, listed, a, w => Region.ready md ops listed = [] ∧ Q .normal a w
  | fuel + 1, listed, a, w =>
    (Region.ready md ops listed = [] → Q .normal a w) ∧
    ∀ i ∈ Region.ready md ops listed, wpOp P ops Q i (fun a' w' => ((listed.setIfInBounds i true).getD n true = false → w' = W) ∧ wpAnyC P md ops Q W n fuel (listed.setIfInBounds i true) a' w') a w
theorem wpAny_of_C {W : World} {n : Nat} : ∀ (fuel : Nat) (listed : Array Bool) (a : Act) (w : World), wpAnyC P md ops Q W n fuel listed a w → wpAny P md ops Q fuel listed a w
  | 0, _, _, _, h => h
  | fuel + 1, _, _, _, h => ⟨h.1, fun i hi => wpOp_mono (fun a' w' h' => wpAny_of_C fuel _ a' w' h'.2) (h.2 i hi)⟩
theorem getD_set_in {listed : Array Bool} {i n : Nat} (h : listed.getD n false = true) : (listed.setIfInBounds i true).getD n true ≠ false := by
  have h1 := getD_set_true (i := i) h
  have hlt : n < (listed.setIfInBounds i true).size := by
    rcases Nat.lt_or_ge n (listed.setIfInBounds i true).size with h' | h'
    · exact h'
    · simp [Array.getElem?_eq_none h'] at h1
  simp only [Array.getD, hlt, dite_true] at h1 ⊢
  rw [h1]
  simp
theorem wpAnyC_of_any {W : World} {n : Nat} : ∀ (fuel : Nat) (listed : Array Bool) (a : Act) (w : World), listed.getD n false = true → wpAny P md ops Q fuel listed a w → wpAnyC P md ops Q W n fuel listed a w
  | 0, _, _, _, _, h => h
  | fuel + 1, _, _, _, hn, h => ⟨h.1, fun i hi => wpOp_mono (fun a' w' h' => ⟨fun h0 => absurd h0 (getD_set_in hn), wpAnyC_of_any fuel _ a' w' (getD_set_true hn) h'⟩) (h.2 i hi)⟩

/-- What has come up waits for nothing that has not. -/
structure Closed (md : Region.Mode) (ops : Array Oper) (listed : Array Bool) : Prop where
  size : listed.size = ops.size
  closed : ∀ j oj, ops[j]? = some oj → listed.getD j false = true → ∀ e ∈ oj.after, Region.binds md e = true → listed.getD e.on false = true
theorem Closed.start (md : Region.Mode) (ops : Array Oper) : Closed md ops (Array.replicate ops.size false) :=
  ⟨by simp, fun j oj _ h => by rw [getD_replicate_false] at h; cases h⟩
theorem Closed.set {listed : Array Bool} {i : Nat} (h : Closed md ops listed) (hi : i ∈ Region.ready md ops listed) : Closed md ops (listed.setIfInBounds i true) := by
  obtain ⟨_, oi, hoi, hall⟩ := mem_ready.1 hi
  refine ⟨by simp [h.size], fun j oj hj hl e he hb => ?_⟩
  by_cases hij : i = j
  · subst hij
    obtain rfl : oj = oi := Option.some.inj (hj.symm.trans hoi)
    exact getD_set_true (hall e he hb)
  · rw [getD_set_ne false hij] at hl
    exact getD_set_true (h.closed j oj hj hl e he hb)
theorem head_listed {n : Nat} {listed : Array Bool} (hs : Region.sinkB md ops n = true) (h : Closed md ops listed) (hn : listed.getD n false = true) : ∀ (d i : Nat), n - i = d → i < n → listed.getD i false = true := by
  intro d
  induction d using Nat.strongRecOn with
  | _ d ih =>
    intro i hd hi
    obtain ⟨j, hj, hj2⟩ := List.any_eq_true.1 (List.all_eq_true.1 hs i (List.mem_range.2 hi))
    simp only [Bool.and_eq_true, decide_eq_true_eq] at hj2
    obtain ⟨oj, hoj, e, he, hb, hon⟩ := Region.waitsFor_spec hj2.2
    have hjn : j ≤ n := by have := List.mem_range.1 hj; omega
    have hjl : listed.getD j false = true := by
      rcases Nat.lt_or_eq_of_le hjn with h1 | h1
      · exact ih (n - j) (by omega) j rfl h1
      · rw [h1]; exact hn
    rw [← hon]
    exact h.closed j oj hoj hjl e he hb
theorem head_open {n i : Nat} {listed : Array Bool} (hs : Region.sinkB md ops n = true) (h : Closed md ops listed) (hn : n < ops.size) (hi : i < n) (hu : listed.getD i true = false) : listed.getD n true = false := by
  cases hc : listed.getD n false with
  | true =>
    have := head_listed hs h hc (n - i) i rfl hi
    rw [getD_both hu] at this
    cases this
  | false => exact getD_in (by rw [h.size]; exact hn) hc

/-- An operation that is apart from one that yields: whether that one's value is there already makes no difference to it. -/
theorem wpOp_swap {W : World} {j : Nat} {oi oj : Oper} {v : Value} (hj : ops[j]? = some oj) (hap : oi.apart ops oj = true) (hsel : Region.noSelect ops = true) {i : Nat} (hi : ops[i]? = some oi)
    (hQ : ∀ c a a' w, Q (.panic c) a w → Q (.panic c) a' w) {K : Act → World → Prop} {a : Act} {w : World}
    (hy : YieldsAt P ops W oi v a) (h : wpOp P ops Q j K (a.put oi.dst v) w) :
    wpOp P ops Q j (fun a' w' => YieldsAt P ops W oi v a' ∧ K (a'.put oi.dst v) w') a w := by
  obtain ⟨h1, h2, h3⟩ := Oper.apart_spec hap
  have hsi := fun cs b => Region.noSelect_spec hsel i oi cs b hi
  have hsj := fun cs b => Region.noSelect_spec hsel j oj cs b hj
  have keep : ∀ (a : Act), YieldsAt P ops W oi v a → ∀ u, YieldsAt P ops W oi v (a.put oj.dst u) := fun a hy u =>
    hy.of_same (execOp_put oi hsi a oj.dst u h3) (wanted_put oi a oj.dst u h3)
  have comm : ∀ (a : Act) u, (a.put oj.dst u).put oi.dst v = (a.put oi.dst v).put oj.dst u := fun a u => (Act.put_comm a v u h2).symm
  unfold wpOp at *
  simp only [hj] at *
  rw [wanted_put oj a oi.dst v h1] at h
  by_cases hw : Region.wanted oj (yielded ops a.tmps) = true
  · simp only [hw, if_true] at h ⊢
    rcases h with h | ⟨ha, hl⟩
    · refine .inl ?_
      unfold Oper.wp at *
      rw [execOp_put oj hsj a oi.dst v h1] at h
      generalize (execOp a.eval oj).run P w = r at *
      cases r with
      | ok n w' =>
        cases n <;> simp only [Oper.upon] at h ⊢
        case value u => exact ⟨keep a hy u, by rw [comm]; exact h⟩
        case skip => exact ⟨keep a hy _, by rw [comm]; exact h⟩
        case defer d =>
          refine ⟨keep { a with defers := d :: a.defers } (hy.of_same rfl rfl) _, ?_⟩
          rw [comm, ← Act.put_defers]
          exact h
        case enter f args =>
          refine Calls.mono h fun e w'' he => ?_
          cases e with
          | returned u => exact ⟨keep a hy u, by rw [comm]; exact he⟩
          | panicked c => exact hQ _ _ _ _ he
          | outgrown => exact he
        case row row args => exact Rows.mono h fun u w'' he => ⟨keep a hy u, by rw [comm]; exact he⟩
      | halt x w' =>
        cases x <;> simp only [Oper.upon] at h ⊢
        case panic u => exact hQ _ _ _ _ h
    · refine .inr ⟨?_, hl⟩
      unfold Oper.asks at *
      rw [execOp_put oj hsj a oi.dst v h1] at ha
      exact ha
  · simp only [hw] at h ⊢
    exact ⟨keep a hy _, by rw [comm]; exact h⟩
/-- A reader of the head may come first. -/
theorem wpAnyC_first {W : World} {n i : Nat} {oi : Oper} {v : Value} (hi : ops[i]? = some oi) (hsel : Region.noSelect ops = true) (hs : Region.sinkB md ops n = true) (hn : n < ops.size) (hin : i < n)
    (hQ : ∀ c a a' w, Q (.panic c) a w → Q (.panic c) a' w) :
    ∀ (fuel : Nat) (listed : Array Bool) (a : Act), Closed md ops listed →
      (∀ j oj, ops[j]? = some oj → j ≠ i → listed.getD j true = false → (∀ e ∈ oj.after, Region.binds md e = true → e.on ≠ i) → oi.apart ops oj = true) →
      i ∈ Region.ready md ops listed → YieldsAt P ops W oi v a →
      wpAnyC P md ops Q W n fuel (listed.setIfInBounds i true) (a.put oi.dst v) W → wpAnyC P md ops Q W n (fuel + 1) listed a W := by
  intro fuel
  induction fuel with
  | zero =>
    intro listed a _ _ hr hy H
    refine ⟨fun h => (by rw [h] at hr; cases hr), fun j hj => ?_⟩
    by_cases hji : j = i
    · subst hji
      exact wpOp_of_stOp (fun a' h' => h') (hy.stOp hi ⟨fun _ => rfl, H⟩)
    · have := ready_mono hj hji
      rw [H.1] at this
      cases this
  | succ fuel ih =>
    intro listed a hc hfree hr hy H
    refine ⟨fun h => (by rw [h] at hr; cases hr), fun j hj => ?_⟩
    by_cases hji : j = i
    · subst hji
      exact wpOp_of_stOp (fun a' h' => h') (hy.stOp hi ⟨fun _ => rfl, H⟩)
    · have h1 := H.2 j (ready_mono hj hji)
      obtain ⟨hjun, oj, hoj, hall⟩ := mem_ready.1 hj
      have hiun := (mem_ready.1 hr).1
      have hnot : ∀ e ∈ oj.after, Region.binds md e = true → e.on ≠ i := fun e he hb heq => by
        have h2 := hall e he hb
        rw [heq, getD_both hiun] at h2
        cases h2
      have h2 := wpOp_swap hoj (hfree j oj hoj hji hjun hnot) hsel hi hQ hy h1
      have hc' := hc.set hj
      have hiun' : (listed.setIfInBounds j true).getD i true = false := by rw [getD_set_ne true hji]; exact hiun
      have hfree' : ∀ k ok, ops[k]? = some ok → k ≠ i → (listed.setIfInBounds j true).getD k true = false →
          (∀ e ∈ ok.after, Region.binds md e = true → e.on ≠ i) → oi.apart ops ok = true := fun k ok hk hki hun hno => by
        refine hfree k ok hk hki ?_ hno
        by_cases hjk : j = k
        · subst hjk; exact hjun
        · rw [getD_set_ne true hjk] at hun; exact hun
      refine wpOp_mono (fun a' w' h3 => ?_) h2
      obtain ⟨hy', hW, h4⟩ := h3
      have hno := head_open hs hc' hn hin hiun'
      have hW' : w' = W := hW (by rw [Array.setIfInBounds_comm _ _ (Ne.symm hji), getD_set_ne true (by omega)]; exact hno)
      subst hW'
      refine ⟨fun _ => rfl, ih (listed.setIfInBounds j true) a' hc' hfree' (ready_mono hr (Ne.symm hji)) hy' ?_⟩
      rw [Array.setIfInBounds_comm _ _ hji]
      exact h4

/-- The operation only takes a tuple apart. -/
def takesApart (ops : Array Oper) (k : Nat) : Bool := match ops[k]? with
  | some o => match o.op with | .extract .. => true | _ => false
  | none => false
def tailB (md : Region.Mode) (ops : Array Oper) : Nat → Nat → Array Bool → Bool
  | 0, _, listed => (Region.ready md ops listed).isEmpty
  | g + 1, k, listed => (decide (Region.ready md ops listed = [k]) || ((Region.ready md ops listed).contains k && takesApart ops k && Region.free md ops listed k)) && tailB md ops g (k + 1) (listed.setIfInBounds k true)
def headB (md : Region.Mode) (ops : Array Oper) (g : Nat) : Nat → Nat → Array Bool → Bool
  | 0, k, listed => decide (Region.ready md ops listed = [k]) && tailB md ops g k listed
  | f + 1, k, listed => (Region.ready md ops listed).contains k && Region.free md ops listed k && headB md ops g f (k + 1) (listed.setIfInBounds k true)
def callB (md : Region.Mode) (ops : Array Oper) (n : Nat) : Bool :=
  Region.noSelect ops && decide (n < ops.size) && Region.sinkB md ops n && headB md ops (ops.size - n) n 0 (Array.replicate ops.size false)
theorem extract_quiet (x : Value) (ix : Nat) (w : World) : ((Instr.extract x ix >>= fun v => pure (Next.value v)).runT P w #[]).2 = #[] := by
  cases x with
  | tuple vs =>
    cases hvs : vs[ix]? with
    | some v => simp only [Instr.extract, hvs]; rfl
    | none => simp only [Instr.extract, hvs]; rfl
  | _ => rfl
theorem apart_yields {o : Oper} {k : Nat} {a : Act} {w : World} {K : Act → World → Prop} (ho : ops[k]? = some o) (ht : takesApart ops k = true)
    (h : if Region.wanted o (yielded ops a.tmps) then o.wp P a w K Q ∨ (o.asks P a w ∧ LetsOut Q) else K (a.put o.dst undef) w) : ∃ v, Yields P ops o v a ∧ K (a.put o.dst v) w := by
  by_cases hw : Region.wanted o (yielded ops a.tmps) = true
  · simp only [hw, if_true] at h
    simp only [takesApart, ho] at ht
    split at ht
    · rename_i t ix hop
      have hx : execOp a.eval o = (Instr.extract (a.eval t) ix >>= fun v => pure (.value v)) := by
        unfold execOp; rw [hop]
      rcases h with h | ⟨h, _⟩
      · unfold Oper.wp at h
        rw [hx] at h
        cases hv : a.eval t with
        | tuple vs =>
          rw [hv] at h hx
          cases hvs : vs[ix]? with
          | some v =>
            have hr : ∀ w, (execOp a.eval o).run P w = .ok (.value v) w := fun w => by
              rw [hx]; simp [Instr.extract, hvs]
            refine ⟨v, .inl ⟨hw, hr⟩, ?_⟩
            rw [← hx, hr] at h
            exact h
          | none => simp [Instr.extract, hvs, stuck, Oper.upon] at h
        | _ => rw [hv] at h; simp [Instr.extract, stuck, Oper.upon] at h
      · unfold Oper.asks at h
        rw [hx, extract_quiet] at h
        simp at h
    · cases ht
  · simp only [hw] at h
    exact ⟨undef, .inr ⟨by simpa using hw, rfl⟩, h⟩
theorem wpAny_of_tail (hsel : Region.noSelect ops = true) (hQ : ∀ c a a' w, Q (.panic c) a w → Q (.panic c) a' w) : ∀ (l : List Oper) (k : Nat) (listed : Array Bool) (a : Act) (w : World), (∀ j, l[j]? = ops[k + j]?) →
    tailB md ops l.length k listed = true → wpList P ops Q l a w → wpAny P md ops Q l.length listed a w
  | [], _, _, _, _, _, hB, h => ⟨by simpa [tailB] using hB, h⟩
  | o :: l, k, listed, a, w, hl, hB, h => by
    have h0 : ops[k]? = some o := by simpa using (hl 0).symm
    have hl' : ∀ j, l[j]? = ops[k + 1 + j]? := fun j => by have := hl (j + 1); simpa [Nat.add_assoc, Nat.add_comm 1 j] using this
    simp only [List.length_cons, tailB, Bool.and_eq_true, Bool.or_eq_true, decide_eq_true_eq] at hB
    obtain ⟨hB, hB'⟩ := hB
    rcases hB with hB | ⟨⟨hr, ht⟩, hf⟩
    · refine ⟨fun h1 => (by rw [hB] at h1; cases h1), fun i hi => ?_⟩
      rw [hB] at hi
      obtain rfl : i = k := by simpa using hi
      have hw : wpOp P ops Q i (wpList P ops Q l) a w := by unfold wpOp; simp only [h0]; exact h
      exact wpOp_mono (fun a' w' h' => wpAny_of_tail hsel hQ l (i + 1) _ a' w' hl' hB' h') hw
    · obtain ⟨v, hy, hK⟩ := apart_yields (K := wpList P ops Q l) h0 ht h
      exact wpAny_take h0 hsel hf hr (fun c a w h => hQ c _ _ w h) hy (wpAny_of_tail hsel hQ l (k + 1) _ _ w hl' hB' hK)
theorem wpAnyC_lex {W : World} {n : Nat} {tl : List Oper} (hsel : Region.noSelect ops = true) (hs : Region.sinkB md ops n = true) (hn : n < ops.size) (hQ : ∀ c a a' w, Q (.panic c) a w → Q (.panic c) a' w)
    (htl : ∀ j, tl[j]? = ops[n + j]?) (hne : tl ≠ []) :
    ∀ (l : List Oper) (k : Nat) (listed : Array Bool) (a : Act), (∀ j, j < l.length → l[j]? = ops[k + j]?) → k + l.length = n → Closed md ops listed →
    headB md ops tl.length l.length k listed = true → wpStill P ops W (fun a' => wpList P ops Q tl a' W) l a →
    wpAnyC P md ops Q W n (l.length + tl.length) listed a W
  | [], k, listed, a, _, hk, hc, hB, h => by
    obtain rfl : k = n := by simpa using hk
    simp only [List.length_nil, headB, Bool.and_eq_true, decide_eq_true_eq] at hB
    have hw := wpAny_of_tail (md := md) hsel hQ tl k listed a W htl hB.2 h
    simp only [List.length_nil, Nat.zero_add]
    cases tl with
    | nil => exact absurd rfl hne
    | cons o tl =>
      refine ⟨fun h1 => (by rw [hB.1] at h1; cases h1), fun i hi => ?_⟩
      have hw2 := hw.2 i hi
      rw [hB.1] at hi
      obtain rfl : i = k := by simpa using hi
      have hil : i < listed.size := by rw [hc.size]; exact hn
      exact wpOp_mono (fun a' w' h' => ⟨fun h0 => by simp [hil] at h0, wpAnyC_of_any _ _ a' w' (by simp [hil]) h'⟩) hw2
  | o :: l, k, listed, a, hl, hk, hc, hB, h => by
    have h0 : ops[k]? = some o := by simpa using (hl 0 (by simp)).symm
    simp only [List.length_cons, headB, Bool.and_eq_true] at hB
    obtain ⟨⟨hr, hf⟩, hB'⟩ := hB
    have hkn : k < n := by simp only [List.length_cons] at hk; omega
    have hr' : k ∈ Region.ready md ops listed := by simpa using hr
    have hst : stOp P ops W k (wpStill P ops W (fun a' => wpList P ops Q tl a' W) l) a := by unfold stOp; simp only [h0]; exact h
    obtain ⟨v, hy, hK⟩ := yieldsAt_of_stOp h0 hst
    have := wpAnyC_first h0 hsel hs hn hkn hQ (l.length + tl.length) listed a hc (Region.free_spec h0 hf) hr' hy
      (wpAnyC_lex hsel hs hn hQ htl hne l (k + 1) _ _ (fun j hj => by have := hl (j + 1) (by simp; omega); simpa [Nat.add_assoc, Nat.add_comm 1 j] using this) (by simp only [List.length_cons] at hk; omega) (hc.set hr') hB' hK)
    rw [List.length_cons, show l.length + 1 + tl.length = l.length + tl.length + 1 by omega]
    exact this
end
/-- The law: n readers, then the call and what it leaves, in the order of the text. -/
theorem wp_region_call {P : Program} {id : Nat} {Q : Exit → Act → World → Prop} {a : Act} {w : World} {l : List Oper} (n : Nat) (hm : P.follows .mixedOrders = true) (hB : callB .any l.toArray n = true)
    (hQ : ∀ c a a' w, Q (.panic c) a w → Q (.panic c) a' w)
    (h : wpStill P l.toArray w.drew (fun a' => wpList P l.toArray Q (l.drop n) a' w.drew) (l.take n) a) : (Code.region id l.toArray true).wp P Q a w := by
  simp only [callB, Bool.and_eq_true, decide_eq_true_eq] at hB
  obtain ⟨⟨⟨hsel, hn⟩, hs⟩, hlex⟩ := hB
  have hn' : n < l.length := by simpa using hn
  have htl : (l.take n).length = n := by simp; omega
  have hdl : (l.drop n).length = l.toArray.size - n := by simp
  have H := wpAnyC_lex (md := .any) (P := P) (Q := Q) (W := w.drew) (tl := l.drop n) hsel hs hn hQ (fun j => by simp [List.getElem?_drop]) (by intro h0; rw [h0] at hdl; simp at hdl; omega) (l.take n) 0 (Array.replicate l.toArray.size false) a (fun j hj => by
    have hj' : j < n := by rw [htl] at hj; exact hj
    simp [hj']) (by simpa using htl) (Closed.start _ _) (by rw [htl, hdl]; exact hlex) h
  rw [htl, hdl, show n + (l.toArray.size - n) = l.toArray.size by omega] at H
  exact wp_region_any hm (wpAny_of_C _ _ _ _ H)
/-- The same, whatever the post says of a panic: the region is shown not to panic. -/
theorem wp_region_callN {P : Program} {id : Nat} {Q : Exit → Act → World → Prop} {a : Act} {w : World} {l : List Oper} (n : Nat) (hm : P.follows .mixedOrders = true) (hB : callB .any l.toArray n = true)
    (h : wpStill P l.toArray w.drew (fun a' => wpList P l.toArray (NoPanic Q) (l.drop n) a' w.drew) (l.take n) a) : (Code.region id l.toArray true).wp P Q a w :=
  wp_region_noPanic (wp_region_call n hm hB (fun _ _ _ _ h => h.elim) h)
end Go.Proofs.Ytimnepfdpehdmaa
