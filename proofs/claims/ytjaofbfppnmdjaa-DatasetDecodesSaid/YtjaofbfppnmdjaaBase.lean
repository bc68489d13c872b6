/- Words for memory that all walks of this seat share: a world that extends another one, byte slices and slices of structs that read as lists, rows that a call builds by append. Nothing of the program stands here. -/
import Derived.WalkKit
import Derived.WalkLawsBesides
import Derived.WalkSpells
import Derived.Lib.Hide
import Derived.Deep.RegionHeld3
import Derived.Deep.DrawnRows
import Derived.Deep.AppendLies
import Derived.Maps.AppendAt
import Derived.Laws.AppendOwnNone
import Derived.BigQuiet
import Derived.Deep.Draws
namespace Go.Proofs.Ytjaofbfppnmdjaa
open Go.RowKit

/-! ### Worlds -/
/-- w' is w with new blocks: nothing that was there has turned. -/
def Ext (w w' : World) : Prop := Below w.heap.size w w'
theorem Ext.refl (w : World) : Ext w w := Below.refl _ _
theorem Ext.trans {a b c : World} (h : Ext a b) (k : Ext b c) : Ext a c := Below.trans h (Below.mono k h.size)
theorem Ext.size {w w' : World} (h : Ext w w') : w.heap.size ≤ w'.heap.size := Below.size h
theorem Ext.cell {w w' : World} (h : Ext w w') {p : Addr} {v : Value} (hc : w.cell? p = some v) : w'.cell? p = some v :=
  (Below.cell h (World.block_lt_of_cell? w p hc)).trans hc
theorem Ext.frozen {w w' : World} (h : Ext w w') {p : Addr} (hp : p.block < w.heap.size) : w'.frozen? p = w.frozen? p := Below.frozen h hp
theorem Ext.drew {a w : World} (h : Ext a w) : Ext a w.drew := Below.drew h
theorem Ext.drewN {a w : World} (h : Ext a w) (n : Nat) : Ext a (w.drewN n) := by
  have h' : Below a.heap.size a w := h
  exact (⟨h'.os, h'.tape, h'.output, h'.size, h'.block⟩ : Below a.heap.size a (w.drewN n))
theorem Ext.alloc {a w : World} (h : Ext a w) (o : Obj) : Ext a (w.alloc o) := Below.alloc h h.size o
theorem Ext.setCell {a w : World} (h : Ext a w) {p : Addr} (hp : a.heap.size ≤ p.block) (u : Value) : Ext a (w.setCell p u) := Below.setCell h hp u
theorem Ext.grown {a w w' : World} {row : Option Nat} (h : Ext a w) (hg : w.grownBy w' row) (hr : ∀ k, row = some k → a.heap.size ≤ k) : Ext a w' := Below.grown h hg h.size hr
theorem Ext.lt {w w' : World} (h : Ext w w') {k : Nat} (hk : k < w.heap.size) : k < w'.heap.size := Nat.lt_of_lt_of_le hk h.size

/-- w' is as w was, but for new blocks and for the blocks of V. -/
structure Agree (V : Nat → Prop) (w w' : World) : Prop where
  size : w.heap.size ≤ w'.heap.size
  block : ∀ k, k < w.heap.size → ¬ V k → w'.heap[k]? = w.heap[k]?
theorem Agree.refl (V : Nat → Prop) (w : World) : Agree V w w := ⟨Nat.le_refl _, fun _ _ _ => rfl⟩
theorem Agree.cell {V : Nat → Prop} {w w' : World} (h : Agree V w w') {p : Addr} {v : Value} (hp : ¬ V p.block) (hc : w.cell? p = some v) : w'.cell? p = some v :=
  (World.cell?_of_block (h.block p.block (World.block_lt_of_cell? w p hc) hp)).trans hc
theorem Ext.agree {w w' : World} (h : Ext w w') (V : Nat → Prop) : Agree V w w' := ⟨h.size, fun k hk _ => Below.block h k hk⟩
theorem Agree.of_grown {V : Nat → Prop} {w w' : World} {row : Option Nat} (h : w.grownBy w' row) (hr : ∀ k, row = some k → V k) : Agree V w w' :=
  ⟨h.size, fun k hk hv => h.block k hk (fun e => hv (hr k e.symm))⟩
theorem Agree.trans {V : Nat → Prop} {a b c : World} (h : Agree V a b) (k : Agree V b c) : Agree V a c :=
  ⟨Nat.le_trans h.size k.size, fun i hi hv => (k.block i (Nat.lt_of_lt_of_le hi h.size) hv).trans (h.block i hi hv)⟩
theorem Agree.mono {V V' : Nat → Prop} {a b : World} (h : Agree V a b) (hv : ∀ k, V k → V' k) : Agree V' a b :=
  ⟨h.size, fun i hi hn => h.block i hi (fun hh => hn (hv i hh))⟩

/-! ### Endings and numbers -/
theorem ret_int {k : IntKind} {a b : Int} (h : a = b) : Ending.returned (.int k a) = .returned (.int k b) := by rw [h]
theorem ret_bool {a b : Bool} (h : a = b) : Ending.returned (.bool a) = .returned (.bool b) := by rw [h]
theorem val_int {k : IntKind} {a b : Int} (h : a = b) : Value.int k a = Value.int k b := by rw [h]
theorem val_bool {a b : Bool} (h : a = b) : Value.bool a = Value.bool b := by rw [h]
theorem wrap_id (a : Int) (h1 : -1000000000000 ≤ a) (h2 : a ≤ 1000000000000) : IntKind.i64.wrap a = a := IntWalk.i64_in a (by omega)
theorem wrap_nat (a b : Nat) (h : a + b ≤ 1000000000000) : IntKind.i64.wrap ((a : Int) + b) = ((a + b : Nat) : Int) := by rw [wrap_id _ (by omega) (by omega)]; omega

/-! ### Byte slices -/
/-- Each number is a byte. -/
def Byt (bs : List Int) : Prop := ∀ x ∈ bs, 0 ≤ x ∧ x ≤ 255
/-- The value v is a slice of bytes that reads as bs, in blocks outside V. -/
def RB (V : Nat → Prop) (w : World) (v : Value) (bs : List Int) : Prop :=
  Byt bs ∧ ∃ a c, v = .slice a bs.length c ∧ bs.length ≤ c ∧ c ≤ maxLen ∧
    (bs ≠ [] → ∃ b off, a = some ⟨b, off, none⟩ ∧ ¬ V b ∧ ∀ j (h : j < bs.length), w.cell? ⟨b, off + j, none⟩ = some (.int .u8 bs[j]))
/-- No block is barred. -/
def Any : Nat → Prop := fun _ => False

theorem RB.agree {V : Nat → Prop} {w w' : World} {v : Value} {bs : List Int} (h : RB V w v bs) (hw : Agree V w w') : RB V w' v bs := by
  obtain ⟨hb, a, c, hv, h1, h2, h3⟩ := h
  refine ⟨hb, a, c, hv, h1, h2, fun hne => ?_⟩
  obtain ⟨b, off, e, hV, hc⟩ := h3 hne
  exact ⟨b, off, e, hV, fun j hj => hw.cell (p := ⟨b, off + j, none⟩) hV (hc j hj)⟩
theorem RB.ext {V : Nat → Prop} {w w' : World} {v : Value} {bs : List Int} (h : RB V w v bs) (hw : Ext w w') : RB V w' v bs := h.agree (hw.agree V)
theorem RB.weak {V V' : Nat → Prop} {w : World} {v : Value} {bs : List Int} (h : RB V w v bs) (hv : ∀ k, k < w.heap.size → V' k → V k) : RB V' w v bs := by
  obtain ⟨hb, a, c, hv', h1, h2, h3⟩ := h
  refine ⟨hb, a, c, hv', h1, h2, fun hne => ?_⟩
  obtain ⟨b, off, e, hV, hc⟩ := h3 hne
  have hl : 0 < bs.length := List.length_pos_iff.2 hne
  exact ⟨b, off, e, fun h => hV (hv _ (World.block_lt_of_cell? w ⟨b, off + 0, none⟩ (hc 0 hl)) h), hc⟩
theorem RB.any {V : Nat → Prop} {w : World} {v : Value} {bs : List Int} (h : RB V w v bs) : RB Any w v bs := h.weak fun _ _ h => h.elim
theorem RB.byt {V : Nat → Prop} {w : World} {v : Value} {bs : List Int} (h : RB V w v bs) : Byt bs := h.1
theorem RB.le {V : Nat → Prop} {w : World} {v : Value} {bs : List Int} (h : RB V w v bs) : bs.length ≤ maxLen := by
  obtain ⟨_, _, _, _, h1, h2, _⟩ := h; omega
/-- nil -/
theorem RB.nil (V : Nat → Prop) (w : World) : RB V w (.slice none 0 0) [] := ⟨fun _ h => by simp at h, none, 0, rfl, Nat.le_refl _, Nat.zero_le _, fun h => absurd rfl h⟩
theorem Byt.append {a b : List Int} (h : Byt a) (k : Byt b) : Byt (a ++ b) := fun x hx => by
  rcases List.mem_append.1 hx with hx | hx
  · exact h x hx
  · exact k x hx
theorem Byt.take {a : List Int} (h : Byt a) (n : Nat) : Byt (a.take n) := fun x hx => h x (List.mem_of_mem_take hx)
theorem Byt.drop {a : List Int} (h : Byt a) (n : Nat) : Byt (a.drop n) := fun x hx => h x (List.mem_of_mem_drop hx)
theorem Byt.nil : Byt [] := fun x hx => by simp at hx

/-! ### Slices of structs of k cells -/
/-- The value v is a slice of structs (k cells each) that reads as l, element by element by 'rep', its row in a block outside V. -/
def RS {α : Type} (V : Nat → Prop) (k : Nat) (rep : World → α → List Value → Prop) (w : World) (v : Value) (l : List α) : Prop :=
  ∃ a c, v = .slice a l.length c ∧ l.length ≤ c ∧ c ≤ maxLen ∧
    (l ≠ [] → ∃ b off, a = some ⟨b, off, none⟩ ∧ ¬ V b ∧ ∀ i (h : i < l.length), ∃ cs, cs.length = k ∧ rep w l[i] cs ∧ ∀ j u, cs[j]? = some u → w.cell? ⟨b, off + i * k + j, none⟩ = some u)
section
variable {α : Type} {V : Nat → Prop} {k : Nat} {rep rep' : World → α → List Value → Prop} {w w' : World} {v : Value} {l : List α}
theorem RS.agree (h : RS V k rep w v l) (hw : Agree V w w') (hr : ∀ x ∈ l, ∀ cs, rep w x cs → rep' w' x cs) : RS V k rep' w' v l := by
  obtain ⟨a, c, hv, h1, h2, h3⟩ := h
  refine ⟨a, c, hv, h1, h2, fun hne => ?_⟩
  obtain ⟨b, off, e, hV, hc⟩ := h3 hne
  refine ⟨b, off, e, hV, fun i hi => ?_⟩
  obtain ⟨cs, hl, hrep, hcell⟩ := hc i hi
  exact ⟨cs, hl, hr _ (List.getElem_mem hi) _ hrep, fun j u hu => hw.cell (p := ⟨b, off + i * k + j, none⟩) hV (hcell j u hu)⟩
theorem RS.le (h : RS V k rep w v l) : l.length ≤ maxLen := by
  obtain ⟨_, _, _, h1, h2, _⟩ := h; omega
theorem RS.nil (V : Nat → Prop) (k : Nat) (rep : World → α → List Value → Prop) (w : World) : RS V k rep w (.slice none 0 0) [] :=
  ⟨none, 0, rfl, Nat.le_refl _, Nat.zero_le _, fun h => absurd rfl h⟩
theorem RS.weak {V' : Nat → Prop} (h : RS V k rep w v l) (hk : 0 < k) (hv : ∀ g, g < w.heap.size → V' g → V g) (hr : ∀ x ∈ l, ∀ cs, rep w x cs → rep' w x cs) : RS V' k rep' w v l := by
  obtain ⟨a, c, hv', h1, h2, h3⟩ := h
  refine ⟨a, c, hv', h1, h2, fun hne => ?_⟩
  obtain ⟨b, off, e, hV, hc⟩ := h3 hne
  have hl : 0 < l.length := List.length_pos_iff.2 hne
  refine ⟨b, off, e, fun hh => ?_, fun i hi => ?_⟩
  · obtain ⟨cs, hl', _, hcell⟩ := hc 0 hl
    have h0 : cs[0]? = some (cs[0]'(by omega)) := List.getElem?_eq_getElem (by omega)
    exact hV (hv _ (World.block_lt_of_cell? w _ (hcell 0 _ h0)) hh)
  · obtain ⟨cs, hl, hrep, hcell⟩ := hc i hi
    exact ⟨cs, hl, hr _ (List.getElem_mem hi) _ hrep, hcell⟩
/-- The cells of element i. -/
theorem RS.at_ (h : RS V k rep w v l) {i : Nat} (hi : i < l.length) : ∃ b off c cs, v = .slice (some ⟨b, off, none⟩) l.length c ∧ l.length ≤ c ∧ ¬ V b ∧ cs.length = k ∧ rep w l[i] cs ∧ ∀ j u, cs[j]? = some u → w.cell? ⟨b, off + i * k + j, none⟩ = some u := by
  obtain ⟨a, c, hv, h1, h2, h3⟩ := h
  obtain ⟨b, off, rfl, hV, hc⟩ := h3 (fun e => by subst e; simp at hi)
  obtain ⟨cs, hl, hrep, hcell⟩ := hc i hi
  exact ⟨b, off, c, cs, hv, h1, hV, hl, hrep, hcell⟩
end
theorem RB.at_ {V : Nat → Prop} {w : World} {v : Value} {bs : List Int} (h : RB V w v bs) (hne : 0 < bs.length) :
    ∃ b off c, v = .slice (some ⟨b, off, none⟩) bs.length c ∧ bs.length ≤ c ∧ c ≤ maxLen ∧ ¬ V b ∧ ∀ j (hj : j < bs.length), w.cell? ⟨b, off + j, none⟩ = some (.int .u8 bs[j]) := by
  obtain ⟨_, a, c, hv, h1, h2, h3⟩ := h
  obtain ⟨b, off, rfl, hV, hc⟩ := h3 (fun e => by subst e; simp at hne)
  exact ⟨b, off, c, hv, h1, h2, hV, hc⟩
theorem RB.form {V : Nat → Prop} {w : World} {v : Value} {bs : List Int} (h : RB V w v bs) : ∃ a c, v = .slice a bs.length c ∧ bs.length ≤ c ∧ c ≤ maxLen := by
  obtain ⟨_, a, c, hv, h1, h2, _⟩ := h
  exact ⟨a, c, hv, h1, h2⟩
theorem RS.form {α : Type} {V : Nat → Prop} {k : Nat} {rep : World → α → List Value → Prop} {w : World} {v : Value} {l : List α} (h : RS V k rep w v l) : ∃ a c, v = .slice a l.length c ∧ l.length ≤ c ∧ c ≤ maxLen := by
  obtain ⟨a, c, hv, h1, h2, _⟩ := h
  exact ⟨a, c, hv, h1, h2⟩

/-! ### Rows that a call builds -/
theorem flatten_get {k : Nat} : ∀ (css : List (List Value)), (∀ cs ∈ css, cs.length = k) → ∀ i (hi : i < css.length) j u, css[i][j]? = some u → css.flatten[i * k + j]? = some u
  | [], _, i, hi, _, _, _ => by simp at hi
  | cs :: css, hl, 0, _, j, u, hu => by
    have hj : j < cs.length := by
      rcases Nat.lt_or_ge j cs.length with h | h
      · exact h
      · simp only [List.getElem_cons_zero] at hu; rw [List.getElem?_eq_none h] at hu; cases hu
    simp only [List.flatten_cons, Nat.zero_mul, Nat.zero_add]
    rw [List.getElem?_append_left hj]
    simpa using hu
  | cs :: css, hl, i + 1, hi, j, u, hu => by
    have hk : cs.length = k := hl cs (by simp)
    have ih := flatten_get css (fun c hc => hl c (by simp [hc])) i (by simpa using hi) j u (by simpa using hu)
    simp only [List.flatten_cons]
    rw [List.getElem?_append_right (by rw [hk, Nat.add_mul]; omega), hk]
    rw [← ih]
    congr 1
    rw [Nat.add_mul]; omega
theorem flatten_len {k : Nat} : ∀ (css : List (List Value)), (∀ cs ∈ css, cs.length = k) → css.flatten.length = css.length * k
  | [], _ => by simp
  | cs :: css, hl => by
    have hk : cs.length = k := hl cs (by simp)
    have ih := flatten_len css (fun c hc => hl c (by simp [hc]))
    simp only [List.flatten_cons, List.length_append, List.length_cons, ih, hk, Nat.add_mul]; omega

/-- A row of the call's own, read as a byte slice. -/
theorem RB.of_own {V : Nat → Prop} {w : World} {base : Nat} {e : TypeId} {v : Value} {bs : List Int} (h : w.ownsRow base e 1 v bs.length (bs.map (Value.int .u8))) (hb : Byt bs) (hV : ∀ k, V k → k < base) : RB V w v bs := by
  refine ⟨hb, ?_⟩
  rcases h.2 with ⟨rfl, hn⟩ | ⟨g, cap, cur, rfl, hg, hh, hnc, hcm, hcs, ht⟩
  · have : bs = [] := List.eq_nil_of_length_eq_zero hn
    subst this
    exact ⟨none, 0, rfl, Nat.le_refl _, Nat.zero_le _, fun h => absurd rfl h⟩
  · refine ⟨_, _, rfl, hnc, hcm, fun hne => ⟨g, 0, rfl, fun hv => by have := hV _ hv; omega, fun j hj => ?_⟩⟩
    have hx := h.cells (g := g) rfl j (.int .u8 bs[j]) (by simp [hj])
    simpa [Addr.add_lit] using hx
theorem RS.of_own {α : Type} {V : Nat → Prop} {k : Nat} {rep : World → α → List Value → Prop} {w : World} {base : Nat} {e : TypeId} {v : Value} {l : List α} (css : List (List Value))
    (h : w.ownsRow base e k v l.length css.flatten) (hl : css.length = l.length) (hk : ∀ cs ∈ css, cs.length = k) (hr : ∀ i (h1 : i < l.length) (h2 : i < css.length), rep w l[i] css[i]) (hV : ∀ k, V k → k < base) : RS V k rep w v l := by
  rcases h.2 with ⟨rfl, hn⟩ | ⟨g, cap, cur, rfl, hg, hh, hnc, hcm, hcs, ht⟩
  · have : l = [] := List.eq_nil_of_length_eq_zero hn
    subst this
    exact ⟨none, 0, rfl, Nat.le_refl _, Nat.zero_le _, fun h => absurd rfl h⟩
  · refine ⟨_, _, rfl, hnc, hcm, fun hne => ⟨g, 0, rfl, fun hv => by have := hV _ hv; omega, fun i hi => ?_⟩⟩
    have hi2 : i < css.length := by omega
    refine ⟨css[i], hk _ (List.getElem_mem hi2), hr i hi hi2, fun j u hu => ?_⟩
    have hx := h.cells (g := g) rfl (i * k + j) u (flatten_get css hk i hi2 j u hu)
    simpa [Addr.add_lit, Nat.add_assoc] using hx

/-- The cells of a byte slice, as a source of append. -/
theorem RB.src {V : Nat → Prop} {w : World} {a : Option Addr} {n c : Nat} {bs : List Int} (h : RB V w (.slice a n c) bs) :
    n = bs.length ∧ (a = none → bs = []) ∧ ∀ ad, a = some ad → ∀ j u, (bs.map (Value.int .u8))[j]? = some u → w.cell? (ad.add j) = some u := by
  obtain ⟨_, a', c', hv, h1, h2, h3⟩ := h
  simp only [Value.slice.injEq] at hv
  obtain ⟨rfl, rfl, rfl⟩ := hv
  refine ⟨rfl, fun e => ?_, fun ad e j u hu => ?_⟩
  · subst e
    rcases List.eq_nil_or_concat bs with hb | ⟨_, _, hb⟩
    · exact hb
    · obtain ⟨_, _, e, _⟩ := h3 (by rw [hb]; simp)
      cases e
  · have hne : bs ≠ [] := by rintro rfl; simp at hu
    obtain ⟨b, off, e', _, hc⟩ := h3 hne
    rw [e] at e'
    injection e' with e'
    subst e'
    have hj : j < bs.length := by
      rcases Nat.lt_or_ge j bs.length with hj | hj
      · exact hj
      · rw [List.getElem?_eq_none (by simpa using hj)] at hu; cases hu
    simp only [List.getElem?_map, List.getElem?_eq_getElem hj, Option.map_some] at hu
    injection hu with hu
    subst hu
    simpa [Addr.add_lit] using hc j hj
theorem RS.src {α : Type} {V : Nat → Prop} {k : Nat} {rep : World → α → List Value → Prop} {w : World} {a : Option Addr} {n c : Nat} {l : List α} (h : RS V k rep w (.slice a n c) l) (hk : 0 < k) :
    n = l.length ∧ (a = none → l = []) ∧ ∃ css : List (List Value), css.length = l.length ∧ (∀ cs ∈ css, cs.length = k) ∧ (∀ i (h1 : i < l.length) (h2 : i < css.length), rep w l[i] css[i]) ∧
      ∀ ad, a = some ad → ∀ j u, css.flatten[j]? = some u → w.cell? (ad.add j) = some u := by
  obtain ⟨a', c', hv, h1, h2, h3⟩ := h
  simp only [Value.slice.injEq] at hv
  obtain ⟨rfl, rfl, rfl⟩ := hv
  by_cases hne : l = []
  · subst hne
    exact ⟨rfl, fun _ => rfl, [], rfl, by simp, by simp, by simp⟩
  · obtain ⟨b, off, rfl, hV, hc⟩ := h3 hne
    have hex : ∀ i : Fin l.length, ∃ cs : List Value, cs.length = k ∧ rep w l[i] cs ∧ ∀ j u, cs[j]? = some u → w.cell? ⟨b, off + i.1 * k + j, none⟩ = some u := fun i => hc i.1 i.2
    refine ⟨rfl, (fun e => by cases e), List.ofFn fun i : Fin l.length => (hex i).choose, by simp, ?_, ?_, ?_⟩
    · intro cs hcs
      obtain ⟨i, rfl⟩ := (List.mem_ofFn).1 hcs
      exact (hex i).choose_spec.1
    · intro i hi hi2
      simp only [List.getElem_ofFn]
      exact (hex ⟨i, hi⟩).choose_spec.2.1
    · intro ad e j u hu
      injection e with e
      subst e
      have hlen : ∀ cs ∈ (List.ofFn fun i : Fin l.length => (hex i).choose), cs.length = k := by
        intro cs hcs
        obtain ⟨i, rfl⟩ := (List.mem_ofFn).1 hcs
        exact (hex i).choose_spec.1
      have hj : j < l.length * k := by
        have hl := flatten_len (k := k) _ hlen
        rcases Nat.lt_or_ge j (l.length * k) with hj | hj
        · exact hj
        · rw [List.getElem?_eq_none (by rw [hl]; simpa using hj)] at hu; cases hu
      have hi : j / k < l.length := Nat.div_lt_of_lt_mul (by rw [Nat.mul_comm]; exact hj)
      have hu' : ((hex ⟨j / k, hi⟩).choose)[j % k]? = some u := by
        have hlk : ((hex ⟨j / k, hi⟩).choose).length = k := (hex ⟨j / k, hi⟩).choose_spec.1
        have hm : j % k < k := Nat.mod_lt _ hk
        have h4 : ((hex ⟨j / k, hi⟩).choose)[j % k]? = some (((hex ⟨j / k, hi⟩).choose)[j % k]'(by omega)) := List.getElem?_eq_getElem (by omega)
        have h5 : j / k < (List.ofFn fun i : Fin l.length => (hex i).choose).length := by simpa using hi
        have h6 : (List.ofFn fun i : Fin l.length => (hex i).choose)[j / k]'h5 = (hex ⟨j / k, hi⟩).choose := by simp only [List.getElem_ofFn]
        have := flatten_get (k := k) _ hlen (j / k) h5 (j % k) (((hex ⟨j / k, hi⟩).choose)[j % k]'(by omega)) (by rw [h6]; exact h4)
        rw [Nat.div_add_mod'] at this
        rw [this] at hu
        rw [h4]; exact hu
      have hx := (hex ⟨j / k, hi⟩).choose_spec.2.2 (j % k) u hu'
      simp only [Nat.add_assoc, Nat.div_add_mod'] at hx
      simpa [Addr.add_lit] using hx

/-! ### append onto a row of the call's own, whatever the source -/
section
variable {P : Program} (w : World)
theorem run_append_nothing (base : Nat) (t ty e : TypeId) (i : TypeInfo) (size : Nat) (ht : P.underlying t = some (.slice e)) (hi : P.info? e = some i)
    (v : Value) (n c : Nat) (xs : List Value) (hown : w.ownsRow base e size v n xs) : (Builtin.append_ #[t, t] ty #[v, .slice none 0 c]).run P w = .ok v w := by
  rcases hown.2 with ⟨rfl, rfl⟩ | ⟨g, cap, cur, rfl, _, _, hnc, _⟩
  · simp [Builtin.append_, run_underlying ht, sizeOf, typeInfo, hi, Builtin.lenOf, Builtin.firstCells]
  · simp [Builtin.append_, run_underlying ht, sizeOf, typeInfo, hi, Builtin.lenOf, Builtin.firstCells, hnc, storeCells]
theorem owns_slice {base : Nat} {e : TypeId} {size : Nat} {v : Value} {n : Nat} {xs : List Value} {w : World} (h : w.ownsRow base e size v n xs) : ∃ a c, v = .slice a n c := by
  rcases h.2 with ⟨rfl, rfl⟩ | ⟨g, cap, cur, rfl, _⟩
  · exact ⟨none, 0, rfl⟩
  · exact ⟨_, _, rfl⟩
/-- The source: m elements at A, whose cells are news. -/
structure Src (w : World) (size : Nat) (A : Option Addr) (m : Nat) (news : List Value) : Prop where
  len : news.length = m * size
  none_ : A = none → m = 0
  cell : ∀ ad, A = some ad → ∀ j u, news[j]? = some u → w.cell? (ad.add j) = some u
  one : ∀ u ∈ news, u.oneCell' = true
theorem run_append_src (base : Nat) (t ty e : TypeId) (i : TypeInfo) (z : Value) (size bytes : Nat) (ht : P.underlying t = some (.slice e)) (hi : P.info? e = some i) (hz : i.zero = some z)
    (hsize : i.size = size) (hby : i.bytes = bytes) (hzs : z.cells.size = size) (hsz : 0 < size)
    (v : Value) (n : Nat) (xs : List Value) (hown : w.ownsRow base e size v n xs)
    (A : Option Addr) (m c : Nat) (news : List Value) (hsrc : Src w size A m news)
    (h63 : n + m ≤ maxLen) (hbytes : (n + m) * bytes ≤ 140737488355328) (hbase : base ≤ w.heap.size) :
    ∃ A' c' w', (Builtin.append_ #[t, t] ty #[v, .slice A m c]).run P w = .ok (.slice A' (n + m) c') w' ∧ w'.ownsRow base e size (.slice A' (n + m) c') (n + m) (xs ++ news) ∧ w.grownBy w' v.ownBlock ∧
      ((Value.slice A' (n + m) c').ownBlock = v.ownBlock ∨ (Value.slice A' (n + m) c').ownBlock = some w.heap.size) := by
  rcases A with _ | ad
  · obtain rfl := hsrc.none_ rfl
    have hn : news = [] := List.eq_nil_of_length_eq_zero (by simpa using hsrc.len)
    subst hn
    obtain ⟨a, c', rfl⟩ := owns_slice hown
    exact ⟨a, c', w, run_append_nothing w base t ty e i size ht hi _ n c xs hown, by simpa using hown, World.grownBy.refl w _, .inl rfl⟩
  · obtain ⟨v', w', hr, h2, h3, _, h5⟩ := run_append_own_at (P := P) w base t ty e i z size bytes ht hi hz hsize hby hzs hsz v n xs hown ad m c news hsrc.len (hsrc.cell ad rfl) hsrc.one h63 hbytes hbase
    obtain ⟨a, c', rfl⟩ := owns_slice h2
    exact ⟨a, c', w', hr, h2, h3, h5⟩
theorem wp_append_src {o : Oper} {a : Act} {K : Act → World → Prop} {Q : Exit → Act → World → Prop} (s x : Operand) (t : TypeId)
    (ho : o.op = .call { callee := .builtin .append, args := #[s, x], argTypes := #[t, t] })
    (base : Nat) (e : TypeId) (i : TypeInfo) (z : Value) (size bytes : Nat) (ht : P.underlying t = some (.slice e)) (hi : P.info? e = some i) (hz : i.zero = some z)
    (hsize : i.size = size) (hby : i.bytes = bytes) (hzs : z.cells.size = size) (hsz : 0 < size)
    (v : Value) (n : Nat) (xs : List Value) (hs : a.eval s = v) (hown : w.ownsRow base e size v n xs)
    (A : Option Addr) (m c : Nat) (news : List Value) (hx : a.eval x = .slice A m c) (hsrc : Src w size A m news)
    (h63 : n + m ≤ maxLen) (hbytes : (n + m) * bytes ≤ 140737488355328) (hbase : base ≤ w.heap.size)
    (h : ∀ A' c' w', w'.ownsRow base e size (.slice A' (n + m) c') (n + m) (xs ++ news) → w.grownBy w' v.ownBlock →
      ((Value.slice A' (n + m) c').ownBlock = v.ownBlock ∨ (Value.slice A' (n + m) c').ownBlock = some w.heap.size) → K (a.put o.dst (.slice A' (n + m) c')) w') : o.wp P a w K Q := by
  obtain ⟨A', c', w', hr, h2, h3, h4⟩ := run_append_src (P := P) w base t o.type e i z size bytes ht hi hz hsize hby hzs hsz v n xs hown A m c news hsrc h63 hbytes hbase
  unfold Oper.wp execOp
  simp only [ho, resolve, invoke, builtin, Sem.run_bind, Sem.run_pure, Result.andThen_ok, List.map_toArray, List.map_cons, List.map_nil, hs, hx, hr]
  exact h A' c' w' h2 h3 h4
theorem wpList_append_src {ops : Array Oper} {rest : List Oper} {o : Oper} {a : Act} {Q : Exit → Act → World → Prop} (hgd : o.guard = none) (s x : Operand) (t : TypeId)
    (ho : o.op = .call { callee := .builtin .append, args := #[s, x], argTypes := #[t, t] })
    (base : Nat) (e : TypeId) (i : TypeInfo) (z : Value) (size bytes : Nat) (ht : P.underlying t = some (.slice e)) (hi : P.info? e = some i) (hz : i.zero = some z)
    (hsize : i.size = size) (hby : i.bytes = bytes) (hzs : z.cells.size = size) (hsz : 0 < size)
    (v : Value) (n : Nat) (xs : List Value) (hs : a.eval s = v) (hown : w.ownsRow base e size v n xs)
    (A : Option Addr) (m c : Nat) (news : List Value) (hx : a.eval x = .slice A m c) (hsrc : Src w size A m news)
    (h63 : n + m ≤ maxLen) (hbytes : (n + m) * bytes ≤ 140737488355328) (hbase : base ≤ w.heap.size)
    (h : ∀ A' c' w', w'.ownsRow base e size (.slice A' (n + m) c') (n + m) (xs ++ news) → w.grownBy w' v.ownBlock →
      ((Value.slice A' (n + m) c').ownBlock = v.ownBlock ∨ (Value.slice A' (n + m) c').ownBlock = some w.heap.size) → wpList P ops Q rest (a.put o.dst (.slice A' (n + m) c')) w') : wpList P ops Q (o :: rest) a w :=
  wpList_plain hgd fun _ hK => wp_append_src w s x t ho base e i z size bytes ht hi hz hsize hby hzs hsz v n xs hs hown A m c news hx hsrc h63 hbytes hbase fun A' c' w' h2 h3 h4 => hK _ _ (h A' c' w' h2 h3 h4)
theorem step_append_src {ops : Array Oper} {o : Oper} {a : Act} {K : Act → World → Prop} {Q : Exit → Act → World → Prop} {E : Prop} (hgd : o.guard = none) (s x : Operand) (t : TypeId)
    (ho : o.op = .call { callee := .builtin .append, args := #[s, x], argTypes := #[t, t] })
    (base : Nat) (e : TypeId) (i : TypeInfo) (z : Value) (size bytes : Nat) (ht : P.underlying t = some (.slice e)) (hi : P.info? e = some i) (hz : i.zero = some z)
    (hsize : i.size = size) (hby : i.bytes = bytes) (hzs : z.cells.size = size) (hsz : 0 < size)
    (v : Value) (n : Nat) (xs : List Value) (hs : a.eval s = v) (hown : w.ownsRow base e size v n xs)
    (A : Option Addr) (m c : Nat) (news : List Value) (hx : a.eval x = .slice A m c) (hsrc : Src w size A m news)
    (h63 : n + m ≤ maxLen) (hbytes : (n + m) * bytes ≤ 140737488355328) (hbase : base ≤ w.heap.size)
    (h : ∀ A' c' w', w'.ownsRow base e size (.slice A' (n + m) c') (n + m) (xs ++ news) → w.grownBy w' v.ownBlock →
      ((Value.slice A' (n + m) c').ownBlock = v.ownBlock ∨ (Value.slice A' (n + m) c').ownBlock = some w.heap.size) → K (a.put o.dst (.slice A' (n + m) c')) w') :
    if Region.wanted o (yielded ops a.tmps) = true then Oper.wp P o a w K Q else E := by
  have hw : Region.wanted o (yielded ops a.tmps) = true := by simp [Region.wanted, hgd]
  rw [if_pos hw]
  exact wp_append_src w s x t ho base e i z size bytes ht hi hz hsize hby hzs hsz v n xs hs hown A m c news hx hsrc h63 hbytes hbase h
end
theorem own_ext {w w' : World} {base : Nat} {e : TypeId} {size : Nat} {v : Value} {n : Nat} {xs : List Value} (h : w.ownsRow base e size v n xs) (hw : Ext w w') : w'.ownsRow base e size v n xs := by
  refine ⟨h.1, ?_⟩
  rcases h.2 with hn | ⟨g, cap, cur, rfl, hb, hgg, rest⟩
  · exact .inl hn
  · exact .inr ⟨g, cap, cur, rfl, hb, (Below.block hw g (Array.getElem?_eq_some_iff.1 hgg).1).trans hgg, rest⟩
/-- The one element that 'append(out, x)' lays into a block of its own first. -/
theorem Src.lit (w : World) (cs : Array Value) (t : TypeId) (k : Nat) (hk : cs.size = k) (h1 : ∀ u ∈ cs.toList, u.oneCell' = true) : Src (w.alloc (.cells cs t)) k (some ⟨w.heap.size, 0, none⟩) 1 cs.toList :=
  ⟨by simpa using hk, (fun h => by cases h), (fun ad h => by injection h with h; subst h; exact World.news_of_block (heap_alloc_new w _)), h1⟩
theorem Src.litB (w : World) (cs : Array Value) (t : TypeId) (k B : Nat) (hB : w.heap.size = B) (hk : cs.size = k) (h1 : ∀ u ∈ cs.toList, u.oneCell' = true) : Src (w.alloc (.cells cs t)) k (some ⟨B, 0, none⟩) 1 cs.toList := by
  subst hB
  exact Src.lit w cs t k hk h1
theorem Src.bytes {V : Nat → Prop} {w : World} {a : Option Addr} {n c : Nat} {bs : List Int} (h : RB V w (.slice a n c) bs) : Src w 1 a n (bs.map (Value.int .u8)) := by
  obtain ⟨hn, h0, hc⟩ := h.src
  exact ⟨by simp [hn], fun e => by rw [hn, h0 e]; rfl, hc, ints_oneCell _ _⟩
theorem Src.drew {w : World} {size : Nat} {A : Option Addr} {m : Nat} {news : List Value} (h : Src w size A m news) : Src w.drew size A m news := ⟨h.len, h.none_, h.cell, h.one⟩
end Go.Proofs.Ytjaofbfppnmdjaa
