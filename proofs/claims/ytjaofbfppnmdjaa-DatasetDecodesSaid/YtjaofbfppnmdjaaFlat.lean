/- Slices of plain structs, each of k cells that lead to no memory: read, owned, appended to, copied, cut. Nothing of the program stands here. -/
import Derived.Test.YtjaofbfppnmdjaaBase
import Derived.Laws.CopyOwn
import Derived.Laws.OwnMore
import Derived.Lib.AppendZerosOnto
import Derived.Lib.Overlaps
namespace Go.Proofs.Ytjaofbfppnmdjaa
open Go.RowKit

/-- A list's last place is not written by one who writes elsewhere: two steps of growth, one after the other. -/
theorem grown_trans {a b c : World} {r : Option Nat} (h : a.grownBy b r) (k : b.grownBy c r) : a.grownBy c r :=
  ⟨k.os.trans h.os, k.tape.trans h.tape, k.output.trans h.output, Nat.le_trans h.size k.size, fun i hi hr => (k.block i (Nat.lt_of_lt_of_le hi h.size) hr).trans (h.block i hi hr)⟩
theorem grown_refl (a : World) (r : Option Nat) : a.grownBy a r := ⟨rfl, rfl, rfl, Nat.le_refl _, fun _ _ _ => rfl⟩
theorem grown_drew {a b : World} {r : Option Nat} (h : a.grownBy b r) : a.grownBy b.drew r := ⟨h.os, h.tape, h.output, h.size, h.block⟩
theorem grown_new {a b c : World} {r : Option Nat} {g : Nat} (h : a.grownBy b r) (k : b.grownBy c (some g)) (hg : a.heap.size ≤ g) : a.grownBy c r :=
  ⟨k.os.trans h.os, k.tape.trans h.tape, k.output.trans h.output, Nat.le_trans h.size k.size, fun i hi hr => (k.block i (Nat.lt_of_lt_of_le hi h.size) (fun e => by injection e with e; omega)).trans (h.block i hi hr)⟩
theorem grown_ext {a b : World} (h : Ext a b) (r : Option Nat) : a.grownBy b r :=
  ⟨Below.os h, Below.tape h, Below.output h, Below.size h, fun i hi _ => Below.block h i hi⟩
theorem grown_setRow (w : World) (g : Nat) (cs : Array Value) : w.grownBy (w.setRow g cs) (some g) :=
  ⟨rfl, rfl, rfl, by simp, fun k _ hk => setRow_other w g k cs (fun e => hk (by rw [e]))⟩

theorem cell_at (w : World) (cs : Array Value) (t : TypeId) (B j : Nat) (v : Value) (hB : w.heap.size = B) (h : cs[j]? = some v) : (w.alloc (.cells cs t)).cell? ⟨B, j, none⟩ = some v := by
  subst hB
  rw [World.cell?_alloc_at cs t w.heap.size j rfl]
  exact h
theorem frozen_at (w : World) (cs : Array Value) (t : TypeId) (B j : Nat) (hB : w.heap.size = B) : (w.alloc (.cells cs t)).frozen? ⟨B, j, none⟩ = false := by
  subst hB
  exact World.frozen?_alloc_at cs t w.heap.size j rfl
theorem cell_keep (w : World) (o : Obj) {p : Addr} {v : Value} (h : w.cell? p = some v) : (w.alloc o).cell? p = some v := ((Ext.refl w).alloc o).cell h

theorem agree_setCell {V : Nat → Prop} {w : World} {p : Addr} (hp : V p.block) (u : Value) : Agree V w (w.setCell p u) :=
  ⟨by simp [World.setCell], fun k _ hk => Below.heap_setCell _ _ _ _ (fun e => hk (by rw [e]; exact hp))⟩

/-- Blocks that are there already. -/
def Old (w : World) : Nat → Prop := fun k => k < w.heap.size
theorem get_lt {α : Type} {l : List α} {i : Nat} {x : α} (h : l[i]? = some x) : i < l.length := (List.getElem?_eq_some_iff.1 h).1
theorem list_eq_of {α : Type} (a b : List α) (h : a.length = b.length) (hk : ∀ (i : Nat) x y, a[i]? = some x → b[i]? = some y → x = y) : a = b := by
  apply List.ext_getElem h
  intro i h1 h2
  exact hk i _ _ (List.getElem?_eq_getElem h1) (List.getElem?_eq_getElem h2)
theorem list_ne_at {α : Type} (a b : List α) (i : Nat) (x y : α) (h1 : a[i]? = some x) (h2 : b[i]? = some y) (h : x ≠ y) : a ≠ b := by
  rintro rfl
  rw [h1] at h2
  injection h2 with h2
  exact h h2

/-! ### Copies of structs -/
section
variable {P : Program}
theorem run_copy_rowK (w : World) (dT sT ty elem : TypeId) (size : Nat) (g o dLen dCap : Nat) (a : Addr) (sLen sCap : Nat) (cur : Array Value) (t : TypeId) (cs : List Value)
    (hu : P.underlying dT = some (.slice elem)) (hs : (P.info? elem).map (·.size) = some size)
    (hg : w.heap[g]? = some (.cells cur t (0, 0))) (hn : cs.length = Nat.min sLen dLen * size)
    (hsrc : ∀ j v, cs[j]? = some v → w.cell? (a.add j) = some v) (hfit : o + cs.length ≤ cur.size) (h1 : ∀ v ∈ cs, v.oneCell' = true) :
    (Builtin.copy_ #[dT, sT] ty #[.slice (some ⟨g, o, none⟩) dLen dCap, .slice (some a) sLen sCap]).run P w =
      .ok (goInt (Nat.min sLen dLen)) (w.setRow g (cur.toList.take o ++ cs ++ cur.toList.drop (o + cs.length)).toArray) := by
  have hl := run_loadCells_list (P := P) w a cs hsrc
  have hst := run_storeCells_at P g o t cs 0 cur w hg (by simpa using hfit) h1
  cases hq : P.info? elem with
  | none => simp [hq] at hs
  | some i =>
    have hi : i.size = size := by simpa [hq] using hs
    simp [Builtin.copy_, run_underlying hu, Builtin.lenOf, Builtin.firstCells, sizeOf, typeInfo, hq, hi, ← hn, hl, hst]
theorem run_copy_noneK (w : World) (dT sT ty elem : TypeId) (d a : Option Addr) (dLen dCap sLen sCap : Nat) (hu : P.underlying dT = some (.slice elem)) (hs : ((P.info? elem).map (·.size)).isSome = true) (hn : Nat.min sLen dLen = 0) :
    (Builtin.copy_ #[dT, sT] ty #[.slice d dLen dCap, .slice a sLen sCap]).run P w = .ok (goInt 0) w := by
  cases hq : P.info? elem with
  | none => simp [hq] at hs
  | some i =>
    cases d <;> cases a <;> simp [Builtin.copy_, run_underlying hu, Builtin.lenOf, Builtin.firstCells, sizeOf, typeInfo, hq, hn, loadCells, loadCellsFrom, storeCells]
/-- One run equation for every copy into a row that is known whole. -/
theorem run_copyK (w : World) (dT sT ty elem : TypeId) (size : Nat) (hu : P.underlying dT = some (.slice elem)) (hs : (P.info? elem).map (·.size) = some size) (hsz : 0 < size)
    (dp sp : Option Addr) (dLen dCap sLen sCap : Nat) (g off : Nat) (cur : List Value) (t : TypeId) (hg : w.heap[g]? = some (.cells cur.toArray t (0, 0))) (cs : List Value) (hn : cs.length = Nat.min sLen dLen * size)
    (hpos : 0 < cs.length → dp = some ⟨g, off, none⟩ ∧ ∃ ad, sp = some ad ∧ ∀ j v, cs[j]? = some v → w.cell? (ad.add j) = some v)
    (hfit : off + cs.length ≤ cur.length) (h1 : ∀ v ∈ cs, v.oneCell' = true) :
    ∃ w', (Builtin.copy_ #[dT, sT] ty #[.slice dp dLen dCap, .slice sp sLen sCap]).run P w = .ok (goInt (Nat.min sLen dLen)) w' ∧ w'.heap[g]? = some (.cells (splice cur off cs).toArray t (0, 0)) ∧ w.grownBy w' (some g) := by
  by_cases h0 : cs.length = 0
  · obtain rfl : cs = [] := List.eq_nil_of_length_eq_zero h0
    have hm : Nat.min sLen dLen = 0 := by
      rcases Nat.mul_eq_zero.1 hn.symm with h | h
      · exact h
      · omega
    refine ⟨w, ?_, by simpa [splice] using hg, grown_refl _ _⟩
    rw [run_copy_noneK w dT sT ty elem dp sp dLen dCap sLen sCap hu (by rw [hs]; rfl) hm, hm]
    rfl
  · obtain ⟨rfl, ad, rfl, hsrc⟩ := hpos (by omega)
    refine ⟨_, run_copy_rowK w dT sT ty elem size g off dLen dCap ad sLen sCap cur.toArray t cs hu hs hg hn hsrc (by simpa using hfit) h1, ?_, grown_setRow _ _ _⟩
    have := setRow_heap w g cur.toArray (cur.take off ++ cs ++ cur.drop (off + cs.length)).toArray t _ hg
    simpa [splice] using this
theorem wpList_copyK {w : World} {ops : Array Oper} {rest : List Oper} {o : Oper} {a : Act} {Q : Exit → Act → World → Prop} (hgd : o.guard = none) (d s : Operand) (dT sT : TypeId)
    (ho : o.op = .call { callee := .builtin .copy, args := #[d, s], argTypes := #[dT, sT] }) (elem : TypeId) (size : Nat) (hu : P.underlying dT = some (.slice elem)) (hs : (P.info? elem).map (·.size) = some size) (hsz : 0 < size)
    (dp sp : Option Addr) (dLen dCap sLen sCap : Nat) (hd : a.eval d = .slice dp dLen dCap) (hs2 : a.eval s = .slice sp sLen sCap)
    (g off : Nat) (cur : List Value) (t : TypeId) (hg : w.heap[g]? = some (.cells cur.toArray t (0, 0))) (cs : List Value) (hn : cs.length = Nat.min sLen dLen * size)
    (hpos : 0 < cs.length → dp = some ⟨g, off, none⟩ ∧ ∃ ad, sp = some ad ∧ ∀ j v, cs[j]? = some v → w.cell? (ad.add j) = some v)
    (hfit : off + cs.length ≤ cur.length) (h1 : ∀ v ∈ cs, v.oneCell' = true)
    (h : ∀ w', Hid (w'.heap[g]? = some (.cells (splice cur off cs).toArray t (0, 0))) → w.grownBy w' (some g) → wpList P ops Q rest (a.put o.dst (goInt (Nat.min sLen dLen))) w') : wpList P ops Q (o :: rest) a w := by
  refine wpList_plain hgd fun K hK => ?_
  obtain ⟨w', hrun, h2, h3⟩ := run_copyK (P := P) w dT sT o.type elem size hu hs hsz dp sp dLen dCap sLen sCap g off cur t hg cs hn hpos hfit h1
  unfold Oper.wp
  simp [execOp, ho, resolve, invoke, builtin, hd, hs2, hrun, Result.andThen]
  exact hK _ _ (h w' h2 h3)
theorem step_copyK {ops : Array Oper} {o : Oper} {a : Act} {w : World} {K : Act → World → Prop} {Q : Exit → Act → World → Prop} {E : Prop} (hgd : o.guard = none) (d s : Operand) (dT sT : TypeId)
    (ho : o.op = .call { callee := .builtin .copy, args := #[d, s], argTypes := #[dT, sT] }) (elem : TypeId) (size : Nat) (hu : P.underlying dT = some (.slice elem)) (hs : (P.info? elem).map (·.size) = some size) (hsz : 0 < size)
    (dp sp : Option Addr) (dLen dCap sLen sCap : Nat) (hd : a.eval d = .slice dp dLen dCap) (hs2 : a.eval s = .slice sp sLen sCap)
    (g off : Nat) (cur : List Value) (t : TypeId) (hg : w.heap[g]? = some (.cells cur.toArray t (0, 0))) (cs : List Value) (hn : cs.length = Nat.min sLen dLen * size)
    (hpos : 0 < cs.length → dp = some ⟨g, off, none⟩ ∧ ∃ ad, sp = some ad ∧ ∀ j v, cs[j]? = some v → w.cell? (ad.add j) = some v)
    (hfit : off + cs.length ≤ cur.length) (h1 : ∀ v ∈ cs, v.oneCell' = true)
    (h : ∀ w', Hid (w'.heap[g]? = some (.cells (splice cur off cs).toArray t (0, 0))) → w.grownBy w' (some g) → K (a.put o.dst (goInt (Nat.min sLen dLen))) w') :
    if Region.wanted o (yielded ops a.tmps) = true then Oper.wp P o a w K Q else E := by
  have hw : Region.wanted o (yielded ops a.tmps) = true := by simp [Region.wanted, hgd]
  rw [if_pos hw]
  obtain ⟨w', hrun, h2, h3⟩ := run_copyK (P := P) w dT sT o.type elem size hu hs hsz dp sp dLen dCap sLen sCap g off cur t hg cs hn hpos hfit h1
  unfold Oper.wp
  simp [execOp, ho, resolve, invoke, builtin, hd, hs2, hrun, Result.andThen]
  exact h w' h2 h3
end

/-! ### Rows of structs that lead to no memory -/
section
variable {α : Type} {V : Nat → Prop} {k : Nat} {enc : α → List Value} {w w' : World} {v : Value} {l : List α}
/-- The value v is a slice of structs that reads as l, each by its cells. -/
def RF (V : Nat → Prop) (k : Nat) (enc : α → List Value) (w : World) (v : Value) (l : List α) : Prop := RS V k (fun _ x cs => cs = enc x) w v l
theorem RF.agree (h : RF V k enc w v l) (hw : Agree V w w') : RF V k enc w' v l := RS.agree h hw fun _ _ _ h => h
theorem RF.ext (h : RF V k enc w v l) (hw : Ext w w') : RF V k enc w' v l := h.agree (hw.agree V)
theorem RF.form (h : RF V k enc w v l) : ∃ a c, v = .slice a l.length c ∧ l.length ≤ c ∧ c ≤ maxLen := RS.form h
theorem RF.nil (V : Nat → Prop) (k : Nat) (enc : α → List Value) (w : World) : RF V k enc w (.slice none 0 0) [] := RS.nil _ _ _ _
theorem RF.at_ (h : RF V k enc w v l) {i : Nat} (hi : i < l.length) : ∃ b off c, v = .slice (some ⟨b, off, none⟩) l.length c ∧ l.length ≤ c ∧ ¬ V b ∧ ∀ j u, (enc l[i])[j]? = some u → w.cell? ⟨b, off + i * k + j, none⟩ = some u := by
  obtain ⟨b, off, c, cs, h1, h2, h3, _, rfl, h5⟩ := RS.at_ h hi
  exact ⟨b, off, c, h1, h2, h3, h5⟩
theorem RF.get (h : RF V k enc w v l) {i : Nat} {x : α} (hx : l[i]? = some x) : ∃ b off c, v = .slice (some ⟨b, off, none⟩) l.length c ∧ l.length ≤ c ∧ ¬ V b ∧ ∀ j u, (enc x)[j]? = some u → w.cell? ⟨b, off + i * k + j, none⟩ = some u := by
  obtain ⟨hi, rfl⟩ := List.getElem?_eq_some_iff.1 hx
  exact h.at_ hi
theorem RF.src {a : Option Addr} {n c : Nat} (h : RF V k enc w (.slice a n c) l) (hk : 0 < k) (h1 : ∀ x, ∀ u ∈ enc x, u.oneCell' = true) : n = l.length ∧ Src w k a n (l.flatMap enc) := by
  obtain ⟨hn, h0, css, e1, e2, e3, e4⟩ := RS.src h hk
  have hc : css = l.map enc := by
    apply List.ext_getElem (by simp [e1])
    intro i hi1 hi2
    rw [List.getElem_map]
    exact e3 i (by omega) hi1
  have hf : css.flatten = l.flatMap enc := by rw [hc, List.flatMap_def]
  rw [hf] at e4
  refine ⟨hn, ⟨?_, fun e => by rw [hn, h0 e]; rfl, e4, fun u hu => ?_⟩⟩
  · rw [← hf, flatten_len css e2, e1, hn]
  · obtain ⟨x, _, hx⟩ := List.mem_flatMap.1 hu
    exact h1 x u hx
theorem flat_len (hk : ∀ x, (enc x).length = k) (l : List α) : (l.flatMap enc).length = l.length * k := by
  induction l with
  | nil => simp
  | cons x l ih => simp only [List.flatMap_cons, List.length_append, List.length_cons, ih, hk, Nat.add_mul]; omega
theorem flat_take (hk : ∀ x, (enc x).length = k) : ∀ (l : List α) (i : Nat), (l.flatMap enc).take (i * k) = (l.take i).flatMap enc
  | [], _ => by simp
  | x :: l, 0 => by simp
  | x :: l, i + 1 => by
    rw [List.take_succ_cons, List.flatMap_cons, List.flatMap_cons, List.take_append, ← flat_take hk l i, hk, List.take_of_length_le (by rw [hk, Nat.add_mul]; omega)]
    congr 2
    rw [Nat.add_mul]; omega
theorem flat_drop (hk : ∀ x, (enc x).length = k) : ∀ (l : List α) (i : Nat), (l.flatMap enc).drop (i * k) = (l.drop i).flatMap enc
  | [], _ => by simp
  | x :: l, 0 => by simp
  | x :: l, i + 1 => by
    rw [List.drop_succ_cons, List.flatMap_cons, ← flat_drop hk l i, List.drop_append, hk, List.drop_eq_nil_of_le (by rw [hk, Nat.add_mul]; omega), List.nil_append]
    congr 1
    rw [Nat.add_mul]; omega
theorem flat_get (hk : ∀ x, (enc x).length = k) (l : List α) (i : Nat) (hi : i < l.length) (j : Nat) (u : Value) (hu : (enc l[i])[j]? = some u) : (l.flatMap enc)[i * k + j]? = some u := by
  have := flatten_get (k := k) (l.map enc) (fun cs hc => by obtain ⟨x, _, rfl⟩ := List.mem_map.1 hc; exact hk x) i (by simpa using hi) j u (by simpa using hu)
  rwa [← List.flatMap_def] at this
theorem RF.of_own {base : Nat} {e : TypeId} (hk : ∀ x, (enc x).length = k) (h : w.ownsRow base e k v l.length (l.flatMap enc)) (hV : ∀ k, V k → k < base) : RF V k enc w v l := by
  rw [List.flatMap_def] at h
  refine RS.of_own (l.map enc) h (by simp) (fun cs hc => by obtain ⟨x, _, rfl⟩ := List.mem_map.1 hc; exact hk x) (fun i h1 h2 => by simp) hV
theorem RF.weak {V' : Nat → Prop} (h : RF V k enc w v l) (hk : 0 < k) (hv : ∀ g, g < w.heap.size → V' g → V g) : RF V' k enc w v l := RS.weak h hk hv fun _ _ _ h => h
theorem RF.le (h : RF V k enc w v l) : l.length ≤ maxLen := RS.le h
/-- The first i elements. -/
theorem RF.take {a : Option Addr} {n c : Nat} (h : RF V k enc w (.slice a n c) l) (i : Nat) (hi : i ≤ l.length) : RF V k enc w (.slice a i c) (l.take i) := by
  obtain ⟨a', c', hv, h1, h2, h3⟩ := h
  simp only [Value.slice.injEq] at hv
  obtain ⟨rfl, rfl, rfl⟩ := hv
  have hl : (l.take i).length = i := by simp; omega
  refine ⟨a, c, by rw [hl], by omega, h2, fun hne => ?_⟩
  have hne' : l ≠ [] := by rintro rfl; simp at hne
  obtain ⟨b, off, rfl, hV, hc⟩ := h3 hne'
  refine ⟨b, off, rfl, hV, fun j hj => ?_⟩
  have hj2 : j < l.length := by omega
  obtain ⟨cs, e1, e2, e3⟩ := hc j hj2
  exact ⟨cs, e1, by rw [List.getElem_take]; exact e2, e3⟩
end

/-- Where a part that begins at f begins: Go leaves the address where nothing is left of the capacity. -/
def cutK (b off cap f k : Nat) : Option Addr := some (if cap = f then ⟨b, off, none⟩ else ⟨b, off + f * k, none⟩)
theorem sliced_cutK (b off l h m k : Nat) : sliced (some ⟨b, off, none⟩) l h m k = .slice (cutK b off m l k) (h - l) (m - l) := by
  unfold sliced cutK
  split <;> simp [Addr.add]
theorem RF.drop {α : Type} {V : Nat → Prop} {k : Nat} {enc : α → List Value} {w : World} {l : List α} {b off n c : Nat} (h : RF V k enc w (.slice (some ⟨b, off, none⟩) n c) l) (i : Nat) (hi : i ≤ l.length) : RF V k enc w (.slice (cutK b off c i k) (n - i) (c - i)) (l.drop i) := by
  obtain ⟨a', c', hv, h1, h2, h3⟩ := h
  simp only [Value.slice.injEq] at hv
  obtain ⟨rfl, rfl, rfl⟩ := hv
  have hl : (l.drop i).length = l.length - i := by simp
  refine ⟨cutK b off c i k, c - i, by rw [hl], by omega, by omega, fun hne => ?_⟩
  have hlt : i < l.length := by
    have := List.length_pos_iff.2 hne
    omega
  have hne' : l ≠ [] := by rintro rfl; simp at hlt
  obtain ⟨b', off', hb, hV, hc⟩ := h3 hne'
  simp only [Option.some.injEq, Addr.mk.injEq, and_true] at hb
  obtain ⟨rfl, rfl⟩ := hb
  refine ⟨b, off + i * k, by unfold cutK; rw [if_neg (by omega)], hV, fun j hj => ?_⟩
  have hj2 : i + j < l.length := by omega
  obtain ⟨cs, e1, e2, e3⟩ := hc (i + j) hj2
  refine ⟨cs, e1, by rw [List.getElem_drop]; exact e2, fun p u hu => ?_⟩
  have := e3 p u hu
  rw [show off + (i + j) * k + p = off + i * k + j * k + p by rw [Nat.add_mul]; omega] at this
  exact this
end Go.Proofs.Ytjaofbfppnmdjaa
