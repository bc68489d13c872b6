/- Arguments opened: a slice of nodes that can be read as data, as nodes nested to some depth; what its bulk says of their number. -/
import Derived.Test.YtjaofbfppnmdjaaOpen
import Derived.Test.YtjaofbfppnmdjaaTlvG
namespace Go.Proofs.Ytjaofbfppnmdjaa
open Go.RowKit Go.ChangeShapes Go.WideShapes

set_option maxRecDepth 100000 in
theorem cells_node : Try.prog.cellsOf 45 = 3 := by kernel_rfl
set_option maxRecDepth 100000 in
theorem cells_int : Try.prog.cellsOf 3 = 1 := by kernel_rfl
set_option maxRecDepth 100000 in
theorem cells_bytes : Try.prog.cellsOf 25 = 1 := by kernel_rfl
set_option maxRecDepth 100000 in
theorem cells_nodes : Try.prog.cellsOf 32 = 1 := by kernel_rfl
set_option maxRecDepth 100000 in
theorem cells_byte : Try.prog.cellsOf 5 = 1 := by kernel_rfl

set_option maxRecDepth 100000 in
theorem bulkAll_sum {H : Type} {α : Type} (g : α → Nat) : ∀ (l : List α) (ds : List (DataW H)), ds.length = l.length → (∀ i (h1 : i < l.length) (h2 : i < ds.length), g l[i] ≤ Rows.uptoBulk ds[i]) → (l.map g).sum ≤ Rows.uptoBulkAll ds
  | [], _, _, _ => by simp
  | x :: l, [], h, _ => by simp at h
  | x :: l, d :: ds, h, hh => by
    have ih := bulkAll_sum g l ds (by simpa using h) (fun i h1 h2 => hh (i + 1) (by simp; omega) (by simp; omega))
    have h0 := hh 0 (by simp) (by simp)
    simp only [List.map_cons, List.sum_cons, Rows.uptoBulkAll, List.getElem_cons_zero] at *
    omega

set_option maxRecDepth 100000 in
theorem list_choose {α : Type} {len : Nat} {P : Nat → α → Prop} (h : ∀ i, i < len → ∃ z, P i z) : ∃ L : List α, L.length = len ∧ ∀ i (hi : i < L.length), P i L[i] := by
  refine ⟨List.ofFn fun i : Fin len => (h i.1 i.2).choose, by simp, fun i hi => ?_⟩
  simp only [List.getElem_ofFn]
  exact (h i (by simpa using hi)).choose_spec
set_option maxRecDepth 100000 in
theorem cntN_nil : ∀ n, cntN n [] = 0
  | 0 => rfl
  | _ + 1 => rfl
set_option maxRecDepth 100000 in
theorem cntS_sum {n : Nat} : ∀ (L : List (NodeOf (Nd n))), cntS (cntN n) L = (L.map fun z => 1 + (z.2.1.length + cntN n z.2.2)).sum
  | [] => rfl
  | z :: L => by
    have ih := cntS_sum L
    unfold cntS at *
    simp only [List.length_cons, List.map_cons, List.sum_cons] at *
    omega
section
variable {H : Type} {enc : TypeId × Value → H} {w : World} {base : Nat} {spare : Nat → Bool} {held : Bool}
set_option maxRecDepth 100000 in
/-- One node's three cells. -/
theorem node_of {n fuel : Nat} {cs : List Value} {x : DataW H × List MemPlace}
    (ih : ∀ v y, DataW.trod enc Try.prog w base spare held (fuel - 1) 32 [v] = some y → ∃ l : List (Nd n), (RkN n).rk Any w v l ∧ cntN n l + 1 ≤ Rows.uptoBulk y.1)
    (h : DataW.trod enc Try.prog w base spare held fuel 45 cs = some x) :
    ∃ z : NodeOf (Nd n), cs.length = 3 ∧ nodeRep (RkN n) Any w z cs ∧ 1 + (z.2.1.length + cntN n z.2.2) ≤ Rows.uptoBulk x.1 := by
  obtain ⟨xs, m, hm, rfl, hcl, hxl, hf⟩ := DataW.trod_struct Try.underlying45 h
  subst hm
  rw [cells_node] at hcl
  match cs, hcl with
  | [c0, c1, c2], _ =>
    match xs, hxl with
    | [y0, y1, y2], _ =>
      have f0 : DataW.trod enc Try.prog w base spare held m 3 [c0] = some y0 := by simpa [cells_int] using hf 0 _ rfl
      have f1 : DataW.trod enc Try.prog w base spare held m 25 [c1] = some y1 := by simpa [cells_bytes] using hf 1 _ rfl
      have f2 : DataW.trod enc Try.prog w base spare held m 32 [c2] = some y2 := by simpa [cells_nodes] using hf 2 _ rfl
      obtain ⟨t, ht, rfl, _⟩ := DataW.trod_int Try.underlying3 f0
      obtain ⟨bs, hb, hbl⟩ := rb_of Try.underlying25 Try.underlying5 cells_byte f1
      obtain ⟨l, hl, hc⟩ := ih c2 y2 (by simpa using f2)
      injection ht with ht
      subst ht
      refine ⟨(t, bs, l), rfl, ⟨c1, c2, rfl, hb, hl⟩, ?_⟩
      simp only [List.map_cons, List.map_nil, Rows.uptoBulk, Rows.uptoBulkAll]
      omega
set_option maxRecDepth 100000 in
theorem nd_of : ∀ (fuel n : Nat), fuel ≤ n → ∀ (v : Value) (x : DataW H × List MemPlace), DataW.trod enc Try.prog w base spare held fuel 32 [v] = some x →
    ∃ l : List (Nd n), (RkN n).rk Any w v l ∧ cntN n l + 1 ≤ Rows.uptoBulk x.1
  | 0, n, _, v, x, h => by simp [DataW.trod] at h
  | fuel + 1, 0, hn, _, _, _ => by omega
  | 1, n + 1, _, v, x, h => by
    rcases DataW.trod_slice Try.underlying32 h with ⟨hcs, rfl⟩ | ⟨a, len, cap, elems, rest, m, hm, hcs, rfl, hb, hl, hmx, hlen, hel, hsp, hns⟩
    · injection hcs with hcs
      subst hcs
      exact ⟨[], rk_nil (n + 1) _ _, by rw [cntN_nil]; simp [Rows.uptoBulk]⟩
    · have hm0 : m = 0 := by omega
      subst hm0
      injection hcs with hcs
      subst hcs
      rcases Nat.eq_zero_or_pos len with h0 | h0
      · subst h0
        refine ⟨[], (⟨_, _, rfl, by simp, hmx, fun h => absurd rfl h⟩ : RS Any 3 (nodeRep (RkN n) Any) w _ []), ?_⟩
        rw [cntN_nil]
        simp only [Rows.uptoBulk]
        omega
      · have := hel 0 h0
        rw [List.getElem?_eq_getElem (show 0 < elems.length by omega)] at this
        obtain ⟨cs', _, h2⟩ := Option.bind_eq_some_iff.1 this
        simp [DataW.trod] at h2
  | fuel + 2, n + 1, hn, v, x, h => by
    rcases DataW.trod_slice Try.underlying32 h with ⟨hcs, rfl⟩ | ⟨a, len, cap, elems, rest, m, hm, hcs, rfl, hb, hl, hmx, hlen, hel, hsp, hns⟩
    · injection hcs with hcs
      subst hcs
      exact ⟨[], rk_nil (n + 1) _ _, by rw [cntN_nil]; simp [Rows.uptoBulk]⟩
    · have hm0 : m = fuel + 1 := by omega
      subst hm0
      injection hcs with hcs
      subst hcs
      obtain ⟨L, hL, hp⟩ := list_choose (α := NodeOf (Nd n)) (len := len) (P := fun i z => ∃ cs : List Value, cs.length = 3 ∧ nodeRep (RkN n) Any w z cs ∧ (∀ j, j < 3 → w.cell? ((a.add (i * 3)).add j) = cs[j]?) ∧ ∃ y, elems[i]? = some y ∧ 1 + (z.2.1.length + cntN n z.2.2) ≤ Rows.uptoBulk y.1) (fun i hi => by
        have h1 := hel i hi
        rw [List.getElem?_eq_getElem (show i < elems.length by omega)] at h1
        obtain ⟨cs, hc, ht⟩ := Option.bind_eq_some_iff.1 h1
        rw [cells_node] at hc
        obtain ⟨_, _, hcell⟩ := World.cells?_some hc
        obtain ⟨z, hz1, hz2, hz3⟩ := node_of (n := n) (fun v y hy => nd_of fuel n (by omega) v y hy) ht
        exact ⟨z, cs, hz1, hz2, hcell, _, List.getElem?_eq_getElem (by omega), hz3⟩)
      have hrs : RS Any 3 (nodeRep (RkN n) Any) w (.slice (some a) len cap) L := by
        refine ⟨some a, cap, by rw [hL], by omega, hmx, fun hne => ?_⟩
        have h0 : 0 < L.length := List.length_pos_iff.2 hne
        obtain ⟨cs0, hl0, _, hcell0, _⟩ := hp 0 h0
        have hc0 := hcell0 0 (by omega)
        rw [List.getElem?_eq_getElem (show 0 < cs0.length by omega)] at hc0
        have hs := spot_none (a := a) (i := 0) (v := cs0[0]) (by simpa [Addr.add] using hc0) rfl
        refine ⟨a.block, a.off, by rw [← hs], fun h => h, fun i hi => ?_⟩
        obtain ⟨cs, hl1, hrep, hcell, _⟩ := hp i hi
        refine ⟨cs, hl1, hrep, fun j u hu => ?_⟩
        have hj : j < cs.length := by
          rcases Nat.lt_or_ge j cs.length with h | h
          · exact h
          · rw [List.getElem?_eq_none h] at hu; cases hu
        have := hcell j (by omega)
        rw [hs, Addr.add_lit, Addr.add_lit, hu] at this
        exact this
      have hsum := bulkAll_sum (H := H) (fun z : NodeOf (Nd n) => 1 + (z.2.1.length + cntN n z.2.2)) L (elems.map (·.1)) (by simp [hlen, hL]) (fun i h1 h2 => by
        obtain ⟨_, _, _, _, y, hy, hz⟩ := hp i h1
        have he : i < elems.length := by omega
        rw [List.getElem?_eq_getElem he] at hy
        injection hy with hy
        subst hy
        simpa using hz)
      rw [← cntS_sum] at hsum
      refine ⟨L, hrs, ?_⟩
      have hc : cntN (n + 1) L = cntS (cntN n) L := rfl
      rw [hc]
      simp only [Rows.uptoBulk]
      omega
end
end Go.Proofs.Ytjaofbfppnmdjaa
