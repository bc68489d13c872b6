/- Arguments opened: a slice of nodes that can be read as data, each slice of which takes no more than the form's reach, as nodes nested to some depth, none of whose slices is too long. -/
import Derived.Test.YtjaofbfppnmdjaaOpenNd
import Derived.SizedLaws
namespace Go.Proofs.Ytjaofbfppnmdjaa
open Go.RowKit Go.ChangeShapes Go.WideShapes

set_option maxRecDepth 100000 in
theorem bytesOf_node : Try.prog.bytesOf 45 = 56 := by kernel_rfl
set_option maxRecDepth 100000 in
theorem bytesOf_byte : Try.prog.bytesOf 5 = 1 := by kernel_rfl

theorem weights_all {H : Type} {P : Program} {e : TypeId} : ∀ {ds : List (DataW H)} {d : DataW H}, d ∈ ds → ∀ n ∈ d.weights P e, n ∈ DataW.weightsAll P e ds
  | [], _, h, _, _ => by cases h
  | d0 :: ds, d, h, n, hn => by
    simp only [DataW.weightsAll, List.mem_append]
    rcases List.mem_cons.1 h with rfl | h
    · exact Or.inl hn
    · exact Or.inr (weights_all h n hn)

/-- Each slice, string and map in d takes no more bytes than the form's reach. -/
def Sized {H : Type} (P : Program) (t : TypeId) (d : DataW H) : Prop := ∀ n ∈ d.weights P t, n ≤ 140737488355328

section
variable {H : Type} {enc : TypeId × Value → H} {w : World} {base : Nat} {spare : Nat → Bool} {held : Bool}
theorem rb_sized {fuel : Nat} {v : Value} {x : DataW H × List MemPlace}
    (h : DataW.trod enc Try.prog w base spare held fuel 25 [v] = some x) (hz : Sized Try.prog 25 x.1) : ∃ bs : List Int, RB Any w v bs ∧ bs.length ≤ 140737488355328 := by
  obtain ⟨bs, hb, hbl⟩ := rb_of Try.underlying25 Try.underlying5 cells_byte h
  refine ⟨bs, hb, ?_⟩
  rcases open_ints Try.underlying25 Try.underlying5 cells_byte h with ⟨hcs, rfl⟩ | ⟨a, len, cap, zs, hcs, _, hl, hm, hzl, rfl, hcell, hwz⟩
  · simp [Rows.uptoBulk] at hbl
    simp [hbl]
  · injection hcs with hcs
    subst hcs
    obtain ⟨a', c', hv, _⟩ := hb.form
    simp only [Value.slice.injEq] at hv
    have hlz : len ≤ zs.length := by rw [hzl]; split <;> omega
    have h1 := hz (((lits (H := H) .u8 (zs.take len)).length + (lits (H := H) .u8 (zs.drop len)).length) * Try.prog.bytesOf 5) (by
      simp only [DataW.weights, Try.underlying25, List.mem_cons]
      exact Or.inl trivial)
    rw [bytesOf_byte] at h1
    have h2 : (lits (H := H) .u8 (zs.take len)).length = (zs.take len).length := by simp [lits]
    have h3 : (zs.take len).length = len := by simp; omega
    omega
set_option maxRecDepth 100000 in
/-- One node's three cells. -/
theorem node_fine {n fuel : Nat} {cs : List Value} {x : DataW H × List MemPlace}
    (ih : ∀ v y, DataW.trod enc Try.prog w base spare held (fuel - 1) 32 [v] = some y → Sized Try.prog 32 y.1 → ∃ l : List (Nd n), (RkN n).rk Any w v l ∧ fineN n l)
    (h : DataW.trod enc Try.prog w base spare held fuel 45 cs = some x) (hz : Sized Try.prog 45 x.1) :
    ∃ z : NodeOf (Nd n), cs.length = 3 ∧ nodeRep (RkN n) Any w z cs ∧ z.2.1.length ≤ 140737488355328 ∧ fineN n z.2.2 := by
  obtain ⟨xs, m, hm, rfl, hcl, hxl, hf⟩ := DataW.trod_struct Try.underlying45 h
  subst hm
  rw [cells_node] at hcl
  match cs, hcl with
  | [c0, c1, c2], _ =>
    match xs, hxl with
    | [y0, y1, y2], _ =>
      have f0 : DataW.trod enc Try.prog w base spare held m 3 [c0] = some y0 := by simpa [cells_int] using hf 0 _ rfl
      have f1 : DataW.trod enc Try.prog w base spare held m 25 [c1] = some y1 := by simpa [cells_bytes] using hf 1 _ rfl
      have f2 : DataW.trod enc Try.prog w base spare held m 32 [c2] = some y2 := by simpa [cells_nodes] using hf 2 _ rfl
      have z1 : Sized Try.prog 25 y1.1 := fun k hk => hz k (by
        simp only [DataW.weights, Try.underlying45, List.map_cons, List.map_nil, DataW.weightsEach, List.mem_append]
        exact Or.inr (Or.inl hk))
      have z2 : Sized Try.prog 32 y2.1 := fun k hk => hz k (by
        simp only [DataW.weights, Try.underlying45, List.map_cons, List.map_nil, DataW.weightsEach, List.mem_append]
        exact Or.inr (Or.inr (Or.inl hk)))
      obtain ⟨t, ht, rfl, _⟩ := DataW.trod_int Try.underlying3 f0
      obtain ⟨bs, hb, hbl⟩ := rb_sized f1 z1
      obtain ⟨l, hl, hc⟩ := ih c2 y2 (by simpa using f2) z2
      injection ht with ht
      subst ht
      exact ⟨(t, bs, l), rfl, ⟨c1, c2, rfl, hb, hl⟩, hbl, hc⟩
theorem fineS_nil {α : Type} (fk : List α → Prop) : fineS fk ([] : List (NodeOf α)) := ⟨by simp, fun x hx => by cases hx⟩
theorem fineN_nil : ∀ n, fineN n []
  | 0 => trivial
  | n + 1 => fineS_nil (fineN n)
set_option maxRecDepth 100000 in
theorem nd_fine : ∀ (fuel n : Nat), fuel ≤ n → ∀ (v : Value) (x : DataW H × List MemPlace), DataW.trod enc Try.prog w base spare held fuel 32 [v] = some x → Sized Try.prog 32 x.1 →
    ∃ l : List (Nd n), (RkN n).rk Any w v l ∧ fineN n l
  | 0, n, _, v, x, h, _ => by simp [DataW.trod] at h
  | fuel + 1, 0, hn, _, _, _, _ => by omega
  | 1, n + 1, _, v, x, h, _ => by
    rcases DataW.trod_slice Try.underlying32 h with ⟨hcs, rfl⟩ | ⟨a, len, cap, elems, rest, m, hm, hcs, rfl, hb, hl, hmx, hlen, hel, hsp, hns⟩
    · injection hcs with hcs
      subst hcs
      exact ⟨[], rk_nil (n + 1) _ _, fineN_nil _⟩
    · have hm0 : m = 0 := by omega
      subst hm0
      injection hcs with hcs
      subst hcs
      rcases Nat.eq_zero_or_pos len with h0 | h0
      · subst h0
        exact ⟨[], (⟨_, _, rfl, by simp, hmx, fun h => absurd rfl h⟩ : RS Any 3 (nodeRep (RkN n) Any) w _ []), fineN_nil _⟩
      · have := hel 0 h0
        rw [List.getElem?_eq_getElem (show 0 < elems.length by omega)] at this
        obtain ⟨cs', _, h2⟩ := Option.bind_eq_some_iff.1 this
        simp [DataW.trod] at h2
  | fuel + 2, n + 1, hn, v, x, h, hz => by
    rcases DataW.trod_slice Try.underlying32 h with ⟨hcs, rfl⟩ | ⟨a, len, cap, elems, rest, m, hm, hcs, rfl, hb, hl, hmx, hlen, hel, hsp, hns⟩
    · injection hcs with hcs
      subst hcs
      exact ⟨[], rk_nil (n + 1) _ _, fineN_nil _⟩
    · have hm0 : m = fuel + 1 := by omega
      subst hm0
      injection hcs with hcs
      subst hcs
      have hlw : len * 56 ≤ 140737488355328 := by
        have h1 := hz _ (by
          simp only [DataW.weights, Try.underlying32, List.mem_cons]
          exact Or.inl rfl)
        rw [bytesOf_node, List.length_map] at h1
        have h2 : len * 56 ≤ (elems.length + (rest.map (·.1)).length) * 56 := Nat.mul_le_mul_right _ (by omega)
        simp only [List.length_map] at h1 h2
        omega
      have hez : ∀ y ∈ elems, Sized Try.prog 45 y.1 := fun y hy k hk => hz k (by
        simp only [DataW.weights, Try.underlying32, List.mem_cons, List.mem_append]
        exact Or.inr (Or.inl (weights_all (List.mem_map_of_mem hy) k hk)))
      obtain ⟨L, hL, hp⟩ := list_choose (α := NodeOf (Nd n)) (len := len) (P := fun i z => ∃ cs : List Value, cs.length = 3 ∧ nodeRep (RkN n) Any w z cs ∧ (∀ j, j < 3 → w.cell? ((a.add (i * 3)).add j) = cs[j]?) ∧ z.2.1.length ≤ 140737488355328 ∧ fineN n z.2.2) (fun i hi => by
        have h1 := hel i hi
        have hi2 : i < elems.length := by omega
        rw [List.getElem?_eq_getElem hi2] at h1
        obtain ⟨cs, hc, ht⟩ := Option.bind_eq_some_iff.1 h1
        rw [cells_node] at hc
        obtain ⟨_, _, hcell⟩ := World.cells?_some hc
        obtain ⟨z, hz1, hz2, hz3⟩ := node_fine (n := n) (fun v y hy hy2 => nd_fine fuel n (by omega) v y hy hy2) ht (hez _ (List.getElem_mem hi2))
        exact ⟨z, cs, hz1, hz2, hcell, hz3⟩)
      have hrs : RS Any 3 (nodeRep (RkN n) Any) w (.slice (some a) len cap) L := by
        refine ⟨some a, cap, by rw [hL], by omega, hmx, fun hne => ?_⟩
        have h0 : 0 < L.length := List.length_pos_iff.2 hne
        obtain ⟨cs0, hl0, _, hcell0, _⟩ := hp 0 h0
        have hc0 := hcell0 0 (by omega)
        rw [List.getElem?_eq_getElem (show 0 < cs0.length by omega)] at hc0
        have hs := spot_none (a := a) (i := 0) (v := cs0[0]) (by simpa [Addr.add] using hc0) rfl
        refine ⟨a.block, a.off, by rw [← hs], fun h => h, fun i hi => ?_⟩
        obtain ⟨cs, hl1, hrep, hcell, _⟩ := hp i hi
        refine ⟨cs, hl1, hrep, fun j u hu => ?_⟩
        have hj : j < cs.length := by
          rcases Nat.lt_or_ge j cs.length with h | h
          · exact h
          · rw [List.getElem?_eq_none h] at hu; cases hu
        have := hcell j (by omega)
        rw [hs, Addr.add_lit, Addr.add_lit, hu] at this
        exact this
      refine ⟨L, hrs, (show fineS (fineN n) L from ⟨by rw [hL]; exact hlw, fun z hzm => ?_⟩)⟩
      obtain ⟨i, hi, rfl⟩ := List.mem_iff_getElem.1 hzm
      obtain ⟨_, _, _, _, h1, h2⟩ := hp i hi
      exact ⟨h1, h2⟩
end
end Go.Proofs.Ytjaofbfppnmdjaa
