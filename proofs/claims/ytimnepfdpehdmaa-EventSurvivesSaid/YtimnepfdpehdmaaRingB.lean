/- The nodes that a frame reaches in a ring with one cut at most: all. -/
import Derived.Test.YtimnepfdpehdmaaRing
import Derived.RangeFuncFrom
namespace Go.Proofs.Ytimnepfdpehdmaa
open Go.RowKit Go.Shelf

theorem info_boolT : (Try.prog.info? 4).map (fun i => (i.zero, i.size, i.bytes)) = some (some (.bool false), 1, 1) := by kernel_rfl
theorem make_bools (k : Nat) (hk : k ≤ 1000000) : ∃ cur : Array Value, cur.size = k ∧ (∀ i : Nat, i < k → cur[i]? = some (.bool false)) ∧ ∀ W : World, (Instr.makeSlice 23 (.int .i64 (k : Int)) (.int .i64 (k : Int))).run Try.prog W = .ok (.slice (some ⟨W.heap.size, 0, none⟩) k k) (W.alloc (.cells cur 4)) := by
  obtain ⟨i0, hi0, hz0, hz1, hz2⟩ := info_parts info_boolT
  refine ⟨madeCells (Value.bool false).cells (k * 1), by rw [size_madeCells]; omega, fun i hi => ?_, fun W => ?_⟩
  · rw [Nat.mul_one, show (Value.bool false).cells = #[Value.bool false] from rfl, ← Array.getElem?_toList, toList_madeCells_one]
    simp [hi]
  · have := run_make (P := Try.prog) W 23 4 i0 _ Try.underlying23 hi0 hz0 .i64 .i64 k k (by omega) (Int.le_refl _) (by rw [hz2]; omega) (by omega)
    simp only [Int.toNat_natCast, hz1] at this
    exact this
/-- A row of truth values in a block of its own. -/
def TRow (W : World) (B n : Nat) (g : Nat → Bool) : Prop := ∃ cs, Bk W B 4 cs ∧ cs.size = n ∧ ∀ i : Nat, i < n → cs[i]? = some (.bool (g i))
theorem TRow.cell {W : World} {B n : Nat} {g : Nat → Bool} (h : TRow W B n g) {i : Nat} (hi : i < n) : W.cell? ⟨B, i, none⟩ = some (.bool (g i)) := by
  obtain ⟨cs, hb, _, hc⟩ := h
  rw [hb.cell]; exact hc i hi
theorem TRow.frozen {W : World} {B n : Nat} {g : Nat → Bool} (h : TRow W B n g) (i : Nat) : W.frozen? ⟨B, i, none⟩ = false := by
  obtain ⟨cs, hb, _, _⟩ := h
  exact hb.frozen i
theorem TRow.set {W : World} {B n : Nat} {g : Nat → Bool} (h : TRow W B n g) {j : Nat} (hj : j < n) : TRow (W.setCell ⟨B, j, none⟩ (.bool true)) B n (fun i => g i || decide (i = j)) := by
  obtain ⟨cs, hb, hs, hc⟩ := h
  refine ⟨_, hb.setCell j _, by simp [hs], fun i hi => ?_⟩
  by_cases hij : i = j
  · subst hij
    rw [Array.getElem?_setIfInBounds_self_of_lt (by omega)]
    simp
  · rw [Array.getElem?_setIfInBounds_ne (fun e => hij e.symm), hc i hi]
    simp [hij]
theorem TRow.ext {W W' : World} {B n : Nat} {g : Nat → Bool} (h : TRow W B n g) (he : Ext W W') : TRow W' B n g := by
  obtain ⟨cs, hb, hs, hc⟩ := h
  exact ⟨cs, hb.ext he, hs, hc⟩
theorem TRow.congr {W : World} {B n : Nat} {g g' : Nat → Bool} (h : TRow W B n g) (e : ∀ i, i < n → g i = g' i) : TRow W B n g' := by
  obtain ⟨cs, hb, hs, hc⟩ := h
  exact ⟨cs, hb, hs, fun i hi => by rw [hc i hi, e i hi]⟩
theorem Bk_kept {W W' : World} {B : Nat} {t : TypeId} {cs : Array Value} {row : Option Nat} (h : Bk W B t cs) (hg : W.grownBy W' row) (hrow : ∀ r, row = some r → ∃ o : Obj, W.heap[r]? = some o ∧ o.isCells = false) : Bk W' B t cs := by
  refine (hg.block B h.lt (fun e => ?_)).trans h
  obtain ⟨o, ho, hc⟩ := hrow B e.symm
  rw [show W.heap[B]? = _ from h] at ho
  cases ho
  cases hc
theorem TRow.kept {W W' : World} {B n : Nat} {g : Nat → Bool} {row : Option Nat} (h : TRow W B n g) (hg : W.grownBy W' row) (hrow : ∀ r, row = some r → ∃ o : Obj, W.heap[r]? = some o ∧ o.isCells = false) : TRow W' B n g := by
  obtain ⟨cs, hb, hs, hc⟩ := h
  exact ⟨cs, Bk_kept hb hg hrow, hs, hc⟩

theorem ownFrom_def {β : Type} {B D : Nat} {o : Obj} {w : World} (h : w.heap[D]? = some o) (hB : w.heap.size ≤ B) : OwnFrom B (fun (_ : β) W => W.heap[D]? = some o) := fun _ _ _ _ hs hg hr =>
  (hg.block D (Array.getElem?_eq_some_iff.1 hs).1 (fun e => by have := (hr _ e.symm).1; have := (Array.getElem?_eq_some_iff.1 h).1; omega)).trans hs
/-! ### The two ways together -/
theorem modn {x n : Nat} (h : x < n * 3) : (x % n = x ∧ x < n) ∨ (x % n = x - n ∧ n ≤ x ∧ x < n * 2) ∨ (x % n = x - n * 2 ∧ n * 2 ≤ x) := by
  rcases Nat.lt_or_ge x n with h1 | h1
  · exact .inl ⟨Nat.mod_eq_of_lt h1, h1⟩
  · rcases Nat.lt_or_ge x (n * 2) with h2 | h2
    · refine .inr (.inl ⟨?_, h1, h2⟩)
      rw [Nat.mod_eq_sub_mod h1, Nat.mod_eq_of_lt (by omega)]
    · refine .inr (.inr ⟨?_, h2⟩)
      rw [Nat.mod_eq_sub_mod h1, Nat.mod_eq_sub_mod (by omega), Nat.mod_eq_of_lt (by omega)]
      omega
/-- Which nodes are marked when the nodes pre have come. -/
def mark {n : Nat} (g : Nat → Bool) (pre : List (Nod n)) (i : Nat) : Bool := g i || pre.any (fun x => decide (i = x.1.1))
theorem mark_snoc {n : Nat} (g : Nat → Bool) (pre : List (Nod n)) (x : Nod n) (i : Nat) : mark g (pre ++ [x]) i = (mark g pre i || decide (i = x.1.1)) := by
  simp [mark, Bool.or_assoc]
theorem mark_upto {n : Nat} (g : Nat → Bool) (f : Nat → Nod n) (k i : Nat) : mark g (uptoN f k) i = true ↔ g i = true ∨ ∃ j, j < k ∧ i = (f j).1.1 := by
  simp [mark, uptoN]
structure Ways (n fr : Nat) (bs : List Bool) (A D : Nat) : Prop where
  a0 : A ≤ n - 1
  a1 : ∀ i, i < A → bs[(fr + i) % n]? = some false
  a2 : A < n - 1 → bs[(fr + A) % n]? = some true
  d0 : D ≤ n - 1
  d1 : ∀ i, i < D → bs[(fr + n * 2 - 1 - i) % n]? = some false
  d2 : D < n - 1 → bs[(fr + n * 2 - 1 - D) % n]? = some true
  all : n - 1 ≤ A + D
theorem ways {n fr : Nat} {bs : List Bool} (h3 : 3 ≤ n) (hl : bs.length = n) (hfr : fr < n) (hone : ∀ i j : Nat, bs[i]? = some true → bs[j]? = some true → i = j) : ∃ A D, Ways n fr bs A D := by
  have hb : ∀ x, bs[x % n]? = some true ∨ bs[x % n]? = some false := fun x => by
    have : x % n < bs.length := by rw [hl]; exact Nat.mod_lt _ (by omega)
    rw [List.getElem?_eq_getElem this]
    cases bs[x % n] <;> simp
  by_cases hex : ∃ i, i < n ∧ bs[(fr + i) % n]? = some true
  · obtain ⟨A, hA, hA1⟩ := hex
    have hf : ∀ x, x % n ≠ (fr + A) % n → bs[x % n]? = some false := fun x hx => (hb x).resolve_left fun h => hx (hone _ _ h hA1)
    have mA := modn (x := fr + A) (n := n) (by omega)
    refine ⟨A, n - 1 - A, by omega, fun i hi => hf _ ?_, fun _ => hA1, by omega, fun i hi => hf _ ?_, fun hi => ?_, by omega⟩
    · have := modn (x := fr + i) (n := n) (by omega); omega
    · have := modn (x := fr + n * 2 - 1 - i) (n := n) (by omega); omega
    · have h1 := modn (x := fr + n * 2 - 1 - (n - 1 - A)) (n := n) (by omega)
      rw [show (fr + n * 2 - 1 - (n - 1 - A)) % n = (fr + A) % n by omega]
      exact hA1
  · have hf : ∀ i, i < n → bs[(fr + i) % n]? = some false := fun i hi => (hb _).resolve_left fun h => hex ⟨i, hi, h⟩
    refine ⟨n - 1, n - 1, by omega, fun i hi => hf i (by omega), fun h => by omega, by omega, fun i hi => ?_, fun h => by omega, by omega⟩
    have h1 := modn (x := fr + n * 2 - 1 - i) (n := n) (by omega)
    have h2 := modn (x := fr + (n - 1 - i)) (n := n) (by omega)
    rw [show (fr + n * 2 - 1 - i) % n = (fr + (n - 1 - i)) % n by omega]
    exact hf _ (by omega)
theorem Ways.cover {n fr : Nat} {bs : List Bool} {A D : Nat} (h3 : 3 ≤ n) (h : Ways n fr bs A D) (hfr : fr < n) (i : Nat) (hi : i < n) : mark (mark (fun i => decide (i = fr)) (uptoN (ascN h3 fr) A)) (uptoN (descN h3 fr) D) i = true := by
  rw [mark_upto, mark_upto]
  have ha := h.all
  by_cases h0 : i = fr
  · exact .inl (.inl (by simp [h0]))
  · have md := modn (x := i + n - fr) (n := n) (by omega)
    generalize hd : (i + n - fr) % n = d at md
    by_cases hdA : d ≤ A
    · refine .inl (.inr ⟨d - 1, by omega, ?_⟩)
      have := modn (x := fr + 1 + (d - 1)) (n := n) (by omega)
      show i = (fr + 1 + (d - 1)) % n
      omega
    · refine .inr ⟨n - d - 1, by omega, ?_⟩
      have := modn (x := fr + n * 2 - 1 - (n - d - 1)) (n := n) (by omega)
      show i = (fr + n * 2 - 1 - (n - d - 1)) % n
      omega
theorem asc_stops {n0 BR BF b off c n fr A D : Nat} {bs : List Bool} (hn : 3 ≤ n) (h40 : n ≤ 40) (hl : bs.length = n) (hfr : fr < n) (h : Ways n fr bs A D) (hb : b < n0) (w : World) (hn0 : n0 ≤ w.heap.size) (hR : w.cell? ⟨BR, 0, none⟩ = some (.slice (some ⟨b, off, none⟩) n c)) (hF : w.cell? ⟨BF, 0, none⟩ = some (.int .i64 (fr : Int))) (hc : ∀ (j : Nat) x, bs[j]? = some x → w.cell? ⟨b, off + j, none⟩ = some (.bool x)) :
    SeqStopsK Fence.wide 1 Try.prog 71 #[.pointer (some ⟨BR, 0, none⟩), .pointer (some ⟨BF, 0, none⟩)] nodeE (KpR n0 BR) (fun ys => ys = uptoN (ascN hn fr) A) (fun pre => ∃ k, k ≤ A ∧ pre = uptoN (ascN hn fr) k) n w := fun l J Jx W hW _ _ hY h0 =>
  asc1_in n0 l BR BF b off c n fr A bs hn h40 hl hfr h.a0 h.a1 h.a2 hb J Jx hY W ((hW.cell (p := ⟨BR, 0, none⟩) (World.block_lt_of_cell? w _ hR)).trans hR) ((hW.cell (p := ⟨BF, 0, none⟩) (World.block_lt_of_cell? w _ hF)).trans hF) (fun j x hx => (hW.cell (p := ⟨b, off + j, none⟩) (Nat.lt_of_lt_of_le hb hn0)).trans (hc j x hx)) h0
theorem desc_stops {n0 BR BF b off c n fr A D : Nat} {bs : List Bool} (hn : 3 ≤ n) (h40 : n ≤ 40) (hl : bs.length = n) (hfr : fr < n) (h : Ways n fr bs A D) (hb : b < n0) (w : World) (hn0 : n0 ≤ w.heap.size) (hR : w.cell? ⟨BR, 0, none⟩ = some (.slice (some ⟨b, off, none⟩) n c)) (hF : w.cell? ⟨BF, 0, none⟩ = some (.int .i64 (fr : Int))) (hc : ∀ (j : Nat) x, bs[j]? = some x → w.cell? ⟨b, off + j, none⟩ = some (.bool x)) :
    SeqStopsK Fence.wide 1 Try.prog 72 #[.pointer (some ⟨BR, 0, none⟩), .pointer (some ⟨BF, 0, none⟩)] nodeE (KpR n0 BR) (fun ys => ys = uptoN (descN hn fr) D) (fun pre => ∃ k, k ≤ D ∧ pre = uptoN (descN hn fr) k) n w := fun l J Jx W hW _ _ hY h0 =>
  desc1_in n0 l BR BF b off c n fr D bs hn h40 hl hfr h.d0 h.d1 h.d2 hb J Jx hY W ((hW.cell (p := ⟨BR, 0, none⟩) (World.block_lt_of_cell? w _ hR)).trans hR) ((hW.cell (p := ⟨BF, 0, none⟩) (World.block_lt_of_cell? w _ hF)).trans hF) (fun j x hx => (hW.cell (p := ⟨b, off + j, none⟩) (Nat.lt_of_lt_of_le hb hn0)).trans (hc j x hx)) h0
section
attribute [local go_sem] Oper.semAt_some
set_option maxRecDepth 100000 in
set_option maxHeartbeats 4000000 in
theorem reached_any (b off c n fr : Nat) (bs : List Bool) (w : World) (h3 : 3 ≤ n) (h40 : n ≤ 40) (hl : bs.length = n) (hfr : fr < n) (hone : ∀ i j : Nat, bs[i]? = some true → bs[j]? = some true → i = j) (hc : ∀ (j : Nat) x, bs[j]? = some x → w.cell? ⟨b, off + j, none⟩ = some (.bool x)) :
    Calls Try.prog 17 #[.agg #[.slice (some ⟨b, off, none⟩) n c], .int .i64 (fr : Int)] w fun e w' => ∃ B, e = .returned (.slice (some ⟨B, 0, none⟩) n n) ∧ Ext w w' ∧ w.heap.size ≤ B ∧ TRow w' B n (fun _ => true) := by
  obtain ⟨A, D, hW⟩ := ways h3 hl hfr hone
  obtain ⟨b0, hb0⟩ : ∃ x, bs[0]? = some x := ⟨_, List.getElem?_eq_getElem (by omega)⟩
  have hbw : b < w.heap.size := World.block_lt_of_cell? w _ (hc 0 _ hb0)
  obtain ⟨cur, hcs, hc0, hmk⟩ := make_bools n (by omega)
  have HCS := Lib.hid (And.intro hcs hc0)
  have HC := Lib.hid hc
  have HWY := Lib.hid hW
  have HHA := Lib.hid (fun w1 => ringHas_any (some ⟨b, off, none⟩) n c fr w1 h3 h40 hfr)
  have HDI := Lib.hid (fun w1 => directions_any w1)
  have HAS := Lib.hid (fun w1 => asc_any (some ⟨b, off, none⟩) n c fr w1)
  have HDE := Lib.hid (fun w1 => desc_any (some ⟨b, off, none⟩) n c fr w1)
  have hfn : (fr : Int) < n := by omega
  have hf0 : (0 : Int) ≤ fr := by omega
  clear hcs hc0 hc hW hb0 hone
  refine (callsIn_wide (n := 2)).1 ?_
  refine callsIn_of_wp_marks Try.func17 rfl trivial ?_ rfl
  simp only [Try.ntmps17, List.size_toArray, List.length_cons, List.length_nil, Nat.reduceAdd, Nat.reduceSub, Array.replicate_succ, Array.replicate_zero, List.push_toArray, List.append_toArray, List.nil_append, List.cons_append]
  gi_wp2
  refine ⟨trivial, ?_⟩
  refine (callsIn_wide.2 (HHA.out _)).mono ?_
  rintro e w1 ⟨rfl, x1⟩
  have X1 := Lib.hid (((Ext.refl w).alloc (.cells #[.slice (some ⟨b, off, none⟩) n c] 65)).trans x1)
  have b0 : Bk w1 w.heap.size 65 #[.slice (some ⟨b, off, none⟩) n c] := (Bk.new w #[.slice (some ⟨b, off, none⟩) n c] 65 w.heap.size rfl).ext x1
  have q0 : w1.cell? ⟨w.heap.size, 0, none⟩ = some (.slice (some ⟨b, off, none⟩) n c) := b0.cell 0
  have B0 := Lib.hid b0
  clear x1 b0
  have hcf := HCS.out.2 fr hfr
  gi_wp2
  refine ⟨trivial, ?_⟩
  have T2 := Lib.hid (show TRow ((w1.alloc (.cells (cur.setIfInBounds fr (.bool true)) 4)).alloc (.cells #[.slice (some ⟨w1.heap.size, 0, none⟩) n n] 23)) w1.heap.size n (fun i => decide (i = fr)) from TRow.ext (W := w1.alloc (.cells (cur.setIfInBounds fr (.bool true)) 4)) ⟨_, Bk.new w1 _ 4 w1.heap.size rfl, by rw [Array.size_setIfInBounds]; exact HCS.out.1, fun i hi => by
    by_cases h : i = fr
    · subst h; rw [Array.getElem?_setIfInBounds_self_of_lt (by rw [HCS.out.1]; exact hi)]; simp
    · rw [Array.getElem?_setIfInBounds_ne (fun e => h e.symm), HCS.out.2 i hi]; simp [h]⟩ ((Ext.refl _).alloc _))
  have L2 := Lib.hid (Bk.new (w1.alloc (.cells (cur.setIfInBounds fr (.bool true)) 4)) #[.slice (some ⟨w1.heap.size, 0, none⟩) n n] 23 (w1.heap.size + 1) (by simp))
  have X2 := Lib.hid ((X1.out.alloc (.cells (cur.setIfInBounds fr (.bool true)) 4)).alloc (.cells #[.slice (some ⟨w1.heap.size, 0, none⟩) n n] 23))
  have R2 := Lib.hid ((B0.out.alloc (.cells (cur.setIfInBounds fr (.bool true)) 4)).alloc (.cells #[.slice (some ⟨w1.heap.size, 0, none⟩) n n] 23))
  have HS1 := Lib.hid (show w.heap.size < w1.heap.size from B0.out.lt)
  clear hcf hmk HCS B0 X1 q0
  generalize (w1.alloc (.cells (cur.setIfInBounds fr (.bool true)) 4)).alloc (.cells #[.slice (some ⟨w1.heap.size, 0, none⟩) n n] 23) = w2 at *
  generalize w1.heap.size = RB at *
  clear w1
  refine (callsIn_wide.2 (HDI.out _)).mono ?_
  rintro e w3 ⟨rfl, x3⟩
  have T3 := Lib.hid (T2.out.ext x3)
  have L3 := Lib.hid (L2.out.ext x3)
  have X3 := Lib.hid (X2.out.trans x3)
  have R3 := Lib.hid (R2.out.ext x3)
  have q0 : w3.cell? ⟨w.heap.size, 0, none⟩ = some (.slice (some ⟨b, off, none⟩) n c) := R3.out.cell 0
  clear T2 L2 X2 R2 x3
  have hi0 : ∀ W : World, (Instr.index 102 (.agg #[.func (.func 59) #[] #[], .func (.func 60) #[] #[]]) (.int .i64 0)).run Try.prog W = .ok (.func (.func 59) #[] #[]) W := fun W => by kernel_rfl
  have hi1 : ∀ W : World, (Instr.index 102 (.agg #[.func (.func 59) #[] #[], .func (.func 60) #[] #[]]) (.int .i64 1)).run Try.prog W = .ok (.func (.func 60) #[] #[]) W := fun W => by kernel_rfl
  gi_wp2
  refine wpIn_loop_rounds 3 ?_
  rw [roundsIn_succ]
  gi_wp2
  refine ⟨trivial, ?_⟩
  have w4e : Ext w3 ((w3.alloc (.cells #[.slice (some ⟨b, off, none⟩) n c] 65)).alloc (.cells #[.int .i64 (fr : Int)] 3)) := ((Ext.refl w3).alloc _).alloc _
  have T3w4 := Lib.hid (T3.out.ext w4e)
  have L3w4 := Lib.hid (L3.out.ext w4e)
  have R3w4 := Lib.hid (R3.out.ext w4e)
  have Xw4 := Lib.hid (X3.out.trans w4e)
  have QRw4 := Lib.hid (((Bk.new w3 #[.slice (some ⟨b, off, none⟩) n c] 65 w3.heap.size rfl).alloc (.cells #[.int .i64 (fr : Int)] 3)).cell 0)
  have QFw4 := Lib.hid ((Bk.new (w3.alloc (.cells #[.slice (some ⟨b, off, none⟩) n c] 65)) #[.int .i64 (fr : Int)] 3 (w3.heap.size + 1) (by simp)).cell 0)
  have HLw4 := Lib.hid (show RB + 1 < w3.heap.size from L3.out.lt)

  refine (callsIn_wide.2 (HAS.out _)).mono ?_
  rintro e w4 ⟨rfl, hw4⟩
  rw [← hw4] at T3w4 L3w4 R3w4 Xw4 QRw4 QFw4
  clear hw4 w4e q0
  gi_wp2
  refine wpIn_rangeFunc_ownF rfl (by decide) (gf := 71) (lb := #[.pointer (some ⟨w3.heap.size, 0, none⟩), .pointer (some ⟨w3.heap.size + 1, 0, none⟩)]) rfl trivial (enters_of Try.func71 (by kernel_rfl) rfl)
    (asc_stops (n0 := w.heap.size) h3 h40 hl hfr HWY.out hbw w4 Xw4.out.size QRw4.out QFw4.out (fun j x h => Xw4.out.cell (HC.out j x h))) (fun h k => KpR.trans h k) (KpR.turn Xw4.out.size) (Below.refl _ _) (fun _ => rfl)
    (fun pre W => (TRow W RB n (mark (fun i => decide (i = fr)) pre) ∧ Bk W (RB + 1) 23 #[.slice (some ⟨RB, 0, none⟩) n n] ∧ Bk W w.heap.size 65 #[.slice (some ⟨b, off, none⟩) n c]) ∧ Below w.heap.size w W)
    (fun _ _ _ => False)
    (OwnFrom.and (Own.from (fun s A B row hs hg hr => ⟨hs.1.kept hg hr, Bk_kept hs.2.1 hg hr, Bk_kept hs.2.2 hg hr⟩) _) (ownFrom_below (Nat.le_refl _) (Nat.le_trans Xw4.out.size (Nat.le_refl _))))
    (fun _ _ _ _ _ hs _ _ => hs)
    (⟨⟨T3w4.out.congr (fun i _ => by simp [mark]), L3w4.out, R3w4.out⟩, Xw4.out⟩)
    (fun x => { tmps := #[.agg #[.slice (some ⟨b, off, none⟩) n c], .int .i64 (fr : Int), .pointer (some ⟨w.heap.size, 0, none⟩), undef, .slice none 0 0, .pointer (some ⟨RB + 1, 0, none⟩), undef, .func (.func 59) #[] #[], .int .i64 (x.1.1 : Int), .agg #[.slice (some ⟨b, off, none⟩) n c], .int .i64 (fr : Int), .bool true, .bool false, .pointer (some ⟨w.heap.size, 0, none⟩), .slice (some ⟨b, off, none⟩) n c, .int .i64 (n : Int), .slice (some ⟨RB, 0, none⟩) n n, .slice (some ⟨RB, 0, none⟩) n n, .int .i64 (fr : Int), .pointer (some ⟨RB, fr, none⟩), .agg #[.func (.func 59) #[] #[], .func (.func 60) #[] #[]], .int .i64 0, .bool true, .func (.func 59) #[] #[], .func (.func 59) #[] #[], .agg #[.slice (some ⟨b, off, none⟩) n c], .int .i64 (fr : Int), .func (.func 71) #[] #[.pointer (some ⟨w3.heap.size, 0, none⟩), .pointer (some ⟨w3.heap.size + 1, 0, none⟩)], .int .i64 (x.1.1 : Int), .int .i64 (x.1.2 : Int), undef, undef, undef, undef, undef], defers := [] }) ?assign0 ?body0 ?done0 ?stop0
  case assign0 =>
    intro l x W K hK
    simp only [nodeE]
    gi_wp2
    exact hK
  case body0 =>
    rintro l pre x W ⟨⟨hT, hL, hR⟩, hB⟩ _
    have hx1 := x.2
    have hx2 : (x.1.1 : Int) < n := by omega
    have hx0 : (0 : Int) ≤ x.1.1 := by omega
    have cL := hL.cell 0
    have cT := hT.cell hx1
    have fT := hT.frozen x.1.1
    
    gi_wp2
    refine ⟨KeepsOthers.setCell _ _ _, ⟨(Below.refl w.heap.size W).setCell (p := ⟨RB, x.1.1, none⟩) (Nat.le_of_lt HS1.out) _, fun v hv => ?_⟩, ⟨⟨(hT.set hx1).congr (fun i _ => (mark_snoc _ _ _ _).symm), hL.setOther (by omega) _ _, hR.setOther (by have := HS1.out; omega) _ _⟩, hB.setCell (p := ⟨RB, x.1.1, none⟩) (Nat.le_of_lt HS1.out) _⟩⟩
    rw [World.cell?_setCell_other _ _ _ _ (by simp only [ne_eq, Addr.mk.injEq, not_and]; intro e; have := HLw4.out; omega)]
    exact hv
  case stop0 =>
    rintro D c pre W _ _ h _
    exact h.elim
  case done0 =>
    rintro D1 ys W1 hD1 rfl ⟨⟨hT, hL, hR⟩, hB⟩ hK1
    have KD1 := Lib.hid hK1
    have T5 := Lib.hid hT
    have L5 := Lib.hid hL
    have R5 := Lib.hid hR
    have X5 := Lib.hid (show Ext w W1 from hB)
    have HX4 := Lib.hid (Nat.le_trans Xw4.out.size hD1)
    have q0 : W1.cell? ⟨w.heap.size, 0, none⟩ = some (.slice (some ⟨b, off, none⟩) n c) := R5.out.cell 0
    clear hT hL hR hB hK1 hD1 T3 L3 R3 X3 T3w4 L3w4 R3w4 Xw4 QRw4 QFw4 HLw4
    gi_wp2
    rw [roundsIn_succ]
    gi_wp2
    refine ⟨trivial, ?_⟩
    have w6e : Ext W1 ((W1.alloc (.cells #[.slice (some ⟨b, off, none⟩) n c] 65)).alloc (.cells #[.int .i64 (fr : Int)] 3)) := ((Ext.refl W1).alloc _).alloc _
    have T5w6 := Lib.hid (T5.out.ext w6e)
    have L5w6 := Lib.hid (L5.out.ext w6e)
    have R5w6 := Lib.hid (R5.out.ext w6e)
    have Xw6 := Lib.hid (X5.out.trans w6e)
    have QRw6 := Lib.hid (((Bk.new W1 #[.slice (some ⟨b, off, none⟩) n c] 65 W1.heap.size rfl).alloc (.cells #[.int .i64 (fr : Int)] 3)).cell 0)
    have QFw6 := Lib.hid ((Bk.new (W1.alloc (.cells #[.slice (some ⟨b, off, none⟩) n c] 65)) #[.int .i64 (fr : Int)] 3 (W1.heap.size + 1) (by simp)).cell 0)
    have HLw6 := Lib.hid (show RB + 1 < W1.heap.size from L5.out.lt)
    have KDw6 := Lib.hid ((Below.block w6e D1 (Array.getElem?_eq_some_iff.1 KD1.out).1).trans KD1.out)
    refine (callsIn_wide.2 (HDE.out _)).mono ?_
    rintro e w6 ⟨rfl, hw6⟩
    rw [← hw6] at T5w6 L5w6 R5w6 Xw6 QRw6 QFw6 KDw6
    clear hw6 w6e q0
    gi_wp2
    refine wpIn_rangeFunc_ownF rfl (by decide) (gf := 72) (lb := #[.pointer (some ⟨W1.heap.size, 0, none⟩), .pointer (some ⟨W1.heap.size + 1, 0, none⟩)]) rfl trivial (enters_of Try.func72 (by kernel_rfl) rfl)
      (desc_stops (n0 := w.heap.size) h3 h40 hl hfr HWY.out hbw w6 Xw6.out.size QRw6.out QFw6.out (fun j x h => Xw6.out.cell (HC.out j x h))) (fun h k => KpR.trans h k) (KpR.turn Xw6.out.size) (Below.refl _ _) (fun _ => rfl)
      (fun pre W => ((TRow W RB n (mark (mark (fun i => decide (i = fr)) (uptoN (ascN h3 fr) A)) pre) ∧ Bk W (RB + 1) 23 #[.slice (some ⟨RB, 0, none⟩) n n] ∧ Bk W w.heap.size 65 #[.slice (some ⟨b, off, none⟩) n c]) ∧ Below w.heap.size w W) ∧ W.heap[D1]? = some (.deferred (some [])))
      (fun _ _ _ => False)
      (OwnFrom.and (OwnFrom.and (Own.from (fun s A B row hs hg hr => ⟨hs.1.kept hg hr, Bk_kept hs.2.1 hg hr, Bk_kept hs.2.2 hg hr⟩) _) (ownFrom_below (Nat.le_refl _) (Nat.le_trans Xw6.out.size (Nat.le_refl _)))) (ownFrom_def KDw6.out (Nat.le_refl _)))
      (fun _ _ _ _ _ hs _ _ => hs)
      (⟨⟨⟨T5w6.out.congr (fun i _ => by simp [mark]), L5w6.out, R5w6.out⟩, Xw6.out⟩, KDw6.out⟩)
      (fun x => { tmps := #[.agg #[.slice (some ⟨b, off, none⟩) n c], .int .i64 (fr : Int), .pointer (some ⟨w.heap.size, 0, none⟩), undef, .slice none 0 0, .pointer (some ⟨RB + 1, 0, none⟩), undef, .func (.func 60) #[] #[], .int .i64 (x.1.1 : Int), .agg #[.slice (some ⟨b, off, none⟩) n c], .int .i64 (fr : Int), .bool true, .bool false, .pointer (some ⟨w.heap.size, 0, none⟩), .slice (some ⟨b, off, none⟩) n c, .int .i64 (n : Int), .slice (some ⟨RB, 0, none⟩) n n, .slice (some ⟨RB, 0, none⟩) n n, .int .i64 (fr : Int), .pointer (some ⟨RB, fr, none⟩), .agg #[.func (.func 59) #[] #[], .func (.func 60) #[] #[]], .int .i64 1, .bool true, .func (.func 60) #[] #[], .func (.func 60) #[] #[], .agg #[.slice (some ⟨b, off, none⟩) n c], .int .i64 (fr : Int), .func (.func 72) #[] #[.pointer (some ⟨W1.heap.size, 0, none⟩), .pointer (some ⟨W1.heap.size + 1, 0, none⟩)], .int .i64 (x.1.1 : Int), .int .i64 (x.1.2 : Int), undef, undef, undef, .int .i64 1, undef], defers := [] }) ?assign1 ?body1 ?done1 ?stop1
    case assign1 =>
      intro l x W K hK
      simp only [nodeE]
      gi_wp2
      exact hK
    case body1 =>
      rintro l pre x W ⟨⟨⟨hT, hL, hR⟩, hB⟩, hD⟩ _
      have hx1 := x.2
      have hx2 : (x.1.1 : Int) < n := by omega
      have hx0 : (0 : Int) ≤ x.1.1 := by omega
      have cL := hL.cell 0
      have cT := hT.cell hx1
      have fT := hT.frozen x.1.1
      have hne : D1 ≠ RB := fun e => (by obtain ⟨cs, hb, _⟩ := hT; rw [e, show W.heap[RB]? = _ from hb] at hD; cases hD)
      gi_wp2
      refine ⟨KeepsOthers.setCell _ _ _, ⟨(Below.refl w.heap.size W).setCell (p := ⟨RB, x.1.1, none⟩) (Nat.le_of_lt HS1.out) _, fun v hv => ?_⟩, ⟨⟨⟨(hT.set hx1).congr (fun i _ => (mark_snoc _ _ _ _).symm), hL.setOther (by omega) _ _, hR.setOther (by have := HS1.out; omega) _ _⟩, hB.setCell (p := ⟨RB, x.1.1, none⟩) (Nat.le_of_lt HS1.out) _⟩, (Below.heap_setCell _ _ _ _ hne).trans hD⟩⟩
      rw [World.cell?_setCell_other _ _ _ _ (by simp only [ne_eq, Addr.mk.injEq, not_and]; intro e; have := HLw6.out; omega)]
      exact hv
    case stop1 =>
      rintro D c pre W _ _ h _
      exact h.elim
    case done1 =>
      rintro D2 ys W2 hD2 rfl ⟨⟨⟨hT, hL, hR⟩, hB⟩, hKD⟩ hK2
      have KD2 := Lib.hid hK2
      have KD3 := Lib.hid hKD
      have L7 := Lib.hid hL
      have T7 := Lib.hid (hT.congr (fun i hi => HWY.out.cover h3 hfr i hi))
      have HX6 := Lib.hid (Nat.le_trans Xw6.out.size hD2)
      have HD12 := Lib.hid (show D1 ≠ D2 from fun e => by have := (Array.getElem?_eq_some_iff.1 KDw6.out).1; omega)
      have q0 : W2.cell? ⟨RB + 1, 0, none⟩ = some (.slice (some ⟨RB, 0, none⟩) n n) := hL.cell 0
      have X7 := Lib.hid (show Ext w W2 from hB)
      clear hT hL hR hB hKD hK2 hD2 T5 L5 R5 X5 T5w6 L5w6 R5w6 Xw6 QRw6 QFw6 HLw6 KDw6 KD1
      gi_wp2
      rw [roundsIn_succ]
      gi_wp2
      have KD4 : (W2.putObj D2 (.deferred none)).heap[D1]? = some (.deferred (some [])) := (World.putObj_heap_other (fun e => HD12.out e)).trans KD3.out
      refine ⟨by simp, .inl ⟨_, _, rfl, run_takeDeferred KD2.out, ?_⟩⟩
      refine ⟨by simp, .inl ⟨_, _, rfl, run_takeDeferred KD4, ?_⟩⟩
      refine ⟨_, results_tmp rfl _ _ _, RB, rfl, ?_, Nat.le_of_lt HS1.out, ?_⟩
      · exact Below.trans (Below.trans (show Below w.heap.size w W2 from X7.out) (belowK_b (w := w) (Nat.le_refl _) W2 D2 _ _ HX6.out KD2.out rfl rfl)) (belowK_b (w := w) (Nat.le_refl _) _ D1 _ _ HX4.out KD4 rfl rfl)
      · exact (T7.out.kept (grownBy_putObj' _ D2 (.deferred none)) (fun r e => by cases e; exact ⟨_, KD2.out, rfl⟩)).kept (grownBy_putObj' _ D1 (.deferred none)) (fun r e => by cases e; exact ⟨_, KD4, rfl⟩)
end
end Go.Proofs.Ytimnepfdpehdmaa
