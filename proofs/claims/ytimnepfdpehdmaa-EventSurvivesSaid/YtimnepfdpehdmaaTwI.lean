/- The contract of slices.Insert at the sources of layer 16: one element into a row of the call's own. -/
import Derived.Test.YtimnepfdpehdmaaTM
import Derived.Deep.RegionLaw
namespace Go.Proofs.Ytimnepfdpehdmaa
open Go.RowKit
attribute [local go_sem ↓] Go.wp_at_zero Go.wp_at_succ

theorem sl_l (w : World) (b off len cap i : Nat) (h : i ≤ len) :
    (Instr.slice 36 (.slice (some ⟨b, off, none⟩) len cap) (some (.int .i64 i)) none none).run Try.prog w = .ok (.slice (cutK b off cap i 3) (len - i) (cap - i)) w := by
  rw [run_slice_l w _ _ _ _ (by kernel_rfl) _ _ (by omega) (by omega)]
  have hs : (sizeOf (Try.prog.elem 36)).run Try.prog w = .ok 3 w := by kernel_rfl
  rw [hs]
  simp only [Result.andThen, sliced_cutK]
  rw [show (i : Int).toNat = i by omega]
theorem sl_l1 (w : World) (b off len cap i : Nat) (h : i + 1 ≤ len) :
    (Instr.slice 36 (.slice (some ⟨b, off, none⟩) len cap) (some (.int .i64 ((i : Int) + 1))) none none).run Try.prog w = .ok (.slice (cutK b off cap (i + 1) 3) (len - (i + 1)) (cap - (i + 1))) w := sl_l w b off len cap (i + 1) h
theorem sl_h (w : World) (b off len cap n : Nat) (h : n ≤ cap) :
    (Instr.slice 36 (.slice (some ⟨b, off, none⟩) len cap) none (some (.int .i64 n)) none).run Try.prog w = .ok (.slice (some ⟨b, off, none⟩) n cap) w := by
  rw [run_slice_h w _ _ _ _ (by kernel_rfl) _ _ (by omega) (by omega)]
  have hs : (sizeOf (Try.prog.elem 36)).run Try.prog w = .ok 3 w := by kernel_rfl
  rw [hs]
  simp only [Result.andThen, sliced_cutK]
  rw [show (n : Int).toNat - 0 = n by omega]
  unfold cutK
  simp
theorem sl_h1 (w : World) (b off len cap n : Nat) (h : n + 1 ≤ cap) :
    (Instr.slice 36 (.slice (some ⟨b, off, none⟩) len cap) none (some (.int .i64 ((n : Int) + 1))) none).run Try.prog w = .ok (.slice (some ⟨b, off, none⟩) (n + 1) cap) w := sl_h w b off len cap (n + 1) h
attribute [local go_sem high] sl_l sl_l1 sl_h sl_h1

/-- A row into whose middle X is laid: in place .. -/
theorem splice_room {α : Type} (A X D R : List α) (h : X.length ≤ R.length) : splice (splice (A ++ (D ++ R)) (A.length + X.length) D) A.length X = A ++ (X ++ (D ++ (D ++ R).drop (X.length + D.length))) := by
  have e1 : splice (A ++ (D ++ R)) (A.length + X.length) D = A ++ ((D ++ R).take X.length ++ (D ++ (D ++ R).drop (X.length + D.length))) := by
    unfold splice
    rw [List.take_length_add_append, Nat.add_assoc, List.drop_length_add_append, List.append_assoc]
  rw [e1]
  unfold splice
  rw [List.take_left, List.drop_length_add_append, List.drop_append_of_le_length (by simp; omega), List.drop_eq_nil_of_le (by simp only [List.length_take]; omega), List.nil_append]
/-- .. and in a new row. -/
theorem splice_grow {α : Type} (A X D Z : List α) : splice (splice (A ++ Z) A.length X) (A.length + X.length) D = A ++ (X ++ (D ++ Z.drop (X.length + D.length))) := by
  have e1 : splice (A ++ Z) A.length X = A ++ (X ++ Z.drop X.length) := by
    unfold splice
    rw [List.take_left, List.drop_length_add_append]
  rw [e1]
  unfold splice
  rw [List.take_length_add_append, List.take_left, Nat.add_assoc, List.drop_length_add_append, List.drop_length_add_append, List.drop_drop, List.append_assoc]
theorem cutK_some (b off cap f k : Nat) (h : cap ≠ f) : cutK b off cap f k = some ⟨b, off + f * k, none⟩ := by unfold cutK; rw [if_neg h]

theorem Src.block {w : World} {nb : Nat} {X : List Value} {t : TypeId} (hX : X.length = 3) (hX1 : ∀ u ∈ X, u.oneCell' = true) (hnb : w.heap[nb]? = some (.cells X.toArray t (0, 0))) : Src w 3 (some ⟨nb, 0, none⟩) 1 X := by
  refine ⟨by omega, (fun h => by cases h), (fun ad h j u hu => ?_), hX1⟩
  injection h with h
  subst h
  exact World.news_of_block hnb j u (by simpa using hu)
/-- At the end. -/
theorem insert_end (n i : Nat) (hin : i = n) (hn : n ≤ 1000000000) (F X : List Value) (hX : X.length = 3) (hX1 : ∀ u ∈ X, u.oneCell' = true) (base : Nat) (v : Value) (w : World) (hown : w.ownsRow base 112 3 v n F)
    (nb : Nat) (hnb : w.heap[nb]? = some (.cells X.toArray 112 (0, 0))) (hbase : base ≤ w.heap.size) :
    Calls Try.prog 44 #[v, .int .i64 i, .slice (some ⟨nb, 0, none⟩) 1 1] w fun e w' => ∃ a c, e = .returned (.slice a (n + 1) c) ∧ w'.ownsRow base 112 3 (.slice a (n + 1) c) (n + 1) (F ++ X) ∧ w.grownBy w' v.ownBlock := by
  subst hin
  obtain ⟨i0, hi0, hz0, hz1, hz2⟩ := info_parts info_src
  have HSRC := Lib.hid (Src.block hX hX1 hnb)
  have HO := Lib.hid hown
  clear hX hX1 hnb
  rcases hown.2 with ⟨rfl, rfl⟩ | ⟨g, cap, cur, rfl, _, _, hnc, hcm, _, _⟩
  · clear hown
    go_enter Try.func44, Try.ntmps44
    go_wp2_with (at_builtin; refine wpList_append_src _ rfl (.tmp 23) (.tmp 24) _ rfl base 112 i0 _ 3 24 Try.underlying36 hi0 hz0 hz1 hz2 rfl (by omega) _ 0 _ rfl HO.out _ 1 1 _ rfl HSRC.out (by unfold maxLen; omega) (by omega) hbase ?_; intro A1 c1 w1 hown1 hg1 hat1)
    go_ret
    exact ⟨A1, c1, rfl, hown1, hg1⟩
  · clear hown
    have hni : (i : Int) ≤ 1000000000 := by omega
    go_enter Try.func44, Try.ntmps44
    go_wp2_with (at_builtin; refine wpList_append_src _ rfl (.tmp 23) (.tmp 24) _ rfl base 112 i0 _ 3 24 Try.underlying36 hi0 hz0 hz1 hz2 rfl (by omega) _ i _ rfl HO.out _ 1 1 _ rfl HSRC.out (by unfold maxLen; omega) (by omega) hbase ?_; intro A1 c1 w1 hown1 hg1 hat1)
    go_ret
    exact ⟨A1, c1, rfl, hown1, hg1⟩

set_option maxRecDepth 100000 in
set_option maxHeartbeats 4000000 in
/-- Inside, in place. -/
theorem insert_room (n i : Nat) (hin : i < n) (hn : n ≤ 1000000000) (A D X R : List Value) (hA : A.length = i * 3) (hD : D.length = (n - i) * 3) (hX : X.length = 3) (h1D : ∀ u ∈ D, u.oneCell' = true) (h1X : ∀ u ∈ X, u.oneCell' = true)
    (g c : Nat) (w : World) (hg : w.heap[g]? = some (.cells (A ++ (D ++ R)).toArray 112 (0, 0))) (hc : n + 1 ≤ c) (hc2 : c ≤ maxLen) (hR : 3 ≤ R.length)
    (nb : Nat) (hnb : w.heap[nb]? = some (.cells X.toArray 112 (0, 0))) (hne : nb ≠ g) :
    Calls Try.prog 44 #[.slice (some ⟨g, 0, none⟩) n c, .int .i64 i, .slice (some ⟨nb, 0, none⟩) 1 1] w fun e w' => e = .returned (.slice (some ⟨g, 0, none⟩) (n + 1) c) ∧ w'.heap[g]? = some (.cells (A ++ (X ++ (D ++ (D ++ R).drop (3 + D.length)))).toArray 112 (0, 0)) ∧ w.grownBy w' (some g) := by
  have hov : ∀ lb cb, (callFunc 62 #[.slice (some ⟨nb, 0, none⟩) 1 1, .slice (some ⟨g, (i + 1) * 3, none⟩) lb cb]).run Try.prog w = .ok (.value (.bool false)) w := fun lb cb => by
    rw [run_callFunc_extern Try.func62 (by kernel_rfl) (by kernel_rfl) (by kernel_rfl) (e := Extern.SlicesOverlaps.overlaps #[36, 36] #[4]) (by kernel_rfl),
      Lib.run_overlaps_apart w 36 4 112 Try.underlying36 3 (fun w => by kernel_rfl) ⟨nb, 0, none⟩ ⟨g, (i + 1) * 3, none⟩ 1 1 lb cb hne 112 112 X.length (A ++ (D ++ R)).length (by simp [World.shape?, hnb]) (by simp [World.shape?, hg]) (by rw [List.length_append, List.length_append]; omega) (by simp [World.frozen?, hnb]) (by simp [World.frozen?, hnb])]
    rfl
  have hsz : (Try.prog.info? 112).map (·.size) = some 3 := by
    obtain ⟨i0, hi0, _, hz1, _⟩ := info_parts info_src
    rw [hi0]; simp [hz1]
  have HG := Lib.hid hg
  have HNB := Lib.hid hnb
  have LD := Lib.hid hD
  have LA := Lib.hid hA
  have LX := Lib.hid hX
  have HSP := Lib.hid (splice_room A X D R (by omega))
  have hkk : (n : Int) ≤ 1000000000 := by omega
  have hii : (i : Int) < n := by omega
  have hcc : (n : Int) + 1 ≤ c := by omega
  have hz1 : ((i : Int) == n) = false := by simp; omega
  have hc3 : c ≤ 9223372036854775807 := by unfold maxLen at hc2; omega
  rw [hX] at HSP
  obtain ⟨cur, hcur⟩ : ∃ cur, cur = A ++ (D ++ R) := ⟨_, rfl⟩
  obtain ⟨fin, hfin⟩ : ∃ fin, fin = A ++ (X ++ (D ++ (D ++ R).drop (3 + D.length))) := ⟨_, rfl⟩
  have LC := Lib.hid (show cur.length = A.length + (D.length + R.length) by rw [hcur]; simp)
  rw [← hcur, ← hfin] at HSP
  rw [← hcur] at HG
  rw [← hfin]
  have HCELL := Lib.hid (fun (w1 : World) (hw : w1.heap[g]? = some (.cells cur.toArray 112 (0, 0))) j u (hj : D[j]? = some u) => (World.news_of_block hw (i * 3 + j) u (by
    have : cur[i * 3 + j]? = some u := by
      rw [hcur, ← hA, List.getElem?_append_right (by omega), Nat.add_sub_cancel_left, List.getElem?_append_left (get_lt hj)]
      exact hj
    simpa using this) |> fun h => by rw [Addr.add_lit] at h ⊢; simpa using h : w1.cell? ((⟨g, i * 3, none⟩ : Addr).add j) = some u))
  have HFIT := Lib.hid (show (i + 1) * 3 + D.length ≤ cur.length by rw [LC.out, hA, hD]; omega)
  have HNB2 := Lib.hid (fun (w1 : World) (h : w.grownBy w1 (some g)) => (h.block nb (Array.getElem?_eq_some_iff.1 hnb).1 (fun e => by injection e with e; exact hne e)).trans hnb)
  have HSX := Lib.hid (fun (w1 : World) (h : w.grownBy w1 (some g)) => (Src.block hX h1X (HNB2.out w1 h)).cell _ rfl)
  have HF2 := Lib.hid (show i * 3 + X.length ≤ (splice cur ((i + 1) * 3) D).length by rw [length_splice _ _ _ HFIT.out, LC.out, hA, hX, hD]; omega)
  rw [hA, show i * 3 + 3 = (i + 1) * 3 by omega] at HSP
  clear hg hnb hA hD hX hcur hfin hR hc2
  go_enter Try.func44, Try.ntmps44
  go_wp2_with (simp only [hov])
  have hw1 : IntKind.i64.wrap ((i : Int) + 1) = (i : Int) + 1 := wrap_id _ (by omega) (by omega)
  have hb1 : (0 : Int) ≤ (i : Int) + 1 := by omega
  have htn : ((i : Int) + 1).toNat = i + 1 := by omega
  have hci : ¬ (c = i + 1) := by omega
  have hcj : ¬ (c = i) := by omega
  have hin2 : i ≤ n := by omega
  have hin3 : (i : Int) ≤ (n : Int) + 1 := by omega
  go_region_law (refine step_copyK rfl (.tmp 73) (.tmp 76) 36 36 rfl 112 3 Try.underlying36 hsz (by omega) (some ⟨g, (i + 1) * 3, none⟩) (some ⟨g, i * 3, none⟩) (n - i) (c - (i + 1)) (n + 1 - i) (c - i) (by simp [Act.eval, Act.put, cutK_some, hci]) (by simp [Act.eval, Act.put]) g ((i + 1) * 3) cur 112 HG.out D (by rw [LD.out]; congr 1; simp only [Nat.min_def]; split <;> omega) (fun _ => ⟨rfl, _, rfl, HCELL.out _ HG.out⟩) HFIT.out h1D ?_; intro w1 hg1 hgr1)
  have hgr2 : w.grownBy w1 (some g) := ⟨hgr1.os, hgr1.tape, hgr1.output, hgr1.size, hgr1.block⟩
  clear hgr1
  clear hw1 htn
  go_wp2_with (refine wpList_copyK rfl (.tmp 80) (.tmp 81) 36 36 rfl 112 3 Try.underlying36 hsz (by omega) (some ⟨g, i * 3, none⟩) (some ⟨nb, 0, none⟩) (n + 1 - i) (c - i) 1 1 rfl rfl g (i * 3) _ 112 hg1.out X (by rw [LX.out]; simp only [Nat.min_def]; split <;> omega) (fun _ => ⟨rfl, _, rfl, HSX.out _ hgr2⟩) HF2.out h1X ?_; intro w2 hg2 hgr3)
  go_ret
  exact ⟨rfl, by rw [← HSP.out]; exact hg2.out, grown_trans hgr2 hgr3⟩

set_option maxRecDepth 100000 in
set_option maxHeartbeats 4000000 in
/-- Inside, in a new row. -/
theorem insert_grow (n i : Nat) (hin : i < n) (hn : n ≤ 1000000000) (A D X : List Value) (hA : A.length = i * 3) (hD : D.length = (n - i) * 3) (hX : X.length = 3) (h1D : ∀ u ∈ D, u.oneCell' = true) (h1X : ∀ u ∈ X, u.oneCell' = true)
    (g c : Nat) (cur : List Value) (w : World) (hg : w.heap[g]? = some (.cells cur.toArray 112 (0, 0))) (hcur : cur.take (n * 3) = A ++ D) (hc : c < n + 1) (hc0 : n ≤ c)
    (nb : Nat) (hnb : w.heap[nb]? = some (.cells X.toArray 112 (0, 0))) :
    Calls Try.prog 44 #[.slice (some ⟨g, 0, none⟩) n c, .int .i64 i, .slice (some ⟨nb, 0, none⟩) 1 1] w fun e w' => ∃ G R, e = .returned (.slice (some ⟨w.heap.size, 0, none⟩) (n + 1) G) ∧ n + 1 ≤ G ∧ G ≤ maxLen ∧ (A ++ (X ++ (D ++ R))).length = G * 3 ∧ w'.heap[w.heap.size]? = some (.cells (A ++ (X ++ (D ++ R))).toArray 112 (0, 0)) ∧ w.grownBy w' none := by
  obtain ⟨i0, hi0, hz0, hz1, hz2⟩ := info_parts info_src
  have hsz : (Try.prog.info? 112).map (·.size) = some 3 := by rw [hi0]; simp [hz1]
  have hcellA : ∀ j u, A[j]? = some u → w.cell? ((⟨g, 0, none⟩ : Addr).add j) = some u := fun j u hj => World.news_of_block hg j u (by
    have h1 : (cur.take (n * 3))[j]? = some u := by rw [hcur, List.getElem?_append_left (get_lt hj)]; exact hj
    rw [List.getElem?_take] at h1
    split at h1
    · simpa using h1
    · cases h1)
  have hcellD : ∀ j u, D[j]? = some u → w.cell? ((⟨g, i * 3, none⟩ : Addr).add j) = some u := fun j u hj => by
    have h1 : (cur.take (n * 3))[i * 3 + j]? = some u := by rw [hcur, ← hA, List.getElem?_append_right (by omega), Nat.add_sub_cancel_left]; exact hj
    rw [List.getElem?_take] at h1
    split at h1
    · have h2 := World.news_of_block hg (i * 3 + j) u (by simpa using h1)
      rw [Addr.add_lit] at h2 ⊢
      simpa using h2
    · cases h1
  have hold : (Builtin.firstCells i0.size i (.slice (some ⟨g, 0, none⟩) i c)).run Try.prog w.drew = .ok A.toArray w.drew := by
    rw [hz1]
    have hl := run_loadCells_list (P := Try.prog) w.drew ⟨g, 0, none⟩ A (fun j u hj => hcellA j u hj)
    rw [hA] at hl
    simpa [Builtin.firstCells] using hl
  have hk : ((n : Int) + 1 - (i : Int)) = ((n + 1 - i : Nat) : Int) := by omega
  have hik : i + (n + 1 - i) = n + 1 := by omega
  have hfit : Builtin.nextslicecap (n + 1) c * 24 ≤ 281474976710656 := growslice_fits hc (by omega)
  have hrz : ∀ ty, (Builtin.append_ #[36, 3] ty #[.slice (some ⟨g, 0, none⟩) i c, .int .i64 ((n : Int) + 1 - (i : Int))]).run Try.prog w =
      .ok (.slice (some ⟨w.heap.size, 0, none⟩) (n + 1) (grownCap w (n + 1) c 112)) (w.drew.alloc (.cells (A.toArray ++ Builtin.zeroCells (Value.agg #[.int .i64 0, .int .i64 0, .int .u64 0]).cells (n + 1 - i) ++ Builtin.zeroCells (Value.agg #[.int .i64 0, .int .i64 0, .int .u64 0]).cells (grownCap w (n + 1) c 112 - (n + 1))) 112)) := fun ty => by
    have h := Lib.run_append_grow_zeros w 36 3 ty 112 i0 _ .i64 .i64 Try.underlying36 Try.underlying3 hi0 hz0 (some ⟨g, 0, none⟩) i c A hold (n + 1 - i) (by omega) (by omega) (by omega) (by omega) (by rw [hz2]; omega) (by rw [hz2, hik]; exact hfit)
    rw [hik] at h
    rw [hk]
    exact h
  obtain ⟨G, hG⟩ : ∃ G, G = grownCap w (n + 1) c 112 := ⟨_, rfl⟩
  have hGn : n + 1 ≤ G := by rw [hG]; exact grownCap_ge w _ _ _
  have hGm : G ≤ maxLen := by rw [hG]; exact grownCap_le_maxLen w _ _ _ (by unfold maxLen; omega)
  rw [← hG] at hrz
  obtain ⟨Z, hZ⟩ : ∃ Z : List Value, Z = (Builtin.zeroCells (Value.agg #[.int .i64 0, .int .i64 0, .int .u64 0]).cells (n + 1 - i)).toList ++ (Builtin.zeroCells (Value.agg #[.int .i64 0, .int .i64 0, .int .u64 0]).cells (G - (n + 1))).toList := ⟨_, rfl⟩
  have hZl : Z.length = (G - i) * 3 := by
    rw [hZ, List.length_append, Array.length_toList, Array.length_toList, size_zeroCells, size_zeroCells, show (Value.agg #[.int .i64 0, .int .i64 0, .int .u64 0]).cells.size = 3 from rfl]
    omega
  have hrow : A.toArray ++ Builtin.zeroCells (Value.agg #[.int .i64 0, .int .i64 0, .int .u64 0]).cells (n + 1 - i) ++ Builtin.zeroCells (Value.agg #[.int .i64 0, .int .i64 0, .int .u64 0]).cells (G - (n + 1)) = (A ++ Z).toArray := by
    apply Array.ext'
    rw [hZ]
    simp
  rw [hrow] at hrz
  clear hrow hZ hG hold
  have HSP := Lib.hid (splice_grow A X D Z)
  rw [hA, hX, show i * 3 + 3 = (i + 1) * 3 by omega] at HSP
  obtain ⟨cur0, hcur0⟩ : ∃ cur0, cur0 = A ++ Z := ⟨_, rfl⟩
  rw [← hcur0] at HSP hrz
  have LC := Lib.hid (show cur0.length = G * 3 by rw [hcur0, List.length_append, hA, hZl]; omega)
  have HFIN := Lib.hid (show (A ++ (X ++ (D ++ Z.drop (3 + D.length)))).length = G * 3 by simp only [List.length_append, List.length_drop, hA, hX, hD, hZl]; omega)
  obtain ⟨fin, hfin⟩ : ∃ fin, fin = A ++ (X ++ (D ++ Z.drop (3 + D.length))) := ⟨_, rfl⟩
  have HEND := Lib.hid (fun (w' : World) (h : w'.heap[w.heap.size]? = some (.cells fin.toArray 112 (0, 0))) (hg : w.grownBy w' none) => (⟨G, _, rfl, hGn, hGm, HFIN.out, by rw [← hfin]; exact h, hg⟩ : ∃ G' R, Ending.returned (.slice (some ⟨w.heap.size, 0, none⟩) (n + 1) G) = .returned (.slice (some ⟨w.heap.size, 0, none⟩) (n + 1) G') ∧ n + 1 ≤ G' ∧ G' ≤ maxLen ∧ (A ++ (X ++ (D ++ R))).length = G' * 3 ∧ w'.heap[w.heap.size]? = some (.cells (A ++ (X ++ (D ++ R))).toArray 112 (0, 0)) ∧ w.grownBy w' none))
  rw [← hfin] at HSP
  have HF1 := Lib.hid (show i * 3 + X.length ≤ cur0.length by rw [LC.out, hX]; omega)
  have HF2 := Lib.hid (show (i + 1) * 3 + D.length ≤ (splice cur0 (i * 3) X).length by rw [length_splice _ _ _ HF1.out, LC.out, hD]; omega)
  have HE0 : Hid (Ext w (w.drew.alloc (.cells cur0.toArray 112))) := (Ext.refl w).drew.alloc _
  have HW0 : Hid ((w.drew.alloc (.cells cur0.toArray 112)).heap[w.heap.size]? = some (.cells cur0.toArray 112 (0, 0))) := heap_alloc_new w.drew _
  have hgl : g < w.heap.size := (Array.getElem?_eq_some_iff.1 hg).1
  have hnl : nb < w.heap.size := (Array.getElem?_eq_some_iff.1 hnb).1
  have HSX := Lib.hid (fun (w1 : World) (h : Ext w w1) => (Src.block hX h1X ((Below.block h nb hnl).trans hnb)).cell _ rfl)
  have HCD := Lib.hid (fun (w1 : World) (h : w.grownBy w1 none) j u (hj : D[j]? = some u) => (h.cell (hcellD j u hj) (fun e => by cases e) : w1.cell? ((⟨g, i * 3, none⟩ : Addr).add j) = some u))
  have LD := Lib.hid hD
  have LX := Lib.hid hX
  have HRZ := Lib.hid hrz
  clear hrz hcellA hcellD hA hD hX hcur hcur0 hfin hZl hnb hg hGm hfit hk hik hi0 hz0 hz1 hz2
  have hkk : (n : Int) ≤ 1000000000 := by omega
  have hii : (i : Int) < n := by omega
  have hz1 : ((i : Int) == n) = false := by simp; omega
  have hcc : (c : Int) < (n : Int) + 1 := by omega
  have HG1 := Lib.hid (fun w2 (h : (w.drew.alloc (.cells cur0.toArray 112)).grownBy w2 (some w.heap.size)) => grown_new (grown_ext HE0.out none) h (Nat.le_refl _))
  have HG2 := Lib.hid (fun w2 w3 (h : w.grownBy w2 none) (h2 : w2.grownBy w3 (some w.heap.size)) => grown_new h h2 (Nat.le_refl _))
  generalize w.heap.size = N at *
  go_enter Try.func44, Try.ntmps44
  go_wp2_with (first
    | (at_builtin; refine Lib.wpList_append_run _ rfl _ _ _ _ rfl _ _ rfl rfl _ _ (HRZ.out _) ?_)
    | (refine wpList_copyK rfl (.tmp 43) (.tmp 44) 36 36 rfl 112 3 Try.underlying36 hsz (by omega) (some ⟨N, i * 3, none⟩) (some ⟨nb, 0, none⟩) (n + 1 - i) (G - i) 1 1 rfl rfl N (i * 3) _ 112 HW0.out X (by rw [LX.out]; simp only [Nat.min_def]; split <;> omega) (fun _ => ⟨rfl, _, rfl, HSX.out _ HE0.out⟩) HF1.out h1X ?_; intro w2 hg2 hgr2))
  replace hgr2 := HG1.out _ hgr2
  have hw1 : IntKind.i64.wrap ((i : Int) + 1) = (i : Int) + 1 := wrap_id _ (by omega) (by omega)
  have hb1 : (0 : Int) ≤ (i : Int) + 1 := by omega
  have htn : ((i : Int) + 1).toNat = i + 1 := by omega
  have hci : ¬ (G = i + 1) := by omega
  have hcj : ¬ (c = i) := by omega
  have hin2 : i ≤ n := by omega
  have hin3 : (i : Int) ≤ (n : Int) + 1 := by omega
  go_region_law (refine step_copyK rfl (.tmp 50) (.tmp 53) 36 36 rfl 112 3 Try.underlying36 hsz (by omega) (some ⟨N, (i + 1) * 3, none⟩) (some ⟨g, i * 3, none⟩) (n - i) (G - (i + 1)) (n - i) (c - i) (by simp [Act.eval, Act.put, cutK_some, hci]) (by simp [Act.eval, Act.put, cutK_some, hcj]) N ((i + 1) * 3) _ 112 hg2.out D (by rw [LD.out]; congr 1; simp only [Nat.min_def]; split <;> omega) (fun _ => ⟨rfl, _, rfl, HCD.out _ (grown_drew hgr2)⟩) HF2.out h1D ?_; intro w3 hg3 hgr3)
  clear hw1 htn
  go_wp2
  go_ret
  rw [HSP.out] at hg3
  exact HEND.out _ hg3.out (HG2.out _ _ (grown_drew hgr2) hgr3)

/-- One element into a row of the call's own. -/
theorem insert_any (l : List Src3) (x : Src3) (i : Nat) (hi : i ≤ l.length) (hl : l.length ≤ 1000000000) (base : Nat) (v : Value) (w : World) (hown : w.ownsRow base 112 3 v l.length (l.flatMap srcE))
    (nb : Nat) (hnb : w.heap[nb]? = some (.cells (srcE x).toArray 112 (0, 0))) (hne : v.ownBlock ≠ some nb) (hbase : base ≤ w.heap.size) :
    Calls Try.prog 44 #[v, .int .i64 i, .slice (some ⟨nb, 0, none⟩) 1 1] w fun e w' => ∃ a c, e = .returned (.slice a (l.length + 1) c) ∧ w'.ownsRow base 112 3 (.slice a (l.length + 1) c) (l.length + 1) ((l.take i ++ x :: l.drop i).flatMap srcE) ∧ w.grownBy w' v.ownBlock := by
  have hfl : (l.take i ++ x :: l.drop i).flatMap srcE = (l.take i).flatMap srcE ++ (srcE x ++ (l.drop i).flatMap srcE) := by simp
  have hA : ((l.take i).flatMap srcE).length = i * 3 := by rw [flat_len srcE_len, List.length_take, Nat.min_eq_left hi]
  have hD : ((l.drop i).flatMap srcE).length = (l.length - i) * 3 := by rw [flat_len srcE_len, List.length_drop]
  have h1 : ∀ (l : List Src3), ∀ u ∈ l.flatMap srcE, u.oneCell' = true := fun l u hu => by
    obtain ⟨y, _, hy⟩ := List.mem_flatMap.1 hu
    exact srcE_one y u hy
  have hAD : (l.take i).flatMap srcE ++ (l.drop i).flatMap srcE = l.flatMap srcE := by rw [← List.flatMap_append, List.take_append_drop]
  rcases Nat.lt_or_ge i l.length with hin | hin
  · rcases hown.2 with ⟨_, hn⟩ | ⟨g, cap, cur, rfl, hb, hh, hnc, hcm, hcs, ht⟩
    · omega
    · have hgn : nb ≠ g := fun e => hne (by rw [e]; rfl)
      rcases Nat.lt_or_ge cap (l.length + 1) with hroom | hroom
      · refine (insert_grow l.length i hin hl _ _ _ hA hD (srcE_len x) (h1 _) (srcE_one x) g cap cur.toList w (by simpa using hh) (by rw [ht, hAD]) hroom hnc nb hnb).mono ?_
        rintro e w' ⟨G, R, rfl, h3, h4, h5, h6, h7⟩
        refine ⟨_, G, rfl, ⟨by rw [hfl, List.length_append, List.length_append, hA, hD, srcE_len]; omega, .inr ⟨_, G, _, rfl, hbase, h6, h3, h4, by simpa using h5, ?_⟩⟩, ⟨h7.os, h7.tape, h7.output, h7.size, fun k hk _ => h7.block k hk (fun e => by cases e)⟩⟩
        rw [hfl]
        simp only [← List.append_assoc]
        rw [List.take_append_of_le_length (by simp only [List.length_append, hA, hD, srcE_len]; omega), List.take_of_length_le (by simp only [List.length_append, hA, hD, srcE_len]; omega)]
      · have hcur : (List.flatMap srcE (l.take i) ++ (List.flatMap srcE (l.drop i) ++ cur.toList.drop (l.length * 3))) = cur.toList := by
          rw [← List.append_assoc, hAD, ← ht, List.take_append_drop]
        refine (insert_room l.length i hin hl _ _ _ (cur.toList.drop (l.length * 3)) hA hD (srcE_len x) (h1 _) (srcE_one x) g cap w (by rw [hcur]; simpa using hh) hroom hcm (by simp; omega) nb hnb hgn).mono ?_
        rintro e w' ⟨rfl, h6, h7⟩
        refine ⟨_, cap, rfl, ⟨by rw [hfl, List.length_append, List.length_append, hA, hD, srcE_len]; omega, .inr ⟨g, cap, _, rfl, hb, h6, hroom, hcm, ?_, ?_⟩⟩, h7⟩
        · have hlen : cur.toList.length = cap * 3 := by simpa using hcs
          simp only [List.size_toArray, List.length_append, List.length_drop, hA, hD, srcE_len, hlen]
          omega
        · rw [hfl]
          simp only [← List.append_assoc]
          rw [List.take_append_of_le_length (by simp only [List.length_append, hA, hD, srcE_len]; omega), List.take_of_length_le (by simp only [List.length_append, hA, hD, srcE_len]; omega)]
  · have hil : i = l.length := by omega
    refine (insert_end l.length i hil hl _ _ (srcE_len x) (srcE_one x) base v w hown nb hnb hbase).mono ?_
    rintro e w' ⟨a, c, rfl, h2, h3⟩
    refine ⟨a, c, rfl, ?_, h3⟩
    rw [hfl, hil, List.take_length, List.drop_length]
    simpa using h2
end Go.Proofs.Ytimnepfdpehdmaa
