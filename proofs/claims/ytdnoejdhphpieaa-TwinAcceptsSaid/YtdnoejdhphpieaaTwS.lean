/- The reference of layer 16: word, find, put. -/
import Derived.Test.YtdnoejdhphpieaaTwQ
import Derived.Test.YtdnoejdhphpieaaTwC
import Derived.Deep.QuietTactic
import Derived.BigQuiet
namespace Go.Proofs.Ytdnoejdhphpieaa
open Go.RowKit
attribute [local go_sem ↓] Go.wp_at_zero Go.wp_at_succ

theorem info_rsrc : (Try.prog.info? 75).map (fun i => (i.zero, i.size, i.bytes)) = some (some (.agg #[.int .i64 0, .int .i64 0, .int .u64 0]), 3, 24) := by kernel_rfl

/-! ### What find gives -/
def below (l : List Src3) (s : Int) : Nat := (l.takeWhile fun x => decide (x.1 < s)).length
/-- The sources stand in ascending order. -/
def Asc (l : List Src3) : Prop := l.Pairwise fun x y => x.1 < y.1
theorem below_le (l : List Src3) (s : Int) : below l s ≤ l.length := (List.takeWhile_sublist _).length_le
theorem below_step {l : List Src3} {s : Int} {k : Nat} {x : Src3} (hk : k ≤ below l s) (hx : l[k]? = some x) : decide (x.1 < s) = decide (k < below l s) := by
  induction l generalizing k with
  | nil => simp at hx
  | cons y l ih =>
    unfold below at hk ⊢
    rw [List.takeWhile_cons] at hk ⊢
    by_cases hy : y.1 < s
    · rw [if_pos (by simpa using hy)] at hk ⊢
      cases k with
      | zero =>
        simp only [List.getElem?_cons_zero, Option.some.injEq] at hx
        subst hx
        simp [hy]
      | succ k =>
        have := ih (k := k) (by unfold below; simpa using hk) (by simpa using hx)
        rw [this]
        unfold below
        rw [Bool.eq_iff_iff]
        simp
    · rw [if_neg (by simpa using hy)] at hk ⊢
      have hk0 : k = 0 := by simpa using hk
      subst hk0
      simp only [List.getElem?_cons_zero, Option.some.injEq] at hx
      subst hx
      simp [hy]
theorem below_is {l : List Src3} {s : Int} {x : Src3} (hx : l[below l s]? = some x) (h : x.1 = s) : l.findIdx? (fun x => decide (x.1 = s)) = some (below l s) := by
  obtain ⟨hi, e⟩ := List.getElem?_eq_some_iff.1 hx
  refine List.findIdx?_eq_some_iff_getElem.2 ⟨hi, by rw [e]; simpa using h, fun j hj => ?_⟩
  have hjl : j < l.length := by omega
  have := below_step (l := l) (s := s) (k := j) (Nat.le_of_lt hj) (List.getElem?_eq_getElem hjl)
  simp only [hj, decide_true, decide_eq_true_eq] at this
  simp only [decide_eq_true_eq]
  omega
theorem below_not {l : List Src3} {s : Int} (ha : Asc l) (h : ∀ x, l[below l s]? = some x → x.1 ≠ s) : l.findIdx? (fun x => decide (x.1 = s)) = none ∧ (l.findIdx? (fun x => decide (s < x.1))).getD l.length = below l s := by
  have key : ∀ (i : Nat) y, l[i]? = some y → (i < below l s ∧ y.1 < s) ∨ (below l s ≤ i ∧ s < y.1) := by
    intro i y hy
    rcases Nat.lt_or_ge i (below l s) with hi | hi
    · have := below_step (Nat.le_of_lt hi) hy
      simp only [hi, decide_true, decide_eq_true_eq] at this
      exact .inl ⟨hi, this⟩
    · obtain ⟨hil, e⟩ := List.getElem?_eq_some_iff.1 hy
      have hbl : below l s < l.length := by omega
      have hb := List.getElem?_eq_getElem hbl
      have h1 := below_step (Nat.le_refl _) hb
      simp only [Nat.lt_irrefl, decide_false, decide_eq_false_iff_not] at h1
      have h2 := h _ hb
      refine .inr ⟨hi, ?_⟩
      rcases Nat.eq_or_lt_of_le hi with hh | hh
      · subst e
        simp only [← hh]
        omega
      · have := List.pairwise_iff_getElem.1 ha _ _ hbl hil hh
        rw [e] at this
        omega
  constructor
  · rw [List.findIdx?_eq_none_iff]
    intro y hy
    obtain ⟨i, hi, rfl⟩ := List.getElem_of_mem hy
    rcases key i _ (List.getElem?_eq_getElem hi) with ⟨_, h1⟩ | ⟨_, h1⟩
    · simp; omega
    · simp; omega
  · rcases Nat.lt_or_ge (below l s) l.length with hb | hb
    · have : l.findIdx? (fun x => decide (s < x.1)) = some (below l s) := by
        refine List.findIdx?_eq_some_iff_getElem.2 ⟨hb, ?_, fun j hj => ?_⟩
        · rcases key _ _ (List.getElem?_eq_getElem hb) with ⟨h1, _⟩ | ⟨_, h1⟩
          · omega
          · simpa using h1
        · rcases key j _ (List.getElem?_eq_getElem (by omega)) with ⟨_, h1⟩ | ⟨h1, _⟩
          · simp; omega
          · omega
      rw [this]; rfl
    · have : l.findIdx? (fun x => decide (s < x.1)) = none := by
        rw [List.findIdx?_eq_none_iff]
        intro y hy
        obtain ⟨i, hi, rfl⟩ := List.getElem_of_mem hy
        rcases key i _ (List.getElem?_eq_getElem hi) with ⟨_, h1⟩ | ⟨h1, _⟩
        · simp; omega
        · omega
      rw [this]
      have := below_le l s
      simp only [Option.getD_none]
      omega
theorem acc_asc {l : List Src3} (ha : Asc l) (s q : Int) : Asc (accS l s q).1 := by
  rcases accS_cases l s q with ⟨e, _⟩ | ⟨hr, ⟨i, x, hf, hx, h1, e⟩ | ⟨hf, i, hi, hg, e⟩⟩
  · rw [e]; exact ha
  · rw [e]
    simp only
    obtain ⟨hil, hxe⟩ := List.getElem?_eq_some_iff.1 hx
    unfold Asc at ha ⊢
    rw [List.pairwise_iff_getElem] at ha ⊢
    intro a b h2 h3 hab
    have hk : ∀ j (hj : j < (l.set i (takeS x q).1).length), (l.set i (takeS x q).1)[j].1 = (l[j]'(by simpa using hj)).1 := by
      intro j hj
      rw [List.getElem_set]
      split
      · rename_i hij; subst hij; rw [takeS_of, hxe]
      · rfl
    rw [hk a h2, hk b h3]
    exact ha a b _ _ hab
  · rw [e]
    simp only
    have key : ∀ (j : Nat) y, l[j]? = some y → (j < i → y.1 < s) ∧ (i ≤ j → s < y.1) := by
      intro j y hy
      have hne : y.1 ≠ s := fun hh => by
        have := List.findIdx?_eq_none_iff.1 hf y (List.mem_of_getElem? hy)
        simp [hh] at this
      obtain ⟨hjl, hye⟩ := List.getElem?_eq_some_iff.1 hy
      cases hc : l.findIdx? (fun x => decide (s < x.1)) with
      | none =>
        rw [hc] at hg
        simp only [Option.getD_none] at hg
        have := List.findIdx?_eq_none_iff.1 hc y (List.mem_of_getElem? hy)
        simp only [decide_eq_false_iff_not] at this
        exact ⟨fun _ => by omega, fun h => by omega⟩
      | some p =>
        rw [hc] at hg
        simp only [Option.getD_some] at hg
        subst hg
        obtain ⟨hp, hp1, hp2⟩ := List.findIdx?_eq_some_iff_getElem.1 hc
        simp only [decide_eq_true_eq] at hp1
        refine ⟨fun h => ?_, fun h => ?_⟩
        · have := hp2 j h
          rw [hye] at this
          simp at this
          omega
        · rcases Nat.eq_or_lt_of_le h with hh | hh
          · subst hh; rw [hye] at hp1; exact hp1
          · have := List.pairwise_iff_getElem.1 ha _ _ hp hjl hh
            rw [hye] at this
            omega
    unfold Asc
    rw [List.pairwise_append]
    refine ⟨ha.sublist (List.take_sublist _ _), ?_, ?_⟩
    · rw [List.pairwise_cons]
      refine ⟨fun y hy => ?_, ha.sublist (List.drop_sublist _ _)⟩
      obtain ⟨j, hj, rfl⟩ := List.getElem_of_mem hy
      have := (key (i + j) (l.drop i)[j] (by rw [List.getElem_drop]; exact List.getElem?_eq_getElem _)).2 (by omega)
      exact this
    · intro y hy z hz
      obtain ⟨j, hj, rfl⟩ := List.getElem_of_mem hy
      have hj2 : j < i := by simp at hj; omega
      have h1 := (key j (l.take i)[j] (by rw [List.getElem_take]; exact List.getElem?_eq_getElem _)).1 hj2
      simp only [List.mem_cons] at hz
      rcases hz with hz | hz
      · rw [hz]; exact h1
      · obtain ⟨p, hp, rfl⟩ := List.getElem_of_mem hz
        have := (key (i + p) (l.drop i)[p] (by rw [List.getElem_drop]; exact List.getElem?_eq_getElem _)).2 (by omega)
        omega

/-! ### The contracts -/
def wordB (n : Int) : Bool := decide (0 ≤ n) && decide (n ≤ 65535)
theorem word16_any (n : Int) (w : World) : Calls Try.prog 27 #[.int .i64 n] w fun e w' => e = .returned (.bool (wordB n)) ∧ w = w' := by
  by_cases h : 0 ≤ n
  · obtain ⟨b, hb⟩ : ∃ b, decide (n ≤ 65535) = b := ⟨_, rfl⟩
    have HB := Lib.hid (show wordB n = b by unfold wordB; rw [hb]; simp [h])
    go_enter Try.func27, Try.ntmps27
    go_wp2
    go_ret
    exact ⟨ret_bool (by rw [HB.out]), rfl⟩
  · have HB := Lib.hid (show wordB n = false by unfold wordB; simp [h])
    go_enter Try.func27, Try.ntmps27
    go_wp2
    go_ret
    exact ⟨ret_bool (by rw [HB.out]), rfl⟩
theorem src_getR {V : Nat → Prop} {w : World} {v : Value} {l : List Src3} (h : RF V 3 srcE w v l) {i : Nat} {x : Src3} (hx : l[i]? = some x) : ∃ b off c, v = .slice (some ⟨b, off, none⟩) l.length c ∧ b < w.heap.size ∧
    w.cell? ⟨b, off + i * 3, none⟩ = some (.int .i64 x.1) ∧ w.cell? ⟨b, off + i * 3 + 1, none⟩ = some (.int .i64 x.2.1) ∧ w.cell? ⟨b, off + i * 3 + 2, none⟩ = some (.int .u64 ((x.2.2 : Nat) : Int)) := by
  obtain ⟨b, off, c, hv, g0, g1, g2⟩ := src_get h hx
  exact ⟨b, off, c, hv, World.block_lt_of_cell? w _ g0, g0, g1, g2⟩
def isAt (l : List Src3) (s : Int) : Bool := match l[below l s]? with | some x => decide (x.1 = s) | none => false
set_option maxHeartbeats 2000000 in
theorem find16_any (l : List Src3) (v : Value) (s : Int) (w : World) (h : RF Any 3 srcE w v l) : Calls Try.prog 28 #[.agg #[v], .int .i64 s] w fun e w' => e = .returned (.tuple #[.int .i64 ((below l s : Nat) : Int), .bool (isAt l s)]) ∧ Ext w w' := by
  obtain ⟨va, vc, rfl, _, hm⟩ := h.form
  have hmax : l.length ≤ 9223372036854775807 := by unfold maxLen at hm; omega
  have HL := Lib.hid h
  have HST := Lib.hid (fun k x (h1 : k ≤ below l s) => below_step (l := l) (s := s) (k := k) (x := x) h1)
  have hbl := below_le l s
  have HIS : Hid (∀ x, l[below l s]? = some x → isAt l s = decide (x.1 = s)) := fun x hx => by unfold isAt; rw [hx]
  have HIN : Hid (below l s = l.length → isAt l s = false) := fun hh => by unfold isAt; rw [List.getElem?_eq_none (by omega)]
  generalize isAt l s = is at *
  generalize below l s = B at *
  clear h hm
  generalize hn : l.length = n at *
  have HN := Lib.hid hn
  clear hn
  go_enter Try.func28, Try.ntmps28
  go_wp2
  go_loop [6] (fun i => ∃ (k : Nat), k ≤ B ∧ i = .int .i64 k) (fun i => B - (intOf i).toNat)
  case atStart => exact ⟨0, Nat.zero_le _, rfl⟩
  case round =>
    obtain ⟨k, hk, rfl⟩ := hrel
    have X1 : Ext w (w.alloc (.cells #[.slice va n vc] 41)) := (Ext.refl w).alloc _
    by_cases hkn : k < n
    · obtain ⟨x, hx⟩ : ∃ x, l[k]? = some x := ⟨_, List.getElem?_eq_getElem (by rw [HN.out]; exact hkn)⟩
      obtain ⟨b, off, c', hv, hb, g0, g1, g2⟩ := src_getR HL.out hx
      rw [HN.out] at hv
      simp only [Value.slice.injEq] at hv
      obtain ⟨rfl, -, rfl⟩ := hv
      have hst := HST.out k x hk hx
      have HX := Lib.hid hx
      clear g1 g2 hx
      obtain ⟨xo, xt, xs⟩ := x
      simp only at hst g0
      have hkn2 : (k : Int) < n := by omega
      by_cases hkB : k < B
      · have hd : decide (xo < s) = true := by rw [hst]; simpa using hkB
        clear hst
        go_wp2
        go_round
        case rel => exact ⟨k + 1, by omega, by go_num⟩
        case measure => simp [intOf]; omega
      · have hd : decide (xo < s) = false := by rw [hst]; simpa using hkB
        have hkB2 : k = B := by omega
        subst hkB2
        have HQ := Lib.hid (HIS.out _ HX.out)
        clear hst
        have hdk : decide ((k : Int) < n) = true := by simpa using hkn2
        go_wp2
        go_quiet (fail)
        go_wp2
        go_ret2
        exact ⟨by rw [HQ.out]; rfl, X1.drewN nq⟩
    · have hkn2 : ¬ (k : Int) < n := by omega
      have hkB2 : k = B := by omega
      subst hkB2
      have HQ := Lib.hid (HIN.out (by omega))
      have hdk : decide ((k : Int) < n) = false := by simpa using hkn2
      go_wp2
      go_quiet (fail)
      go_wp2
      go_ret2
      exact ⟨by rw [HQ.out]; rfl, X1.drewN nq⟩
end Go.Proofs.Ytdnoejdhphpieaa
