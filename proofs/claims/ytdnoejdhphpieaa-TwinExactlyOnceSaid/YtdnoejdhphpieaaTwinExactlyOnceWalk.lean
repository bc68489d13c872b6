/- The walk of the statement TwinExactlyOnce. -/
import Derived.Test.YtdnoejdhphpieaaTwD
import Derived.Test.YtdnoejdhphpieaaTwR
import Derived.Deep.DeepCutAuto
import Derived.Laws.OwnMore
namespace Go.Proofs.Ytdnoejdhphpieaa
open Go.RowKit
attribute [local go_sem ↓] Go.wp_at_zero Go.wp_at_succ

def pairE (x : Bool × Bool) : List Value := [.bool x.1, .bool x.2]
theorem pairE_len (x : Bool × Bool) : (pairE x).length = 2 := rfl
theorem pair_get {V : Nat → Prop} {w : World} {v : Value} {l : List (Bool × Bool)} (h : RF V 2 pairE w v l) {i : Nat} {x : Bool × Bool} (hx : l[i]? = some x) : ∃ b off c, v = .slice (some ⟨b, off, none⟩) l.length c ∧
    w.cell? ⟨b, off + i * 2, none⟩ = some (.bool x.1) ∧ w.cell? ⟨b, off + i * 2 + 1, none⟩ = some (.bool x.2) := by
  obtain ⟨b, off, c, hv, _, _, hc⟩ := h.get hx
  exact ⟨b, off, c, hv, hc 0 _ rfl, hc 1 _ rfl⟩
def cntV (g : Nat → Bool) (j : Nat) : Value := .int .i64 (if g j = true then 1 else 0)
theorem info_int : (Try.prog.info? 3).map (fun i => (i.zero, i.size, i.bytes)) = some (some (.int .i64 0), 1, 8) := by kernel_rfl
/-- The state lies in the variable's cell B, the counts of g in the row C. -/
structure Rnd (st : Int) (B C n : Nat) (w : World) (g : Nat → Bool) (L : List Src3) (a : Option Addr) (n1 c : Nat) : Prop where
  len : n1 = L.length
  cell : w.cell? ⟨B, 0, none⟩ = some (.slice a n1 c)
  frozen : w.frozen? ⟨B, 0, none⟩ = false
  lt : B < w.heap.size
  ltC : C < w.heap.size
  rf : RF (fun k => k = B ∨ k = C) 3 srcE w (.slice a n1 c) L
  own : w.ownsRow C 3 1 (.slice (some ⟨C, 0, none⟩) n n) n ((List.range n).map (cntV g))
  twin : Twin st g L

theorem Rnd.ext {st : Int} {B C n : Nat} {w w' : World} {g : Nat → Bool} {L : List Src3} {a : Option Addr} {n1 c : Nat} (h : Rnd st B C n w g L a n1 c) (he : Ext w w') : Rnd st B C n w' g L a n1 c :=
  ⟨h.len, he.cell h.cell, (he.frozen h.lt).trans h.frozen, he.lt h.lt, he.lt h.ltC, h.rf.ext he, own_ext h.own he, h.twin⟩
theorem Rnd.congr {st : Int} {B C n : Nat} {w : World} {g g' : Nat → Bool} {L : List Src3} {a : Option Addr} {n1 c : Nat} (h : Rnd st B C n w g L a n1 c) (e : ∀ j, g j = g' j) : Rnd st B C n w g' L a n1 c := by
  have : g = g' := funext e
  rw [← this]; exact h
theorem Rnd.any {st : Int} {B C n : Nat} {w : World} {g : Nat → Bool} {L : List Src3} {a : Option Addr} {n1 c : Nat} (h : Rnd st B C n w g L a n1 c) : RF Any 3 srcE w (.slice a n1 c) L := h.rf.any (by omega)
theorem map_set {n : Nat} (g : Nat → Bool) (f : Nat) : ((List.range n).map (cntV g)).set f (.int .i64 1) = (List.range n).map (cntV fun j => g j || decide (j = f)) := by
  apply List.ext_getElem (by simp)
  intro i h1 h2
  rw [List.getElem_set]
  simp only [List.getElem_map, List.getElem_range, cntV]
  split
  · rename_i h; subst h; simp
  · rename_i h
    have : decide (i = f) = false := by simp; omega
    simp [this]
theorem map_same {n : Nat} (g : Nat → Bool) (f : Nat) (hg : g f = true) : (List.range n).map (cntV g) = (List.range n).map (cntV fun j => g j || decide (j = f)) := by
  congr 1
  funext j
  unfold cntV
  by_cases h : j = f
  · subst h; simp [hg]
  · simp [h]
/-- Behind Accept, the store of the state, and its copy: the frame f was new .. -/
theorem Rnd.fresh {st : Int} {B C n : Nat} {w w4 : World} {g : Nat → Bool} {L z : List Src3} {a a5 : Option Addr} {n1 c c5 f : Nat} {o : Obj} (h : Rnd st B C n w g L a n1 c) (hBC : B ≠ C) (x4 : Ext w w4) (r5 : RF (Old w) 3 srcE w4 (.slice a5 z.length c5) z) (ht : Twin st (fun j => g j || decide (j = f)) z) :
    Rnd st B C n (((w4.setCell ⟨B, 0, none⟩ (.slice a5 z.length c5)).setCell ⟨C, f, none⟩ (.int .i64 1)).alloc o) (fun j => g j || decide (j = f)) z a5 z.length c5 := by
  refine Rnd.ext ?_ ((Ext.refl _).alloc o)
  have hB := x4.lt h.lt
  have hC := x4.lt h.ltC
  have hne : (⟨B, 0, none⟩ : Addr).block ≠ (⟨C, f, none⟩ : Addr).block := hBC
  refine ⟨rfl, ?_, ?_, by simpa using hB, by simpa using hC, ?_, ?_, ht⟩
  · rw [World.cell?_setCell_far _ _ _ _ (fun e => hBC e.symm)]
    exact World.cell?_setCell_same _ _ _ (x4.cell h.cell)
  · have := (x4.frozen h.lt).trans h.frozen
    simpa using this
  · refine RF.agree ?_ (agree_setCell (p := ⟨C, f, none⟩) (.inr rfl) _)
    refine RF.agree ?_ (agree_setCell (p := ⟨B, 0, none⟩) (.inl rfl) _)
    refine r5.weak (by omega) (fun k _ hk => ?_)
    rcases hk with hk | hk
    · rw [hk]; exact h.lt
    · rw [hk]; exact h.ltC
  · rw [← map_set g f]
    exact ((own_setCell (own_ext h.own x4) ⟨B, 0, none⟩ _ hBC).stored f (.int .i64 1)).1
/-- .. or had been accepted. -/
theorem Rnd.again {st : Int} {B C n : Nat} {w w4 : World} {g : Nat → Bool} {L z : List Src3} {a a5 : Option Addr} {n1 c c5 f : Nat} {o : Obj} (h : Rnd st B C n w g L a n1 c) (hBC : B ≠ C) (x4 : Ext w w4) (r5 : RF (Old w) 3 srcE w4 (.slice a5 z.length c5) z) (hg : g f = true) (ht : Twin st (fun j => g j || decide (j = f)) z) :
    Rnd st B C n ((w4.setCell ⟨B, 0, none⟩ (.slice a5 z.length c5)).alloc o) (fun j => g j || decide (j = f)) z a5 z.length c5 := by
  refine Rnd.ext ?_ ((Ext.refl _).alloc o)
  have hB := x4.lt h.lt
  have hC := x4.lt h.ltC
  refine ⟨rfl, ?_, ?_, by simpa using hB, by simpa using hC, ?_, ?_, ht⟩
  · exact World.cell?_setCell_same _ _ _ (x4.cell h.cell)
  · have := (x4.frozen h.lt).trans h.frozen
    simpa using this
  · refine RF.agree ?_ (agree_setCell (p := ⟨B, 0, none⟩) (.inl rfl) _)
    refine r5.weak (by omega) (fun k _ hk => ?_)
    rcases hk with hk | hk
    · rw [hk]; exact h.lt
    · rw [hk]; exact h.ltC
  · rw [← map_same g f hg]
    exact own_setCell (own_ext h.own x4) ⟨B, 0, none⟩ _ hBC
theorem made_zero (n : Nat) : (madeCells (Value.int .i64 0).cells (n * 1)).toList = (List.range n).map (cntV fun _ => false) := by
  rw [Nat.mul_one, show (Value.int .i64 0).cells = #[Value.int .i64 0] from rfl, toList_madeCells_one]
  apply List.ext_getElem (by simp)
  intro i h1 h2
  simp [cntV]
theorem cell_cnt {w : World} {C n : Nat} {g : Nat → Bool} (h : w.ownsRow C 3 1 (.slice (some ⟨C, 0, none⟩) n n) n ((List.range n).map (cntV g))) (f : Nat) (hf : f < n) : w.cell? ⟨C, f, none⟩ = some (.int .i64 (if g f = true then 1 else 0)) ∧ w.frozen? ⟨C, f, none⟩ = false := by
  refine ⟨?_, h.frozenAt f⟩
  rw [h.cellAt f (by omega)]
  simp [hf, cntV]

set_option maxRecDepth 100000 in
set_option maxHeartbeats 8000000 in
theorem exactly_walk (s0 l0 : Int) (l : List (Bool × Bool)) (v : Value) (w : World) (h : RF Any 2 pairE w v l) : Calls Try.prog 3 #[.int .i64 s0, .int .i64 l0, v] w fun e w' => e = .returned (.bool true) ∧ Ext w w' := by
  obtain ⟨i0, hi0, hz0, hz1, hz2⟩ := info_parts info_int
  have hk := Lib.hid (known16_any w)
  obtain ⟨va, vc, rfl, _, hm⟩ := h.form
  have HL := Lib.hid h
  have hmax : l.length ≤ 9223372036854775807 := by unfold maxLen at hm; omega
  have HA := Lib.hid (fun L v q w1 (h : RF Any 3 srcE w1 v L) (h2 : L.length ≤ 1) (h3 : WfL L) => acceptP_any L v 9 q w1 h (by omega) h3)
  have W1 := Lib.hid (fun w1 => within16_any s0 65536 w1 (by omega) (by omega))
  have W2 := Lib.hid (fun w1 => within16_any l0 60 w1 (by omega) (by omega))
  obtain ⟨late, hlate⟩ : ∃ late : Nat, l0 % 60 = late := ⟨(l0 % 60).toNat, by omega⟩
  rw [hlate] at W2
  have hlate2 : late < 60 := by omega
  clear hlate
  have hst0 : 0 ≤ s0 % 65536 := by omega
  have hst1 : s0 % 65536 ≤ 100000 := by omega
  generalize s0 % 65536 = st at *
  clear h hm
  obtain ⟨n, hn⟩ : ∃ n : Nat, n = min l.length 150 := ⟨_, rfl⟩
  have hmin : min (l.length : Int) 150 = n := by omega
  have hnl : n ≤ l.length := by omega
  have hn150 : n ≤ 150 := by omega
  clear hn
  generalize hnn : l.length = ll at *
  have HN := Lib.hid hnn
  clear hnn
  go_enter Try.func3, Try.ntmps3
  go_wp2_with fail
  refine hk.out.mono ?_
  rintro e w1 ⟨rfl, x1⟩
  go_wp2_with fail
  refine (W1.out _).mono ?_
  rintro e w2 ⟨rfl, rfl⟩
  go_wp2_with fail
  refine (W2.out _).mono ?_
  rintro e w2 ⟨rfl, rfl⟩
  go_upto_region 4 with fail
  go_cut [7] (fun s7 wx => s7 = .int .i64 n ∧ wx = w1)
  case first =>
    go_wp2_with fail
    all_goals
      go_meet
      exact ⟨val_int (by omega), rfl⟩
  case rest =>
    obtain ⟨rfl, rfl⟩ := hcut
    clear hmin
    go_wp2_with (at_make; refine wpList_make_full _ rfl (.tmp 26) (.tmp 26) 25 rfl wc.heap.size 3 i0 (.int .i64 0) 1 Try.underlying25 hi0 hz0 hz1 .i64 .i64 _ _ n rfl rfl rfl rfl (by rw [hz2]; omega) (by unfold maxLen; omega) (Nat.le_refl _) ?_; intro w2 hown2 hgrow2)
    obtain ⟨a0, ha0⟩ : ∃ a0 : Nat → Bool, a0 = fun j => decide (j < n) && !(l.getD j (true, true)).1 := ⟨_, rfl⟩
    obtain ⟨a1, ha1⟩ : ∃ a1 : Nat → Bool, a1 = fun j => decide (j < n) && !(l.getD j (true, true)).2 := ⟨_, rfl⟩
    have HAA : Hid (∀ (j : Nat) (y : Bool × Bool), j < n → l[j]? = some y → a0 j = !y.1 ∧ a1 j = !y.2) := fun j y h1 h2 => by
      rw [ha0, ha1]
      simp [h1, List.getD, h2]
    have HAB : Hid (∀ (j : Nat), n ≤ j → a0 j = false ∧ a1 j = false) := fun j h1 => by
      have : decide (j < n) = false := by simp; omega
      rw [ha0, ha1]
      simp [this]
    clear ha0 ha1
    rw [made_zero] at hown2
    have hx2 : Ext w w2 := x1.grown hgrow2 (fun k hk => by cases hk)
    have hz2 : wc.heap.size < w2.heap.size := (hown2.lt _ rfl).2
    have R0 : Rnd st w2.heap.size wc.heap.size n (w2.alloc (.cells #[.slice none 0 0] 28)) (got a0 a1 0 (0 - late)) [] none 0 0 :=
      ⟨rfl, cell_at _ _ _ _ 0 _ rfl rfl, frozen_at _ _ _ _ 0 rfl, by simp, by simp; omega, RF.nil _ _ _ _, by
        have hg : (fun _ : Nat => false) = got a0 a1 0 (0 - late) := by funext j; simp [got]
        rw [← hg]
        exact hown2.alloc _, .inl ⟨fun j => by simp [got], rfl⟩⟩
    have hXB : Ext w (w2.alloc (.cells #[.slice none 0 0] 28)) := hx2.alloc _
    have hB1 := hx2.size
    have hC1 := x1.size
    have hBC : w2.heap.size ≠ wc.heap.size := by omega
    have HR0 := Lib.hid R0
    clear R0 hown2 hgrow2 hi0 hz0 hz1 hz2
    go_wp2_with fail
    generalize w2.heap.size = B at *
    generalize wc.heap.size = C at *
    have nBC : ¬ (B = C) := hBC
    have nCB : ¬ (C = B) := fun e => hBC e.symm
    go_loopg [10] (n + late) (fun gk i wr => ∃ (k : Nat) (L : List Src3) (a : Option Addr) (n1 c : Nat), k ≤ n + late ∧ gk = n + late - k ∧ i = .int .i64 k ∧ Rnd st B C n wr (got a0 a1 k (k - late)) L a n1 c ∧ Ext w wr)
    case atStart => exact ⟨0, [], none, 0, 0, Nat.zero_le _, rfl, rfl, HR0.out, hXB⟩
    case round =>
      clear HR0 hXB hx2
      obtain ⟨k, L, a, n1, c, hk1, rfl, rfl, hr, hx⟩ := hrel
      have HR := Lib.hid hr
      clear hr
      by_cases hlt : k < n + late
      · have hki : (k : Int) < (n : Int) + late := by omega
        go_upto_region 10 with fail
        go_cut [46] (fun s46 wx => s46 = .bool (a0 k) ∧ wx = wr)
        case first =>
          by_cases hkn : k < n
          · obtain ⟨y, hy⟩ : ∃ y, l[k]? = some y := ⟨_, List.getElem?_eq_getElem (by rw [HN.out]; omega)⟩
            obtain ⟨b, off, c', hv, g0, g1⟩ := pair_get (HL.out.ext hx) hy
            rw [HN.out] at hv
            simp only [Value.slice.injEq] at hv
            obtain ⟨rfl, -, rfl⟩ := hv
            have HQ := Lib.hid (HAA.out k y hkn hy).1
            clear hy g1
            obtain ⟨y0, y1⟩ := y
            simp only at g0 HQ
            have hkl : (k : Int) < ll := by omega
            have hkn2 : (k : Int) < n := by omega
            go_wp2_with fail
            go_meet
            exact ⟨val_bool (by rw [HQ.out]), rfl⟩
          · have hkn2 : ¬ (k : Int) < n := by omega
            have HQ := Lib.hid (HAB.out k (by omega)).1
            go_wp2_with fail
            go_meet
            exact ⟨val_bool (by rw [HQ.out]), rfl⟩
        case rest =>
          obtain ⟨rfl, rfl⟩ := hcut
          go_upto_if 46 with fail
          go_cut [] (fun wx => ∃ (L : List Src3) (a : Option Addr) (n1 c : Nat), Rnd st B C n wx (got a0 a1 (k + 1) (k - late)) L a n1 c ∧ Ext w wx)
          case first =>
            obtain ⟨q, hq⟩ : ∃ q, a0 k = q := ⟨_, rfl⟩
            have HQ := Lib.hid hq
            rw [hq]
            clear hq
            cases q
            · go_wp2_with fail
              go_meet
              exact ⟨L, a, n1, c, HR.out.congr (got_a' a0 a1 k (k - late) HQ.out), hx⟩
            · have hkn : k < n := by
                rcases Nat.lt_or_ge k n with h | h
                · exact h
                · have := (HAB.out k h).1; rw [HQ.out] at this; cases this
              obtain ⟨t1, t2⟩ := HR.out.twin.step k (by omega) (fun j hj => by unfold got at hj; simp only [Bool.or_eq_true, Bool.and_eq_true, decide_eq_true_eq] at hj; omega)
              have hgk : got a0 a1 k (k - late) k = false := by unfold got; simp; omega
              rw [hgk] at t1
              have hA := Lib.hid (HA.out L _ ((st + k) % 65536) _ HR.out.any HR.out.twin.len.1 HR.out.twin.len.2)
              generalize accS L 9 ((st + k) % 65536) = z at *
              obtain ⟨z, zb⟩ := z
              simp only [Bool.not_false] at t1 t2
              subst t1
              have HT2 := Lib.hid t2
              clear t2
              obtain ⟨cc1, cc2⟩ := cell_cnt HR.out.own k hkn
              rw [hgk] at cc1
              simp only [Bool.false_eq_true, if_false] at cc1
              have bb := HR.out.cell
              have bf := HR.out.frozen
              have bl := HR.out.lt
              have cl := HR.out.ltC
              have hkn2 : (k : Int) < n := by omega
              go_wp2_with fail
              refine hA.out.mono ?_
              rintro e w4 ⟨a5, c5, rfl, x4, r5⟩
              have HFR := Lib.hid (HR.out.fresh (o := .cells #[.slice a5 z.length c5] 28) hBC x4 r5 HT2.out)
              have XT := ((hx.trans x4).setCell (p := ⟨B, 0, none⟩) hB1 (.slice a5 z.length c5)).setCell (p := ⟨C, k, none⟩) hC1 (.int .i64 1) |>.alloc (.cells #[.slice a5 z.length c5] 28)
              have b4 := x4.cell bb
              have f4 := (x4.frozen bl).trans bf
              have l4 := x4.lt bl
              have c4 := x4.cell cc1
              have d4 := (x4.frozen (p := ⟨C, k, none⟩) cl).trans cc2
              have m4 := x4.lt cl
              clear r5 bb bf bl cc1 cc2 cl
              go_wp2_with fail
              go_meet
              exact ⟨z, a5, _, c5, HFR.out.congr (got_a a0 a1 k (k - late) HQ.out), XT⟩
          case rest =>
            obtain ⟨L, a, n1, c, hr, hx⟩ := hcut
            replace HR := Lib.hid hr
            clear hr
            go_upto_region 15 with fail
            go_cut [83] (fun s83 wx => s83 = .bool (decide (late ≤ k) && a1 (k - late)) ∧ wx = wc)
            case first =>
              by_cases hkl : late ≤ k
              · have hkl2 : (late : Int) ≤ k := by omega
                have HKL := Lib.hid (decide_eq_true hkl)
                by_cases hkn : k - late < n
                · obtain ⟨y, hy⟩ : ∃ y, l[k - late]? = some y := ⟨_, List.getElem?_eq_getElem (by rw [HN.out]; omega)⟩
                  obtain ⟨b, off, c', hv, g0, g1⟩ := pair_get (HL.out.ext hx) hy
                  rw [HN.out] at hv
                  simp only [Value.slice.injEq] at hv
                  obtain ⟨rfl, -, rfl⟩ := hv
                  have HQ := Lib.hid (HAA.out _ y hkn hy).2
                  clear hy g0
                  obtain ⟨y0, y1⟩ := y
                  simp only at g1 HQ
                  have hkl3 : (k : Int) - late < ll := by omega
                  have hkn2 : (k : Int) - late < n := by omega
                  have hk0 : (0 : Int) ≤ (k : Int) - late := by omega
                  go_wp2_with fail
                  go_meet
                  exact ⟨val_bool (by rw [HQ.out, HKL.out]; rfl), rfl⟩
                · have hkn2 : ¬ (k : Int) - late < n := by omega
                  have HQ := Lib.hid (HAB.out (k - late) (by omega)).2
                  go_wp2_with fail
                  go_meet
                  exact ⟨val_bool (by rw [HQ.out]; simp), rfl⟩
              · have hkl2 : ¬ (late : Int) ≤ k := by omega
                have HKL := Lib.hid (decide_eq_false hkl)
                go_wp2_with fail
                go_meet
                exact ⟨val_bool (by rw [HKL.out]; rfl), rfl⟩
            case rest =>
              obtain ⟨rfl, rfl⟩ := hcut
              obtain ⟨q, hq⟩ : ∃ q, (decide (late ≤ k) && a1 (k - late)) = q := ⟨_, rfl⟩
              have HQ := Lib.hid hq
              rw [hq]
              clear hq
              cases q
              · have e : ∀ j, got a0 a1 (k + 1) (k - late) j = got a0 a1 (k + 1) (k + 1 - late) j := fun j => by
                  have := HQ.out
                  by_cases hkl : late ≤ k
                  · simp only [hkl, decide_true, Bool.true_and] at this
                    rw [show k + 1 - late = (k - late) + 1 by omega]
                    exact got_b' a0 a1 (k + 1) (k - late) this j
                  · rw [show k + 1 - late = k - late by omega]
                have HR2 := Lib.hid (HR.out.congr e)
                clear e
                go_wp2_with fail
                go_roundg (n + late - (k + 1))
                case measure => omega
                case rel => exact ⟨k + 1, L, a, n1, c, by omega, rfl, by go_num, HR2.out, hx⟩
              · obtain ⟨hkl, ha1⟩ : late ≤ k ∧ a1 (k - late) = true := by have := HQ.out; simpa using this
                have hkn : k - late < n := by
                  rcases Nat.lt_or_ge (k - late) n with h | h
                  · exact h
                  · have := (HAB.out _ h).2; rw [ha1] at this; cases this
                have e : ∀ j, (got a0 a1 (k + 1) (k - late) j || decide (j = k - late)) = got a0 a1 (k + 1) (k + 1 - late) j := fun j => by
                  rw [show k + 1 - late = (k - late) + 1 by omega]
                  exact got_b a0 a1 (k + 1) (k - late) ha1 j
                obtain ⟨t1, t2⟩ := HR.out.twin.step (k - late) (by omega) (fun j hj => by unfold got at hj; simp only [Bool.or_eq_true, Bool.and_eq_true, decide_eq_true_eq] at hj; omega)
                have hst : (st + ((k - late : Nat) : Int)) = st + (k : Int) - late := by omega
                rw [hst] at t1 t2
                have hA := Lib.hid (HA.out L _ ((st + k - late) % 65536) _ HR.out.any HR.out.twin.len.1 HR.out.twin.len.2)
                generalize accS L 9 ((st + k - late) % 65536) = z at *
                obtain ⟨z, zb⟩ := z
                simp only at t1 t2
                have HT2 := Lib.hid t2
                have HE := Lib.hid e
                clear t2 e hst ha1
                obtain ⟨cc1, cc2⟩ := cell_cnt HR.out.own (k - late) hkn
                have bb := HR.out.cell
                have bf := HR.out.frozen
                have bl := HR.out.lt
                have cl := HR.out.ltC
                have hkl2 : (late : Int) ≤ k := by omega
                have hkn2 : (k : Int) - late < n := by omega
                have hk0 : (0 : Int) ≤ (k : Int) - late := by omega
                obtain ⟨gb, hgb⟩ : ∃ gb, got a0 a1 (k + 1) (k - late) (k - late) = gb := ⟨_, rfl⟩
                have HGB := Lib.hid hgb
                rw [hgb] at t1 cc1
                clear hgb
                cases gb
                · simp only [Bool.not_false] at t1
                  subst t1
                  simp only [Bool.false_eq_true, if_false] at cc1
                  go_wp2_with fail
                  refine hA.out.mono ?_
                  rintro e w4 ⟨a5, c5, rfl, x4, r5⟩
                  have HFR := Lib.hid (HR.out.fresh (o := .cells #[.slice a5 z.length c5] 28) hBC x4 r5 HT2.out)
                  have XT := ((hx.trans x4).setCell (p := ⟨B, 0, none⟩) hB1 (.slice a5 z.length c5)).setCell (p := ⟨C, k - late, none⟩) hC1 (.int .i64 1) |>.alloc (.cells #[.slice a5 z.length c5] 28)
                  have b4 := x4.cell bb
                  have f4 := (x4.frozen bl).trans bf
                  have l4 := x4.lt bl
                  have c4 := x4.cell cc1
                  have d4 := (x4.frozen (p := ⟨C, k - late, none⟩) cl).trans cc2
                  have m4 := x4.lt cl
                  clear r5 bb bf bl cc1 cc2 cl
                  go_wp2_with fail
                  go_roundg (n + late - (k + 1))
                  case measure => omega
                  case rel => exact ⟨k + 1, z, a5, _, c5, by omega, rfl, by go_num, HFR.out.congr HE.out, XT⟩
                · simp only [Bool.not_true] at t1
                  subst t1
                  go_wp2_with fail
                  refine hA.out.mono ?_
                  rintro e w4 ⟨a5, c5, rfl, x4, r5⟩
                  have HFR := Lib.hid (HR.out.again (o := .cells #[.slice a5 z.length c5] 28) hBC x4 r5 HGB.out HT2.out)
                  have XT := ((hx.trans x4).setCell (p := ⟨B, 0, none⟩) hB1 (.slice a5 z.length c5)).alloc (.cells #[.slice a5 z.length c5] 28)
                  have b4 := x4.cell bb
                  have f4 := (x4.frozen bl).trans bf
                  have l4 := x4.lt bl
                  clear r5 bb bf bl cc1 cc2 cl
                  go_wp2_with fail
                  go_roundg (n + late - (k + 1))
                  case measure => omega
                  case rel => exact ⟨k + 1, z, a5, _, c5, by omega, rfl, by go_num, HFR.out.congr HE.out, XT⟩
      · have hki : ¬ (k : Int) < (n : Int) + late := by omega
        have hk3 : k = n + late := by omega
        have HOWN : Hid (∀ (f : Nat) (y : Bool × Bool), f < n → l[f]? = some y → wr.cell? ⟨C, f, none⟩ = some (.int .i64 (if y.1 && y.2 then 0 else 1))) := fun f y h1 h2 => by
          have := (cell_cnt HR.out.own f h1).1
          rw [this]
          obtain ⟨e1, e2⟩ := HAA.out f y h1 h2
          have hg : got a0 a1 k (k - late) f = !(y.1 && y.2) := by
            unfold got
            rw [e1, e2, show decide (f < k) = true by simp; omega, show decide (f < k - late) = true by simp; omega]
            cases y.1 <;> cases y.2 <;> rfl
          rw [hg]
          cases y.1 <;> cases y.2 <;> rfl
        clear hk3
        go_wp2_with fail
        go_loop [15] (fun i => ∃ (f : Nat), f ≤ n ∧ i = .int .i64 f) (fun i => n - (intOf i).toNat)
        case atStart => exact ⟨0, Nat.zero_le _, rfl⟩
        case round =>
          obtain ⟨f, hf1, rfl⟩ := hrel
          by_cases hf : f < n
          · obtain ⟨y, hy⟩ : ∃ y, l[f]? = some y := ⟨_, List.getElem?_eq_getElem (by rw [HN.out]; omega)⟩
            obtain ⟨b, off, c', hv, g0, g1⟩ := pair_get (HL.out.ext hx) hy
            rw [HN.out] at hv
            simp only [Value.slice.injEq] at hv
            obtain ⟨rfl, -, rfl⟩ := hv
            have cc := HOWN.out f y hf hy
            clear hy
            obtain ⟨y0, y1⟩ := y
            simp only at g0 g1 cc
            have hf2 : (f : Int) < n := by omega
            have hf3 : (f : Int) < ll := by omega
            cases y0 <;> cases y1 <;> simp only [Bool.and_self, Bool.and_false, Bool.and_true, if_true, if_false, Bool.false_eq_true] at cc
            all_goals
              go_wp2_with fail
              go_round
              case rel => exact ⟨f + 1, by omega, by go_num⟩
              case measure => simp [intOf]; omega
          · have hf2 : ¬ (f : Int) < n := by omega
            go_wp2_with fail
            go_ret
            exact ⟨rfl, hx⟩
end Go.Proofs.Ytdnoejdhphpieaa
