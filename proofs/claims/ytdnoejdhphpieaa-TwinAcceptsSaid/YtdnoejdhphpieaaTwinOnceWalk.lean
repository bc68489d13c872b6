/- The walk of the statement TwinOnce. -/
import Derived.Test.YtdnoejdhphpieaaTwD
import Derived.Test.YtdnoejdhphpieaaTwQ
import Derived.Deep.QuietTactic
import Derived.BigQuiet
import Derived.Deep.RegionWith
namespace Go.Proofs.Ytdnoejdhphpieaa
open Go.RowKit
attribute [local go_sem ↓] Go.wp_at_zero Go.wp_at_succ

def numE (x : Int × Int) : List Value := [.int .i64 x.1, .int .i64 x.2]
theorem numE_len (x : Int × Int) : (numE x).length = 2 := rfl
theorem num_get {V : Nat → Prop} {w : World} {v : Value} {l : List (Int × Int)} (h : RF V 2 numE w v l) {i : Nat} {x : Int × Int} (hx : l[i]? = some x) : ∃ b off c, v = .slice (some ⟨b, off, none⟩) l.length c ∧
    w.cell? ⟨b, off + i * 2, none⟩ = some (.int .i64 x.1) ∧ w.cell? ⟨b, off + i * 2 + 1, none⟩ = some (.int .i64 x.2) := by
  obtain ⟨b, off, c, hv, _, _, hc⟩ := h.get hx
  exact ⟨b, off, c, hv, hc 0 _ rfl, hc 1 _ rfl⟩
/-- The state L lies in the variable's cell B. -/
def StAt (B : Nat) (w : World) (L : List Src3) (a : Option Addr) (n c : Nat) : Prop := n = L.length ∧ w.cell? ⟨B, 0, none⟩ = some (.slice a n c) ∧ w.frozen? ⟨B, 0, none⟩ = false ∧ B < w.heap.size ∧ RF (fun k => k = B) 3 srcE w (.slice a n c) L
/-- Behind Accept and the store. -/
theorem StAt.next {B : Nat} {w w4 : World} {L : List Src3} {a a5 : Option Addr} {n c c5 : Nat} {z : List Src3} (h : StAt B w L a n c) (x4 : Ext w w4) (r5 : RF (Old w) 3 srcE w4 (.slice a5 z.length c5) z) : StAt B (w4.setCell ⟨B, 0, none⟩ (.slice a5 z.length c5)) z a5 z.length c5 := by
  obtain ⟨_, b0, f0, hB, _⟩ := h
  refine ⟨rfl, World.cell?_setCell_same _ _ _ (x4.cell b0), ?_, by simpa using x4.lt hB, (r5.store B hB _).weak (by omega) (fun k _ h => by have : k = B := h; rw [this]; exact hB)⟩
  have := (x4.frozen hB).trans f0
  simpa using this
theorem StAt.rf {B : Nat} {w : World} {L : List Src3} {a : Option Addr} {n c : Nat} (h : StAt B w L a n c) : RF Any 3 srcE w (.slice a n c) L := h.2.2.2.2.any (by omega)
theorem StAt.ext {B : Nat} {w w' : World} {L : List Src3} {a : Option Addr} {n c : Nat} (h : StAt B w L a n c) (he : Ext w w') : StAt B w' L a n c :=
  ⟨h.1, he.cell h.2.1, (he.frozen h.2.2.2.1).trans h.2.2.1, he.lt h.2.2.2.1, h.2.2.2.2.ext he⟩
theorem StAt.new (w : World) (B : Nat) (hB : w.heap.size = B) : StAt B (w.alloc (.cells #[.slice none 0 0] 28)) [] none 0 0 :=
  ⟨rfl, cell_at _ _ _ _ 0 _ hB rfl, frozen_at _ _ _ _ 0 hB, by simp; omega, RF.nil _ _ _ _⟩

set_option maxRecDepth 100000 in
set_option maxHeartbeats 8000000 in
theorem once_walk (l : List (Int × Int)) (v : Value) (s q : Int) (w : World) (h : RF Any 2 numE w v l) : Calls Try.prog 6 #[v, .agg #[.int .i64 s, .int .i64 q]] w fun e w' => e = .returned (.bool true) ∧ Ext w w' := by
  have hk := Lib.hid (known16_any (w.alloc (.cells #[.int .i64 s, .int .i64 q] 43)))
  obtain ⟨va, vc, rfl, _, hm⟩ := h.form
  have HL := Lib.hid h
  have hmax : l.length ≤ 9223372036854775807 := by unfold maxLen at hm; omega
  have HA := Lib.hid (fun L v s q w1 (h : RF Any 3 srcE w1 v L) (h2 : L.length ≤ 1000) (h3 : WfL L) => acceptP_any L v s q w1 h (by omega) h3)
  have HW := Lib.hid (fun L (h : WfL L) s q => accS_wf h s q)
  clear h hm
  generalize hn : l.length = n at *
  have HN := Lib.hid hn
  clear hn
  go_enter Try.func6, Try.ntmps6
  go_wp2_with fail
  refine hk.out.mono ?_
  rintro e w1 ⟨rfl, x1⟩
  have X1 : Ext w w1 := ((Ext.refl w).alloc _).trans x1
  have hB1 := X1.size
  have p0 : w1.cell? ⟨w.heap.size, 0, none⟩ = some (.int .i64 s) := x1.cell (cell_at _ _ _ _ 0 _ rfl rfl)
  have p1 : w1.cell? ⟨w.heap.size, 1, none⟩ = some (.int .i64 q) := x1.cell (cell_at _ _ _ _ 1 _ rfl rfl)
  have hb0 : w.heap.size < w1.heap.size := by have := x1.size; simp at this; omega
  go_wp2_with fail
  have S0 := StAt.new w1 w1.heap.size rfl
  have XB : Ext w (w1.alloc (.cells #[.slice none 0 0] 28)) := X1.alloc _
  have PB : Hid (∀ w', Ext w1 w' → w'.cell? ⟨w.heap.size, 0, none⟩ = some (.int .i64 s) ∧ w'.cell? ⟨w.heap.size, 1, none⟩ = some (.int .i64 q)) := fun w' he => ⟨he.cell p0, he.cell p1⟩
  have XC : Ext w1 (w1.alloc (.cells #[.slice none 0 0] 28)) := (Ext.refl w1).alloc _
  generalize hB : w1.heap.size = B at *
  go_loopw [6] (fun i wr => ∃ (k : Nat) (L : List Src3) (a : Option Addr) (n1 c : Nat), k ≤ n ∧ k ≤ 100 ∧ i = .int .i64 k ∧ L.length ≤ k ∧ WfL L ∧ StAt B wr L a n1 c ∧ Ext w wr ∧ Ext w1 wr) (fun i _ => 100 - (intOf i).toNat)
  case atStart => exact ⟨0, [], none, 0, 0, Nat.zero_le _, Nat.zero_le _, rfl, Nat.le_refl _, (fun _ h => by cases h), S0, XB, XC⟩
  case round =>
    obtain ⟨k, L, a, n1, c, hk1, hk2, rfl, hLl, hwf, hst, hx, hx1⟩ := hrel
    by_cases hlt : k < n ∧ k < 100
    · obtain ⟨hlt1, hlt2⟩ := hlt
      obtain ⟨y, hy⟩ : ∃ y, l[k]? = some y := ⟨_, List.getElem?_eq_getElem (by rw [HN.out]; exact hlt1)⟩
      obtain ⟨b, off, c', hv, g0, g1⟩ := num_get (HL.out.ext hx) hy
      rw [HN.out] at hv
      simp only [Value.slice.injEq] at hv
      obtain ⟨rfl, -, rfl⟩ := hv
      clear hy
      obtain ⟨ys, yq⟩ := y
      simp only at g0 g1
      have HST := Lib.hid hst
      obtain ⟨-, b0, f0, hBl, -⟩ := hst
      have hA := Lib.hid (fun w' (he : Ext wr w') => HA.out L _ ys yq w' (HST.out.ext he).rf (by omega) hwf)
      have hW := HW.out L hwf ys yq
      generalize accS L ys yq = z at *
      obtain ⟨z, zb⟩ := z
      simp only at hW
      obtain ⟨hW1, hW2⟩ := hW
      have HW1 := Lib.hid hW1
      have hki : (k : Int) < n := by omega
      have hki2 : (k : Int) < 100 := by omega
      clear hW1 hwf
      go_wp2_with fail
      go_region_with (go_at_call 12; refine (hA.out _ ((Ext.refl wr).drew)).mono ?_; rintro e w4 ⟨a5, c5, rfl, x4, r5⟩; have b4 : w4.cell? ⟨B, 0, none⟩ = some (.slice a n1 c) := x4.cell (by exact b0); have f4 : w4.frozen? ⟨B, 0, none⟩ = false := (x4.frozen hBl).trans f0)
      all_goals
        have hXT := (hx.trans ((Ext.refl wr).drew.trans x4)).setCell (p := ⟨B, 0, none⟩) hB1 (.slice a5 z.length c5)
        have hXU := (hx1.trans ((Ext.refl wr).drew.trans x4)).setCell (p := ⟨B, 0, none⟩) (by rw [hB]; exact Nat.le_refl _) (.slice a5 z.length c5)
        have HS2 := Lib.hid ((HST.out.ext (Ext.refl wr).drew).next x4 r5)
        clear r5
        go_wp2_with fail
        refine ⟨⟨k + 1, z, a5, _, c5, by omega, by omega, by go_num, by omega, HW1.out, HS2.out, hXT, hXU⟩, by simp [intOf]; omega⟩
    · have HST := Lib.hid hst
      obtain ⟨-, b0, f0, hBl, -⟩ := hst
      obtain ⟨p0', p1'⟩ := PB.out _ hx1
      have hA := Lib.hid (HA.out L _ s q wr HST.out.rf (by omega) hwf)
      have hW := HW.out L hwf s q
      have HD := Lib.hid (drops_after L s q)
      generalize accS L s q = z at *
      obtain ⟨z, zb⟩ := z
      simp only at hW HD
      obtain ⟨hW1, hW2⟩ := hW
      have HW1 := Lib.hid hW1
      clear hW1 hwf HA
      have hend : ¬ ((k : Int) < n) ∨ (((k : Int) < n) ∧ ¬ ((k : Int) < 100)) := by omega
      have HA := Lib.hid (fun L v s q w1 (h : RF Any 3 srcE w1 v L) (h2 : L.length ≤ 1000) (h3 : WfL L) => acceptP_any L v s q w1 h (by omega) h3)
      rcases hend with hend | ⟨hend, hend2⟩
      all_goals
        go_wp2_with fail
        refine hA.out.mono ?_
        rintro e w4 ⟨a5, c5, rfl, x4, r5⟩
        have b4 : w4.cell? ⟨B, 0, none⟩ = some (.slice a n1 c) := x4.cell b0
        have f4 : w4.frozen? ⟨B, 0, none⟩ = false := (x4.frozen hBl).trans f0
        have hXT := (hx.trans x4).setCell (p := ⟨B, 0, none⟩) hB1 (.slice a5 z.length c5)
        have hXU := (hx1.trans x4).setCell (p := ⟨B, 0, none⟩) (by rw [hB]; exact Nat.le_refl _) (.slice a5 z.length c5)
        have HS2 := Lib.hid (HST.out.next x4 r5)
        have hzl : z.length ≤ 200 := by omega
        clear r5
        go_wp2_with fail
        clear b4 f4 b0 f0 p0' p1'
        generalize hWW : w4.setCell ⟨B, 0, none⟩ (.slice a5 z.length c5) = W at *
        clear hWW
        go_loopw [7] (fun i wr => ∃ (k : Nat) (L : List Src3) (a : Option Addr) (n1 c : Nat), k ≤ n ∧ k ≤ 100 ∧ i = .int .i64 k ∧ L.length ≤ 200 + k ∧ WfL L ∧ Drops L s q ∧ StAt B wr L a n1 c ∧ Ext w wr ∧ Ext w1 wr) (fun i _ => 100 - (intOf i).toNat)
        case atStart => exact ⟨0, z, a5, _, c5, Nat.zero_le _, Nat.zero_le _, rfl, by omega, HW1.out, HD.out, HS2.out, hXT, hXU⟩
        case round =>
          clear hXT hXU HS2 hA HST HD HW1 hW2 hLl hend hk1 hk2 hx hx1
          obtain ⟨k, L, a, n1, c, hk1, hk2, rfl, hLl, hwf, hdr, hst, hx, hx1⟩ := hrel
          obtain ⟨p0', p1'⟩ := PB.out _ hx1
          have HST := Lib.hid hst
          obtain ⟨-, b0, f0, hBl, -⟩ := hst
          have HDR := Lib.hid hdr
          clear hdr
          by_cases hlt : k < n ∧ k < 100
          · obtain ⟨hlt1, hlt2⟩ := hlt
            obtain ⟨y, hy⟩ : ∃ y, l[k]? = some y := ⟨_, List.getElem?_eq_getElem (by rw [HN.out]; exact hlt1)⟩
            obtain ⟨b, off, c', hv, g0, g1⟩ := num_get (HL.out.ext hx) hy
            rw [HN.out] at hv
            simp only [Value.slice.injEq] at hv
            obtain ⟨rfl, -, rfl⟩ := hv
            clear hy
            obtain ⟨ys, yq⟩ := y
            simp only at g0 g1
            have hki : (k : Int) < n := by omega
            have hki2 : (k : Int) < 100 := by omega
            by_cases hys : ys = s
            · subst hys
              have HWF := Lib.hid hwf
              clear hwf
              go_wp2_with fail
              go_quiet (fail)
              go_wp2_with fail
              have E := (Ext.refl wr).drewN nq
              exact ⟨⟨k + 1, L, a, n1, c, by omega, by omega, by go_num, by omega, HWF.out, HDR.out, HST.out.ext E, hx.trans E, hx1.trans E⟩, by simp [intOf]; omega⟩
            · have hne : (ys != s) = true := by simpa using hys
              have HNE := Lib.hid hys
              clear hys
              have hA := Lib.hid (fun w' (he : Ext wr w') => HA.out L _ ys yq w' (HST.out.ext he).rf (by omega) hwf)
              have hW := HW.out L hwf ys yq
              have HD2 := Lib.hid (drops_other HDR.out ys yq HNE.out)
              generalize accS L ys yq = z at *
              obtain ⟨z, zb⟩ := z
              simp only at hW HD2
              obtain ⟨hW1, hW2⟩ := hW
              have HW1 := Lib.hid hW1
              clear hW1 hwf
              go_wp2_with fail
              go_quiet (fail)
              go_wp2_with fail
              have E : Ext wr (wr.drewN nq) := (Ext.refl wr).drewN nq
              generalize wr.drewN nq = w5 at *
              have HST5 := Lib.hid (HST.out.ext E)
              have hx5 := hx.trans E
              have hx15 := hx1.trans E
              replace g0 := E.cell g0
              replace g1 := E.cell g1
              replace b0 := E.cell b0
              replace f0 := (E.frozen hBl).trans f0
              replace hBl := E.lt hBl
              clear p0' p1'
              go_region_with (go_at_call 12; refine (hA.out _ E.drew).mono ?_; rintro e w6 ⟨a6, c6, rfl, x6, r6⟩; have b6 : w6.cell? ⟨B, 0, none⟩ = some (.slice a n1 c) := x6.cell (by exact b0); have f6 : w6.frozen? ⟨B, 0, none⟩ = false := (x6.frozen hBl).trans f0)
              all_goals
                have hXT := (hx5.trans ((Ext.refl w5).drew.trans x6)).setCell (p := ⟨B, 0, none⟩) hB1 (.slice a6 z.length c6)
                have hXU := (hx15.trans ((Ext.refl w5).drew.trans x6)).setCell (p := ⟨B, 0, none⟩) (by rw [hB]; exact Nat.le_refl _) (.slice a6 z.length c6)
                have HS3 := Lib.hid ((HST5.out.ext (Ext.refl w5).drew).next x6 r6)
                clear r6
                go_wp2_with fail
                refine ⟨⟨k + 1, z, a6, _, c6, by omega, by omega, by go_num, by omega, HW1.out, HD2.out, HS3.out, hXT, hXU⟩, by simp [intOf]; omega⟩
          · have hA := Lib.hid (HA.out L _ s q wr HST.out.rf (by omega) hwf)
            rw [drops_acc HDR.out] at hA
            have HSM := Lib.hid (fun w' u v (h1 : RF Any 3 srcE w' u L) (h2 : RF Any 3 srcE w' v L) => (decide_eq_true (rfl : L = L)) ▸ sameTP_any L L u v w' h1 h2)
            have hn1 := HST.out.1
            have HN1 := Lib.hid hn1
            have hend : ¬ ((k : Int) < n) ∨ (((k : Int) < n) ∧ ¬ ((k : Int) < 100)) := by omega
            clear hwf hn1
            rcases hend with hend | ⟨hend, hend2⟩
            all_goals
              go_wp2_with fail
              refine hA.out.mono ?_
              rintro e w6 ⟨a6, c6, he, x6, r6⟩
              rw [← HN1.out] at he r6
              subst he
              have b6 : w6.cell? ⟨B, 0, none⟩ = some (.slice a n1 c) := x6.cell b0
              have hB6 : B < w6.heap.size := x6.lt hBl
              have HR1 := Lib.hid ((HST.out.rf.ext x6).ext ((Ext.refl w6).alloc (.cells #[.slice a6 n1 c6] 28)))
              have HR2 := Lib.hid ((r6.any (by omega)).ext ((Ext.refl w6).alloc (.cells #[.slice a6 n1 c6] 28)))
              clear r6
              go_wp2_with fail
              refine (HSM.out _ _ _ HR1.out HR2.out).mono ?_
              rintro e w7 ⟨rfl, x7⟩
              go_wp2_with fail
              go_ret
              exact ⟨rfl, ((hx.trans x6).alloc _).trans x7⟩
end Go.Proofs.Ytdnoejdhphpieaa
