/- Contract of accept of the reference: layer 14. -/
import Derived.Test.YtopmhaebjpmbfaaRefB
import Derived.Test.YtopmhaebjpmbfaaMsgA
import Derived.Deep.DeepCutAuto
namespace Go.Proofs.Ytopmhaebjpmbfaa
open Go.RowKit
attribute [local go_sem ↓] Go.wp_at_zero Go.wp_at_succ
theorem info_rvalB : (Try.prog.info? 105).map (fun i => (i.zero, i.size, i.bytes)) = some (some (.agg #[.int .i64 0, .int .i64 0, .string ⟨#[]⟩, .int .i64 0, .int .i64 0, .int .i64 0]), 6, 56) := by kernel_rfl
set_option maxRecDepth 100000 in
set_option maxHeartbeats 8000000 in
theorem acceptR_any (s : SSt) (m : Msg) (a : Option Addr) (n c : Nat) (u : Value) (k : Int) (w : World) (hu : RF Any 6 valE w u m.vals) (hl : m.vals.length ≤ 1000000000) (h1 : 0 ≤ s.lost) (h2 : s.lost ≤ 1000000) (h3 : -10000000000 ≤ k) (h4 : k ≤ 10000000000) : Calls Try.prog 61 #[subA s (.slice a n c), msgA m u, .int .i64 k] w (RetS w (accS s m k)) := by
  obtain ⟨i0, hi0, hz0, hz1, hz2⟩ := info_parts info_rvalB
  obtain ⟨am, cm, rfl, hc1, hc2⟩ := hu.form
  have HSRC := Lib.hid (fun w1 (he : Ext w w1) => ((hu.ext he).src (by omega) valE_one).2)
  have HF : Hid (∀ w' a' c', Ext w w' → RF (Old w) 6 valE w' (.slice a' m.vals.length c') m.vals → RetS w (accS s m k) (.returned (.agg #[.int .i64 s.pub, .int .i64 s.rev, .bool true, .int .i64 m.state, .int .i64 m.seq, .int .i64 m.ttl, .int .i64 (raiseS s.lost k), .bool m.test, .slice a' m.vals.length c'])) w') := fun w' a' c' he hr => ⟨a', c', rfl, he, hr⟩
  have HO : Hid (∀ (B : Nat) (w1 : World) (A1 : Option Addr) (c1 : Nat), w1.ownsRow B 105 6 (.slice A1 m.vals.length c1) m.vals.length (m.vals.flatMap valE) → RF (fun g => g < B) 6 valE w1 (.slice A1 m.vals.length c1) m.vals) := fun B w1 A1 c1 ho => RF.of_own valE_len ho (fun _ h => h)
  obtain ⟨r7, hr7⟩ : ∃ r7, raiseS s.lost k = r7 := ⟨_, rfl⟩
  rw [hr7] at HF
  generalize hss : RetS w (accS s m k) = R at *
  clear hss hu
  obtain ⟨s1, s2, s3, s4, s5, s6, s7, s8, vs⟩ := s
  obtain ⟨m1, m2, m3, m4, m5, m6, m7, m8, m9, vm⟩ := m
  simp only at *
  generalize vm.flatMap valE = ms at *
  generalize hn : vm.length = nm at *
  clear hn
  have B0 := Lib.hid (((Bk.new w #[.int .i64 s1, .int .i64 s2, .bool s3, .int .i64 s4, .int .i64 s5, .int .i64 s6, .int .i64 s7, .bool s8, .slice a n c] 67 w.heap.size rfl).alloc (.cells #[.int .i64 m1, .int .i64 m2, .int .i64 m3, .int .i64 m4, .int .i64 m5, .int .i64 m6, .int .i64 m7, .bool m8, .int .i64 m9, .slice am nm cm] 58)).alloc (.cells #[.int .i64 0, .int .i64 0, .bool false, .int .i64 0, .int .i64 0, .int .i64 0, .int .i64 0, .bool false, .slice none 0 0] 67))
  have BM := Lib.hid ((Bk.new (w.alloc (.cells #[.int .i64 s1, .int .i64 s2, .bool s3, .int .i64 s4, .int .i64 s5, .int .i64 s6, .int .i64 s7, .bool s8, .slice a n c] 67)) #[.int .i64 m1, .int .i64 m2, .int .i64 m3, .int .i64 m4, .int .i64 m5, .int .i64 m6, .int .i64 m7, .bool m8, .int .i64 m9, .slice am nm cm] 58 (w.heap.size + 1) (by simp)).alloc (.cells #[.int .i64 0, .int .i64 0, .bool false, .int .i64 0, .int .i64 0, .int .i64 0, .int .i64 0, .bool false, .slice none 0 0] 67))
  have BR := Lib.hid (Bk.new ((w.alloc (.cells #[.int .i64 s1, .int .i64 s2, .bool s3, .int .i64 s4, .int .i64 s5, .int .i64 s6, .int .i64 s7, .bool s8, .slice a n c] 67)).alloc (.cells #[.int .i64 m1, .int .i64 m2, .int .i64 m3, .int .i64 m4, .int .i64 m5, .int .i64 m6, .int .i64 m7, .bool m8, .int .i64 m9, .slice am nm cm] 58)) #[.int .i64 0, .int .i64 0, .bool false, .int .i64 0, .int .i64 0, .int .i64 0, .int .i64 0, .bool false, .slice none 0 0] 67 (w.heap.size + 1 + 1) (by simp))
  have X0 := Lib.hid ((((Ext.refl w).alloc (.cells #[.int .i64 s1, .int .i64 s2, .bool s3, .int .i64 s4, .int .i64 s5, .int .i64 s6, .int .i64 s7, .bool s8, .slice a n c] 67)).alloc (.cells #[.int .i64 m1, .int .i64 m2, .int .i64 m3, .int .i64 m4, .int .i64 m5, .int .i64 m6, .int .i64 m7, .bool m8, .int .i64 m9, .slice am nm cm] 58)).alloc (.cells #[.int .i64 0, .int .i64 0, .bool false, .int .i64 0, .int .i64 0, .int .i64 0, .int .i64 0, .bool false, .slice none 0 0] 67))
  have HR7 := Lib.hid hr7
  have H12 := Lib.hid (And.intro (And.intro h1 h2) (And.intro h3 h4))
  clear hr7 h1 h2 h3 h4

  go_enter Try.func61, Try.ntmps61
  go_upto_region 1 with fail
  generalize ((w.alloc (.cells #[.int .i64 s1, .int .i64 s2, .bool s3, .int .i64 s4, .int .i64 s5, .int .i64 s6, .int .i64 s7, .bool s8, .slice a n c] 67)).alloc (.cells #[.int .i64 m1, .int .i64 m2, .int .i64 m3, .int .i64 m4, .int .i64 m5, .int .i64 m6, .int .i64 m7, .bool m8, .int .i64 m9, .slice am nm cm] 58)).alloc (.cells #[.int .i64 0, .int .i64 0, .bool false, .int .i64 0, .int .i64 0, .int .i64 0, .int .i64 0, .bool false, .slice none 0 0] 67) = W at *
  have q0 : ∀ j, W.cell? ⟨w.heap.size, j, none⟩ = (#[.int .i64 s1, .int .i64 s2, .bool s3, .int .i64 s4, .int .i64 s5, .int .i64 s6, .int .i64 s7, .bool s8, .slice a n c] : Array Value)[j]? := B0.out.cell
  have f0 := B0.out.frozen
  have qm : ∀ j, W.cell? ⟨w.heap.size + 1, j, none⟩ = (#[.int .i64 m1, .int .i64 m2, .int .i64 m3, .int .i64 m4, .int .i64 m5, .int .i64 m6, .int .i64 m7, .bool m8, .int .i64 m9, .slice am nm cm] : Array Value)[j]? := BM.out.cell
  go_region
  have B1 := Lib.hid (show Bk ((((((W.setCell ⟨w.heap.size, 2, none⟩ (.bool true)).setCell ⟨w.heap.size, 3, none⟩ (.int .i64 m6)).setCell ⟨w.heap.size, 4, none⟩ (.int .i64 m7)).setCell ⟨w.heap.size, 7, none⟩ (.bool m8)).setCell ⟨w.heap.size, 5, none⟩ (.int .i64 m2)).drew) (w.heap.size) 67 #[.int .i64 s1, .int .i64 s2, .bool true, .int .i64 m6, .int .i64 m7, .int .i64 m2, .int .i64 s7, .bool m8, .slice a n c] from ((((((B0.out).setCell 2 (.bool true)).setCell 3 (.int .i64 m6)).setCell 4 (.int .i64 m7)).setCell 7 (.bool m8)).setCell 5 (.int .i64 m2)).drew)
  have M1 := Lib.hid ((((((BM.out).setOther (show w.heap.size ≠ w.heap.size + 1 by omega) 2 (.bool true)).setOther (show w.heap.size ≠ w.heap.size + 1 by omega) 3 (.int .i64 m6)).setOther (show w.heap.size ≠ w.heap.size + 1 by omega) 4 (.int .i64 m7)).setOther (show w.heap.size ≠ w.heap.size + 1 by omega) 7 (.bool m8)).setOther (show w.heap.size ≠ w.heap.size + 1 by omega) 5 (.int .i64 m2)).drew
  have R1 := Lib.hid ((((((BR.out).setOther (show w.heap.size ≠ w.heap.size + 1 + 1 by omega) 2 (.bool true)).setOther (show w.heap.size ≠ w.heap.size + 1 + 1 by omega) 3 (.int .i64 m6)).setOther (show w.heap.size ≠ w.heap.size + 1 + 1 by omega) 4 (.int .i64 m7)).setOther (show w.heap.size ≠ w.heap.size + 1 + 1 by omega) 7 (.bool m8)).setOther (show w.heap.size ≠ w.heap.size + 1 + 1 by omega) 5 (.int .i64 m2)).drew
  have X1 := Lib.hid ((((((X0.out).setCell (p := ⟨w.heap.size, 2, none⟩) (Nat.le_refl _) (.bool true)).setCell (p := ⟨w.heap.size, 3, none⟩) (Nat.le_refl _) (.int .i64 m6)).setCell (p := ⟨w.heap.size, 4, none⟩) (Nat.le_refl _) (.int .i64 m7)).setCell (p := ⟨w.heap.size, 7, none⟩) (Nat.le_refl _) (.bool m8)).setCell (p := ⟨w.heap.size, 5, none⟩) (Nat.le_refl _) (.int .i64 m2)).drew
  clear q0 f0 qm B0 BM BR X0
  generalize (((((W.setCell ⟨w.heap.size, 2, none⟩ (.bool true)).setCell ⟨w.heap.size, 3, none⟩ (.int .i64 m6)).setCell ⟨w.heap.size, 4, none⟩ (.int .i64 m7)).setCell ⟨w.heap.size, 7, none⟩ (.bool m8)).setCell ⟨w.heap.size, 5, none⟩ (.int .i64 m2)).drew = w2 at *
  have qm : ∀ j, w2.cell? ⟨w.heap.size + 1, j, none⟩ = (#[.int .i64 m1, .int .i64 m2, .int .i64 m3, .int .i64 m4, .int .i64 m5, .int .i64 m6, .int .i64 m7, .bool m8, .int .i64 m9, .slice am nm cm] : Array Value)[j]? := M1.out.cell
  have HS := Lib.hid (HSRC.out _ (X1.out.alloc (.cells #[] 105)))
  have HL0 := Lib.hid (World.ownsRow_lit (base := w2.heap.size) (e := 105) (size := 6) w2 #[] 0 (Nat.le_refl _) (by unfold maxLen; omega) rfl)
  have q8 := M1.out.alloc (.cells #[] 105)
  have q9 : ∀ j, (w2.alloc (.cells #[] 105)).cell? ⟨w.heap.size + 1, j, none⟩ = (#[.int .i64 m1, .int .i64 m2, .int .i64 m3, .int .i64 m4, .int .i64 m5, .int .i64 m6, .int .i64 m7, .bool m8, .int .i64 m9, .slice am nm cm] : Array Value)[j]? := q8.cell
  have B1e := Lib.hid (fun w3 (x : Ext w2 w3) => B1.out.ext x)
  have f1 : ∀ w3, Ext w2 w3 → ∀ j, w3.frozen? ⟨w.heap.size, j, none⟩ = false := fun w3 x j => (B1.out.ext x).frozen j
  have FZ := Lib.hid f1
  clear q8 f1
  go_upto_region 3 with (at_builtin; refine wpList_append_src _ rfl (.tmp 20) (.tmp 22) _ rfl w2.heap.size 105 i0 _ 6 56 Try.underlying56 hi0 hz0 hz1 hz2 rfl (by omega) _ 0 [] rfl HL0.out _ nm cm _ rfl HS.out (by unfold maxLen; omega) (by omega) (by simp) ?_; intro A1 c1 w3 hown1 hg1 hat1; have hE1 : Ext w2 w3 := ((Ext.refl w2).alloc _).grown hg1 (fun g hg => (HL0.out.lt g hg).1); simp only [Nat.zero_add, List.nil_append] at hown1 hat1; have f3 := FZ.out w3 hE1; have c3 := (B1e.out w3 hE1).cell)
  have hbs : w.heap.size + 1 + 1 < w2.heap.size := R1.out.lt
  have B2 := Lib.hid (show Bk (w3.setCell ⟨w.heap.size, 8, none⟩ (.slice A1 nm c1)) (w.heap.size) 67 #[.int .i64 s1, .int .i64 s2, .bool true, .int .i64 m6, .int .i64 m7, .int .i64 m2, .int .i64 s7, .bool m8, .slice A1 nm c1] from (B1.out.ext hE1).setCell 8 (.slice A1 nm c1))
  have R2 := Lib.hid ((R1.out.ext hE1).setOther (show w.heap.size ≠ w.heap.size + 1 + 1 by omega) 8 (.slice A1 nm c1))
  have X2 := Lib.hid ((X1.out.trans hE1).setCell (p := ⟨w.heap.size, 8, none⟩) (Nat.le_refl _) (.slice A1 nm c1))
  have V2 := Lib.hid ((HO.out _ _ _ _ hown1).agree (agree_setCell (V := fun g => g < w2.heap.size) (p := ⟨w.heap.size, 8, none⟩) (show w.heap.size < w2.heap.size by omega) (.slice A1 nm c1)))
  clear hown1 hg1 hat1 f3 c3 q9 qm
  generalize w3.setCell ⟨w.heap.size, 8, none⟩ (.slice A1 nm c1) = w4 at *
  have q2 : ∀ j, w4.cell? ⟨w.heap.size, j, none⟩ = (#[.int .i64 s1, .int .i64 s2, .bool true, .int .i64 m6, .int .i64 m7, .int .i64 m2, .int .i64 s7, .bool m8, .slice A1 nm c1] : Array Value)[j]? := B2.out.cell
  have f2 := B2.out.frozen
  obtain ⟨⟨h1, h2⟩, h3, h4⟩ := H12.out
  have hr7 := HR7.out
  unfold raiseS at hr7
  have HBS := Lib.hid hbs
  clear hbs
  by_cases hlo : 1000000 ≤ s7
  · rw [if_pos (.inl hlo)] at hr7
    subst hr7
    have e0 : decide (s7 < 1000000) = false := by simpa using hlo
    clear hlo h1 h2 h3 h4
    go_upto_region 6 with fail
    have B3 := Lib.hid (show Bk (w4.setCell ⟨w.heap.size, 6, none⟩ (.int .i64 1000000)) (w.heap.size) 67 #[.int .i64 s1, .int .i64 s2, .bool true, .int .i64 m6, .int .i64 m7, .int .i64 m2, .int .i64 1000000, .bool m8, .slice A1 nm c1] from B2.out.setCell 6 (.int .i64 1000000))
    have R3 := Lib.hid (R2.out.setOther (show w.heap.size ≠ w.heap.size + 1 + 1 by omega) 6 (.int .i64 1000000))
    have X3 := Lib.hid (X2.out.setCell (p := ⟨w.heap.size, 6, none⟩) (Nat.le_refl _) (.int .i64 1000000))
    have V3 := Lib.hid (V2.out.agree (agree_setCell (V := fun g => g < w2.heap.size) (p := ⟨w.heap.size, 6, none⟩) (show w.heap.size < w2.heap.size by have := HBS.out; omega) (.int .i64 1000000)))
    clear q2 f2
    generalize w4.setCell ⟨w.heap.size, 6, none⟩ (.int .i64 1000000) = w5 at *
    have q3 : ∀ j, w5.cell? ⟨w.heap.size, j, none⟩ = (#[.int .i64 s1, .int .i64 s2, .bool true, .int .i64 m6, .int .i64 m7, .int .i64 m2, .int .i64 1000000, .bool m8, .slice A1 nm c1] : Array Value)[j]? := B3.out.cell
    have q4 : ∀ j, w5.cell? ⟨w.heap.size + 1 + 1, j, none⟩ = (#[.int .i64 0, .int .i64 0, .bool false, .int .i64 0, .int .i64 0, .int .i64 0, .int .i64 0, .bool false, .slice none 0 0] : Array Value)[j]? := R3.out.cell
    have f4 := R3.out.frozen
    go_wp2_with fail
    change bodyPost _ _ _ _ _ (put w5 (w.heap.size + 1 + 1) 0 [.int .i64 s1, .int .i64 s2, .bool true, .int .i64 m6, .int .i64 m7, .int .i64 m2, .int .i64 1000000, .bool m8, .slice A1 nm c1])
    have C6 := put_all (vs := [.int .i64 s1, .int .i64 s2, .bool true, .int .i64 m6, .int .i64 m7, .int .i64 m2, .int .i64 1000000, .bool m8, .slice A1 nm c1]) R3.out rfl
    have X6 := put_ext (a := w) (show w.heap.size ≤ w.heap.size + 1 + 1 by omega) [.int .i64 s1, .int .i64 s2, .bool true, .int .i64 m6, .int .i64 m7, .int .i64 m2, .int .i64 1000000, .bool m8, .slice A1 nm c1] 0 _ X3.out
    have V6 := (V3.out.agree (agree_put (V := fun g => g < w2.heap.size) (B := w.heap.size + 1 + 1) (show w.heap.size + 1 + 1 < w2.heap.size from HBS.out) [.int .i64 s1, .int .i64 s2, .bool true, .int .i64 m6, .int .i64 m7, .int .i64 m2, .int .i64 1000000, .bool m8, .slice A1 nm c1] 0 w5)).weak (by omega) (V' := Old w) (fun g _ hg => by have h := X1.out.size; exact Nat.lt_of_lt_of_le hg h)
    generalize put w5 (w.heap.size + 1 + 1) 0 [.int .i64 s1, .int .i64 s2, .bool true, .int .i64 m6, .int .i64 m7, .int .i64 m2, .int .i64 1000000, .bool m8, .slice A1 nm c1] = w6 at *
    have c6 := C6.cell
    exact bodyPost_ret (v := .agg #[.int .i64 s1, .int .i64 s2, .bool true, .int .i64 m6, .int .i64 m7, .int .i64 m2, .int .i64 1000000, .bool m8, .slice A1 nm c1]) (by simp [results, Try.results61, go_sem, c6]) rfl (HF.out _ _ _ X6 V6)
  · have e0 : decide (s7 < 1000000) = true := by simpa using (show s7 < 1000000 by omega)
    have ew : IntKind.i64.wrap (s7 + k) = s7 + k := IntWalk.i64_in _ (by omega)
    obtain ⟨x, hx⟩ : ∃ x, s7 + k = x := ⟨_, rfl⟩
    rw [hx] at hr7 ew
    by_cases hx1 : 1000000 ≤ x
    · rw [if_pos (.inr hx1)] at hr7
      subst hr7
      have e1 : decide (1000000 ≤ x) = true := by simpa using hx1
      have hif : (if (1000000 : Int) < x then (1000000 : Int) else x) = 1000000 := by split <;> omega
      have HIF := Lib.hid hif
      clear hlo h1 h2 h3 h4 hx1 hif
      go_upto_region 6 with fail
      rw [HIF.out]
      
      have B3 := Lib.hid (show Bk (w4.setCell ⟨w.heap.size, 6, none⟩ (.int .i64 1000000)) (w.heap.size) 67 #[.int .i64 s1, .int .i64 s2, .bool true, .int .i64 m6, .int .i64 m7, .int .i64 m2, .int .i64 1000000, .bool m8, .slice A1 nm c1] from B2.out.setCell 6 (.int .i64 1000000))
      have R3 := Lib.hid (R2.out.setOther (show w.heap.size ≠ w.heap.size + 1 + 1 by omega) 6 (.int .i64 1000000))
      have X3 := Lib.hid (X2.out.setCell (p := ⟨w.heap.size, 6, none⟩) (Nat.le_refl _) (.int .i64 1000000))
      have V3 := Lib.hid (V2.out.agree (agree_setCell (V := fun g => g < w2.heap.size) (p := ⟨w.heap.size, 6, none⟩) (show w.heap.size < w2.heap.size by have := HBS.out; omega) (.int .i64 1000000)))
      clear q2 f2
      generalize w4.setCell ⟨w.heap.size, 6, none⟩ (.int .i64 1000000) = w5 at *
      have q3 : ∀ j, w5.cell? ⟨w.heap.size, j, none⟩ = (#[.int .i64 s1, .int .i64 s2, .bool true, .int .i64 m6, .int .i64 m7, .int .i64 m2, .int .i64 1000000, .bool m8, .slice A1 nm c1] : Array Value)[j]? := B3.out.cell
      have q4 : ∀ j, w5.cell? ⟨w.heap.size + 1 + 1, j, none⟩ = (#[.int .i64 0, .int .i64 0, .bool false, .int .i64 0, .int .i64 0, .int .i64 0, .int .i64 0, .bool false, .slice none 0 0] : Array Value)[j]? := R3.out.cell
      have f4 := R3.out.frozen
      go_wp2_with fail
      change bodyPost _ _ _ _ _ (put w5 (w.heap.size + 1 + 1) 0 [.int .i64 s1, .int .i64 s2, .bool true, .int .i64 m6, .int .i64 m7, .int .i64 m2, .int .i64 1000000, .bool m8, .slice A1 nm c1])
      have C6 := put_all (vs := [.int .i64 s1, .int .i64 s2, .bool true, .int .i64 m6, .int .i64 m7, .int .i64 m2, .int .i64 1000000, .bool m8, .slice A1 nm c1]) R3.out rfl
      have X6 := put_ext (a := w) (show w.heap.size ≤ w.heap.size + 1 + 1 by omega) [.int .i64 s1, .int .i64 s2, .bool true, .int .i64 m6, .int .i64 m7, .int .i64 m2, .int .i64 1000000, .bool m8, .slice A1 nm c1] 0 _ X3.out
      have V6 := (V3.out.agree (agree_put (V := fun g => g < w2.heap.size) (B := w.heap.size + 1 + 1) (show w.heap.size + 1 + 1 < w2.heap.size from HBS.out) [.int .i64 s1, .int .i64 s2, .bool true, .int .i64 m6, .int .i64 m7, .int .i64 m2, .int .i64 1000000, .bool m8, .slice A1 nm c1] 0 w5)).weak (by omega) (V' := Old w) (fun g _ hg => by have h := X1.out.size; exact Nat.lt_of_lt_of_le hg h)
      generalize put w5 (w.heap.size + 1 + 1) 0 [.int .i64 s1, .int .i64 s2, .bool true, .int .i64 m6, .int .i64 m7, .int .i64 m2, .int .i64 1000000, .bool m8, .slice A1 nm c1] = w6 at *
      have c6 := C6.cell
      exact bodyPost_ret (v := .agg #[.int .i64 s1, .int .i64 s2, .bool true, .int .i64 m6, .int .i64 m7, .int .i64 m2, .int .i64 1000000, .bool m8, .slice A1 nm c1]) (by simp [results, Try.results61, go_sem, c6]) rfl (HF.out _ _ _ X6 V6)
    · rw [if_neg (by omega)] at hr7
      subst hr7
      have e1 : decide (1000000 ≤ x) = false := by simpa using hx1
      have e2 : decide (x < 1000000) = true := by simpa using (show x < 1000000 by omega)
      have e3 : decide (1000000 < x) = false := by simpa using (show x ≤ 1000000 by omega)
      have hif : (if (1000000 : Int) < x then (1000000 : Int) else x) = x := by split <;> omega
      have HIF := Lib.hid hif
      clear hlo h1 h2 h3 h4 hx1 hif
      go_upto_region 6 with fail
      rw [HIF.out]
      
      have B3 := Lib.hid (show Bk (w4.setCell ⟨w.heap.size, 6, none⟩ (.int .i64 x)) (w.heap.size) 67 #[.int .i64 s1, .int .i64 s2, .bool true, .int .i64 m6, .int .i64 m7, .int .i64 m2, .int .i64 x, .bool m8, .slice A1 nm c1] from B2.out.setCell 6 (.int .i64 x))
      have R3 := Lib.hid (R2.out.setOther (show w.heap.size ≠ w.heap.size + 1 + 1 by omega) 6 (.int .i64 x))
      have X3 := Lib.hid (X2.out.setCell (p := ⟨w.heap.size, 6, none⟩) (Nat.le_refl _) (.int .i64 x))
      have V3 := Lib.hid (V2.out.agree (agree_setCell (V := fun g => g < w2.heap.size) (p := ⟨w.heap.size, 6, none⟩) (show w.heap.size < w2.heap.size by have := HBS.out; omega) (.int .i64 x)))
      clear q2 f2
      generalize w4.setCell ⟨w.heap.size, 6, none⟩ (.int .i64 x) = w5 at *
      have q3 : ∀ j, w5.cell? ⟨w.heap.size, j, none⟩ = (#[.int .i64 s1, .int .i64 s2, .bool true, .int .i64 m6, .int .i64 m7, .int .i64 m2, .int .i64 x, .bool m8, .slice A1 nm c1] : Array Value)[j]? := B3.out.cell
      have q4 : ∀ j, w5.cell? ⟨w.heap.size + 1 + 1, j, none⟩ = (#[.int .i64 0, .int .i64 0, .bool false, .int .i64 0, .int .i64 0, .int .i64 0, .int .i64 0, .bool false, .slice none 0 0] : Array Value)[j]? := R3.out.cell
      have f4 := R3.out.frozen
      go_wp2_with fail
      change bodyPost _ _ _ _ _ (put w5 (w.heap.size + 1 + 1) 0 [.int .i64 s1, .int .i64 s2, .bool true, .int .i64 m6, .int .i64 m7, .int .i64 m2, .int .i64 x, .bool m8, .slice A1 nm c1])
      have C6 := put_all (vs := [.int .i64 s1, .int .i64 s2, .bool true, .int .i64 m6, .int .i64 m7, .int .i64 m2, .int .i64 x, .bool m8, .slice A1 nm c1]) R3.out rfl
      have X6 := put_ext (a := w) (show w.heap.size ≤ w.heap.size + 1 + 1 by omega) [.int .i64 s1, .int .i64 s2, .bool true, .int .i64 m6, .int .i64 m7, .int .i64 m2, .int .i64 x, .bool m8, .slice A1 nm c1] 0 _ X3.out
      have V6 := (V3.out.agree (agree_put (V := fun g => g < w2.heap.size) (B := w.heap.size + 1 + 1) (show w.heap.size + 1 + 1 < w2.heap.size from HBS.out) [.int .i64 s1, .int .i64 s2, .bool true, .int .i64 m6, .int .i64 m7, .int .i64 m2, .int .i64 x, .bool m8, .slice A1 nm c1] 0 w5)).weak (by omega) (V' := Old w) (fun g _ hg => by have h := X1.out.size; exact Nat.lt_of_lt_of_le hg h)
      generalize put w5 (w.heap.size + 1 + 1) 0 [.int .i64 s1, .int .i64 s2, .bool true, .int .i64 m6, .int .i64 m7, .int .i64 m2, .int .i64 x, .bool m8, .slice A1 nm c1] = w6 at *
      have c6 := C6.cell
      exact bodyPost_ret (v := .agg #[.int .i64 s1, .int .i64 s2, .bool true, .int .i64 m6, .int .i64 m7, .int .i64 m2, .int .i64 x, .bool m8, .slice A1 nm c1]) (by simp [results, Try.results61, go_sem, c6]) rfl (HF.out _ _ _ X6 V6)
end Go.Proofs.Ytopmhaebjpmbfaa
