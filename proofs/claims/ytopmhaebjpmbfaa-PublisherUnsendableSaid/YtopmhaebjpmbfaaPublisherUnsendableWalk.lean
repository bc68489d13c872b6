/- The walk of the statement PublisherUnsendable. -/
import Derived.Test.YtopmhaebjpmbfaaPubK
import Derived.Test.YtopmhaebjpmbfaaPubL
import Derived.Test.YtopmhaebjpmbfaaPubS
namespace Go.Proofs.Ytopmhaebjpmbfaa
open Go.RowKit
attribute [local go_sem ↓] Go.wp_at_zero Go.wp_at_succ

theorem vals_ok (n : Int) : vErr (valsOf n) = 0 ∧ (valsOf n).length ≤ 24 := by
  unfold valsOf
  split
  · decide +kernel
  · split <;> decide +kernel
theorem chk_nine (n : Int) : chk ⟨9, n, ⟨#[]⟩, 0, 0, 0⟩ = 10 := by unfold chk; simp
theorem uns_step (s : PSt) (v : Val) (hd : dueS s [v] = 1) (hc : chk v ≠ 0) (hg : 1 ≤ s.first ∧ s.first ≤ 1000) (hp : 0 ≤ s.pub ∧ s.pub ≤ 999) (hr : 0 ≤ s.rev ∧ s.rev ≤ 4294967295) (hs : 0 ≤ s.state ∧ s.state ≤ 1000) : stepS s [v] 0 0 0 = (s, []) := by
  unfold stepS
  rw [if_neg (by omega), if_pos hd]
  unfold sendS
  rw [if_neg]
  have hb := bnd_in (n := s.first) (by omega) (by omega)
  have hst : 1 ≤ (changeS s [v] 0 0 0).state ∧ (changeS s [v] 0 0 0).state ≤ 2000 := by unfold changeS; simp only; split <;> omega
  unfold chkM curS
  simp only [show (changeS s [v] 0 0 0).gap = s.first from rfl, show (changeS s [v] 0 0 0).pub = s.pub from rfl, show (changeS s [v] 0 0 0).rev = s.rev from rfl, show (changeS s [v] 0 0 0).seq = 0 from rfl, show (changeS s [v] 0 0 0).vals = [v] from rfl, show (changeS s [v] 0 0 0).sec = 0 from rfl, show (changeS s [v] 0 0 0).frac = 0 from rfl, show (changeS s [v] 0 0 0).qual = 0 from rfl, hb]
  rw [if_neg (by omega), if_neg (by omega), if_neg (by decide), if_neg (by simp)]
  simp only [vErr, if_neg hc]
  exact hc
set_option maxRecDepth 100000 in
set_option maxHeartbeats 16000000 in
theorem unsendable_walk (x y n : Int) (w : World) : Calls Try.prog 6 #[.int .i64 x, .int .i64 y, .int .i64 n] w fun e w' => e = .returned (.bool true) ∧ Ext w w' := by
  have HK := Lib.hid (known13_any w)
  have HMD := Lib.hid (fun w1 => made_any x y w1)
  have HV := Lib.hid (fun w1 => values_any (n.tmod 3) w1)
  obtain ⟨f1, f2, f3, f4⟩ := made_le x y
  generalize fst13 x = F at *
  generalize max13 x y = M at *
  obtain ⟨hL1, hL2⟩ := vals_ok (n.tmod 3)
  generalize valsOf (n.tmod 3) = L at *
  have hG0 : Good 7 9 0 (newS 7 F M 9) := Good.new f1 f3 f4
  have hm0 : Mod (newS 7 F M 9) := ⟨by unfold newS; simp only; omega, by unfold newS; simp only; omega, by unfold newS; simp only; omega⟩
  have S1 := Lib.hid (fun w1 v u (h : RF Any 6 valE w1 v []) (h2 : RF Any 6 valE w1 u [⟨9, n, ⟨#[]⟩, 0, 0, 0⟩]) => step_any (newS 7 F M 9) [⟨9, n, ⟨#[]⟩, 0, 0, 0⟩] 0 0 0 v u w1 h h2 (by simp [newS]) (by simp) hm0)
  rw [uns_step _ _ rfl (by rw [chk_nine]; omega) ⟨f1, by unfold newS; simp only; omega⟩ (by unfold newS; simp only; omega) (by unfold newS; simp only; omega) (by unfold newS; simp only; omega)] at S1
  have S2 := Lib.hid (fun w1 v u (h : RF Any 6 valE w1 v []) (h2 : RF Any 6 valE w1 u L) => step_any (newS 7 F M 9) L 0 0 0 v u w1 h h2 (by simp [newS]) (by omega) hm0)
  obtain ⟨e2, hG2⟩ := step_change (p := 7) (r := 9) (N := 0) (a := 0) (b := 0) (c := 0) (l := L) (by omega) (by omega) (by omega) hG0 (by rfl) hL1 hL2 (by rfl)
  rw [e2] at S2
  simp only [newS, Int.zero_add] at S2 hG2 S1
  have hm2 : Mod ⟨7, F, M, 9, true, 1, 0, 0, F, 0, 0, 0, L⟩ := ⟨by simp only; omega, by simp only; omega, by simp only; omega⟩
  have hne : ([⟨1, 2, ⟨#[]⟩, 0, 0, 0⟩] : List Val) ≠ L := by
    intro e
    rw [← e] at hL1
    revert hL1
    decide +kernel
  have S3 := Lib.hid (fun w1 v u (h : RF Any 6 valE w1 v L) (h2 : RF Any 6 valE w1 u [⟨1, 2, ⟨#[]⟩, 0, 0, 0⟩]) => step_any ⟨7, F, M, 9, true, 1, 0, 0, F, 0, 0, 0, L⟩ [⟨1, 2, ⟨#[]⟩, 0, 0, 0⟩] 0 0 0 v u w1 h h2 (by simp only; omega) (by simp) hm2)
  rw [uns_step _ _ (by unfold dueS; rw [if_pos (.inr hne)]) (by decide +kernel) (by simp only; omega) (by simp only; omega) (by simp only; omega) (by simp only; omega)] at S3
  clear hG0 hm0 e2 hG2 hm2 hne hL1
  have HSa := Lib.hid (fun v v' w1 h h' => sameP_eq ⟨7, F, M, 9, false, 0, 0, 0, 0, 0, 0, 0, []⟩ v v' w1 h h')
  have HSb := Lib.hid (fun v v' w1 h h' => sameP_eq ⟨7, F, M, 9, true, 1, 0, 0, F, 0, 0, 0, L⟩ v v' w1 h h')
  simp only at HSa HSb
  generalize hnL : L.length = nL at *
  have HL1 := Lib.hid hnL
  clear hnL
  go_enter Try.func6, Try.ntmps6
  go_wp2_with fail
  refine HK.out.mono ?_
  rintro e w1 ⟨rfl, x1⟩
  go_wp2_with fail
  refine (HMD.out _).mono ?_
  rintro e w2 ⟨rfl, x2⟩
  simp only [newS]
  have X2 := x1.trans x2
  go_wp2_with fail
  have bS := (Bk.new w2 #[.int .i64 7, .int .i64 F, .int .i64 M, .int .i64 9, .bool false, .int .i64 0, .int .i64 0, .int .i64 0, .int .i64 0, .int .i64 0, .int .i64 0, .int .i64 0, .slice none 0 0] 28 w2.heap.size rfl).alloc (.cells #[.int .i64 9, .int .i64 n, .string ⟨#[]⟩, .int .i64 0, .int .i64 0, .int .i64 0] 47)
  have X3 := (X2.alloc (.cells #[.int .i64 7, .int .i64 F, .int .i64 M, .int .i64 9, .bool false, .int .i64 0, .int .i64 0, .int .i64 0, .int .i64 0, .int .i64 0, .int .i64 0, .int .i64 0, .slice none 0 0] 28)).alloc (.cells #[.int .i64 9, .int .i64 n, .string ⟨#[]⟩, .int .i64 0, .int .i64 0, .int .i64 0] 47)
  have hv9 : RF Any 6 valE ((w2.alloc (.cells #[.int .i64 7, .int .i64 F, .int .i64 M, .int .i64 9, .bool false, .int .i64 0, .int .i64 0, .int .i64 0, .int .i64 0, .int .i64 0, .int .i64 0, .int .i64 0, .slice none 0 0] 28)).alloc (.cells #[.int .i64 9, .int .i64 n, .string ⟨#[]⟩, .int .i64 0, .int .i64 0, .int .i64 0] 47)) (.slice (some ⟨w2.heap.size + 1, 0, none⟩) 1 1) [⟨9, n, ⟨#[]⟩, 0, 0, 0⟩] := by
    have := RF.of_own (V := Any) (l := [(⟨9, n, ⟨#[]⟩, 0, 0, 0⟩ : Val)]) (enc := valE) (k := 6) valE_len (World.ownsRow_lit (base := 0) (e := 47) (w2.alloc (.cells #[.int .i64 7, .int .i64 F, .int .i64 M, .int .i64 9, .bool false, .int .i64 0, .int .i64 0, .int .i64 0, .int .i64 0, .int .i64 0, .int .i64 0, .int .i64 0, .slice none 0 0] 28)) #[.int .i64 9, .int .i64 n, .string ⟨#[]⟩, .int .i64 0, .int .i64 0, .int .i64 0] 1 (Nat.zero_le _) (by unfold maxLen; omega) rfl) (fun _ h => h.elim)
    simpa using this
  refine (S1.out _ _ _ (RF.nil _ _ _ _) hv9).mono ?_
  generalize (w2.alloc (.cells #[.int .i64 7, .int .i64 F, .int .i64 M, .int .i64 9, .bool false, .int .i64 0, .int .i64 0, .int .i64 0, .int .i64 0, .int .i64 0, .int .i64 0, .int .i64 0, .slice none 0 0] 28)).alloc (.cells #[.int .i64 9, .int .i64 n, .string ⟨#[]⟩, .int .i64 0, .int .i64 0, .int .i64 0] 47) = W3 at *
  rintro e w4 ⟨a1, c1, a2, c2, he, x4, r4, _⟩
  simp only [List.length_nil] at he r4
  subst he
  have hc1 : c1 ≤ maxLen := by obtain ⟨_, _, e, _, h, _⟩ := r4; simp only [Value.slice.injEq] at e; omega
  have bS4 := bS.ext x4
  have X4 := X3.trans x4
  generalize w2.heap.size = Bs at *
  clear hv9 x4 X3 bS r4 X2 x1 x2 S1
  go_upto_region 5 with fail
  have bS5 := bS4.alloc (.cells #[.int .i64 7, .int .i64 F, .int .i64 M, .int .i64 9, .bool false, .int .i64 0, .int .i64 0, .int .i64 0, .int .i64 0, .int .i64 0, .int .i64 0, .int .i64 0, .slice a1 0 c1] 28)
  have bT5 := Bk.new w4 #[.int .i64 7, .int .i64 F, .int .i64 M, .int .i64 9, .bool false, .int .i64 0, .int .i64 0, .int .i64 0, .int .i64 0, .int .i64 0, .int .i64 0, .int .i64 0, .slice a1 0 c1] 28 w4.heap.size rfl
  have X5 := X4.alloc (.cells #[.int .i64 7, .int .i64 F, .int .i64 M, .int .i64 9, .bool false, .int .i64 0, .int .i64 0, .int .i64 0, .int .i64 0, .int .i64 0, .int .i64 0, .int .i64 0, .slice a1 0 c1] 28)
  have hne5 : Bs < w4.heap.size := bS4.lt
  generalize w4.alloc (.cells #[.int .i64 7, .int .i64 F, .int .i64 M, .int .i64 9, .bool false, .int .i64 0, .int .i64 0, .int .i64 0, .int .i64 0, .int .i64 0, .int .i64 0, .int .i64 0, .slice a1 0 c1] 28) = wr at *
  generalize w4.heap.size = B at *
  clear bS4 X4
  have q0 := bT5.cell
  have HBA := Lib.hid (fun w' (he : Ext wr w') => bT5.ext he)
  have HBC := Lib.hid (fun w' (he : Ext wr w') => (bT5.ext he).cell)
  have HSs := Lib.hid bS5
  have HX := Lib.hid X5
  have lB0 := bT5.lt
  clear bT5 bS5 X5
  go_cut [10, 11] (fun t m wx => ∃ (tb : Nat) (a5 : Option Addr) (c5 : Nat) (a6 : Option Addr) (c6 : Nat), t = .pointer (some ⟨tb, 0, none⟩) ∧ m = .slice a6 1 c6 ∧ Aft wr wx B tb #[.int .i64 7, .int .i64 F, .int .i64 M, .int .i64 9, .bool false, .int .i64 0, .int .i64 0, .int .i64 0, .int .i64 0, .int .i64 0, .int .i64 0, .int .i64 0, .slice a1 0 c1] ⟨7, F, M, 9, true, 1, 0, 0, F, 0, 0, 0, L⟩ [⟨7, 3 * F + 1, 0, 0, 0, 1, 0, false, 9, L⟩] a5 c5 a6 c6)
  case first =>
    go_region_held3 (fun w' => ∀ j, w'.cell? ⟨B, j, none⟩ = (#[.int .i64 7, .int .i64 F, .int .i64 M, .int .i64 9, .bool false, .int .i64 0, .int .i64 0, .int .i64 0, .int .i64 0, .int .i64 0, .int .i64 0, .int .i64 0, .slice a1 0 c1] : Array Value)[j]?)
      (first | (with_reducible exact q0) | (exact HBC.out _ (by first | (with_reducible exact (Ext.refl wr).drew) | (with_reducible exact ((Ext.refl wr).alloc _).drew) | (with_reducible exact (Ext.refl wr).drew.alloc _) | (with_reducible exact E4) | (with_reducible exact E4.alloc _) | (with_reducible exact E5) | (with_reducible exact E5.alloc _) | (with_reducible exact (Ext.refl wr)))) | (intro j; (repeat rw [World.cell?_setCell_other _ _ _ _ (by first | (simp; done) | (simp; omega))]); with_reducible exact HBC.out _ E5 j) | fail)
      (first
        | (go_at_call 18; (with_reducible refine (HV.out _).mono ?_); rintro e w4 ⟨a4, c4, he, x4, r4⟩; rw [HL1.out] at he r4; subst he; have E4 : Ext wr w4 := Ext.trans (by first | (with_reducible exact (Ext.refl wr).drew) | (with_reducible exact ((Ext.refl wr).alloc _).drew) | (with_reducible exact (Ext.refl wr).drew.alloc _)) x4; have lB4 : B < w4.heap.size := E4.lt lB0; (first | (with_reducible have T4 := Lib.hid ((Bk.new wr #[.int .i64 0, .int .i64 0, .int .i64 0, .int .i64 0, .bool false, .int .i64 0, .int .i64 0, .int .i64 0, .int .i64 0, .int .i64 0, .int .i64 0, .int .i64 0, .slice none 0 0] 28 wr.heap.size rfl).drew.ext x4)) | (with_reducible have T4 := Lib.hid ((Bk.new wr.drew #[.int .i64 0, .int .i64 0, .int .i64 0, .int .i64 0, .bool false, .int .i64 0, .int .i64 0, .int .i64 0, .int .i64 0, .int .i64 0, .int .i64 0, .int .i64 0, .slice none 0 0] 28 wr.heap.size rfl).ext x4)) | (have T4 := Lib.hid True.intro)); have Ha4 := Lib.hid (fun w' (he : Ext w4 w') => (r4.ext he).weak (by omega) (V' := Any) (fun _ _ h => h.elim)); clear r4)
        | (go_at_call 17; (with_reducible refine (S2.out _ _ _ (RF_empty hc1) (Ha4.out _ (by first | (with_reducible exact Ext.refl w4) | (with_reducible exact (Ext.refl w4).alloc _)))).mono ?_); rintro e w5 ⟨a5, c5, a6, c6, he, x5, r5, m5⟩; simp only [HL1.out, List.length_cons, List.length_nil, Nat.zero_add] at he; subst he; have E5 : Ext wr w5 := Ext.trans (by first | (with_reducible exact E4) | (with_reducible exact E4.alloc _)) x5; (first | (with_reducible have T5 := Lib.hid ((Bk.new w4 #[.int .i64 0, .int .i64 0, .int .i64 0, .int .i64 0, .bool false, .int .i64 0, .int .i64 0, .int .i64 0, .int .i64 0, .int .i64 0, .int .i64 0, .int .i64 0, .slice none 0 0] 28 w4.heap.size rfl).ext x5)) | (with_reducible have T5 := Lib.hid (T4.out.ext x5)) | (have T5 := Lib.hid True.intro)); (try have t1 := T5.out.cell); (try have t2 := T5.out.frozen))
        | fail)
    all_goals
      first
        | (with_reducible have hA0 := aft_put (n := ⟨7, F, M, 9, true, 1, 0, 0, F, 0, 0, 0, L⟩) (E4.alloc (.cells #[.int .i64 0, .int .i64 0, .int .i64 0, .int .i64 0, .bool false, .int .i64 0, .int .i64 0, .int .i64 0, .int .i64 0, .int .i64 0, .int .i64 0, .int .i64 0, .slice none 0 0] 28)) x5 (HBA.out _ (E4.alloc _)) (Bk.new w4 #[.int .i64 0, .int .i64 0, .int .i64 0, .int .i64 0, .bool false, .int .i64 0, .int .i64 0, .int .i64 0, .int .i64 0, .int .i64 0, .int .i64 0, .int .i64 0, .slice none 0 0] 28 w4.heap.size rfl) rfl (by omega) E4.size r5 m5
           have hA : Aft wr (put w5 w4.heap.size 0 [.int .i64 7, .int .i64 F, .int .i64 M, .int .i64 9, .bool true, .int .i64 1, .int .i64 0, .int .i64 0, .int .i64 F, .int .i64 0, .int .i64 0, .int .i64 0, .slice a5 nL c5]) B w4.heap.size #[.int .i64 7, .int .i64 F, .int .i64 M, .int .i64 9, .bool false, .int .i64 0, .int .i64 0, .int .i64 0, .int .i64 0, .int .i64 0, .int .i64 0, .int .i64 0, .slice a1 0 c1] ⟨7, F, M, 9, true, 1, 0, 0, F, 0, 0, 0, L⟩ [⟨7, 3 * F + 1, 0, 0, 0, 1, 0, false, 9, L⟩] a5 c5 a6 c6 := by simpa only [HL1.out] using hA0
           clear hA0
           change Exit.then _ _ _ _ (put w5 w4.heap.size 0 [.int .i64 7, .int .i64 F, .int .i64 M, .int .i64 9, .bool true, .int .i64 1, .int .i64 0, .int .i64 0, .int .i64 F, .int .i64 0, .int .i64 0, .int .i64 0, .slice a5 nL c5])
           generalize put w5 w4.heap.size 0 [.int .i64 7, .int .i64 F, .int .i64 M, .int .i64 9, .bool true, .int .i64 1, .int .i64 0, .int .i64 0, .int .i64 F, .int .i64 0, .int .i64 0, .int .i64 0, .slice a5 nL c5] = w6 at *
           have HA := Lib.hid hA
           clear hA
           go_wp2_with fail
           go_meet
           exact ⟨w4.heap.size, a5, c5, a6, c6, rfl, rfl, HA.out⟩)
        | (with_reducible have hA0 := aft_put (n := ⟨7, F, M, 9, true, 1, 0, 0, F, 0, 0, 0, L⟩) E4 x5 (HBA.out _ E4) T4.out rfl (by omega) (Nat.le_refl _) r5 m5
           have hA : Aft wr (put w5 wr.heap.size 0 [.int .i64 7, .int .i64 F, .int .i64 M, .int .i64 9, .bool true, .int .i64 1, .int .i64 0, .int .i64 0, .int .i64 F, .int .i64 0, .int .i64 0, .int .i64 0, .slice a5 nL c5]) B wr.heap.size #[.int .i64 7, .int .i64 F, .int .i64 M, .int .i64 9, .bool false, .int .i64 0, .int .i64 0, .int .i64 0, .int .i64 0, .int .i64 0, .int .i64 0, .int .i64 0, .slice a1 0 c1] ⟨7, F, M, 9, true, 1, 0, 0, F, 0, 0, 0, L⟩ [⟨7, 3 * F + 1, 0, 0, 0, 1, 0, false, 9, L⟩] a5 c5 a6 c6 := by simpa only [HL1.out] using hA0
           clear hA0
           change Exit.then _ _ _ _ (put w5 wr.heap.size 0 [.int .i64 7, .int .i64 F, .int .i64 M, .int .i64 9, .bool true, .int .i64 1, .int .i64 0, .int .i64 0, .int .i64 F, .int .i64 0, .int .i64 0, .int .i64 0, .slice a5 nL c5])
           generalize put w5 wr.heap.size 0 [.int .i64 7, .int .i64 F, .int .i64 M, .int .i64 9, .bool true, .int .i64 1, .int .i64 0, .int .i64 0, .int .i64 F, .int .i64 0, .int .i64 0, .int .i64 0, .slice a5 nL c5] = w6 at *
           have HA := Lib.hid hA
           clear hA
           go_wp2_with fail
           go_meet
           exact ⟨wr.heap.size, a5, c5, a6, c6, rfl, rfl, HA.out⟩)
        | (have hA0 := aft_new (n := ⟨7, F, M, 9, true, 1, 0, 0, F, 0, 0, 0, L⟩) E4 x5 (HBA.out _ E4) r5 m5
           have hA : Aft wr (w5.alloc (.cells #[.int .i64 7, .int .i64 F, .int .i64 M, .int .i64 9, .bool true, .int .i64 1, .int .i64 0, .int .i64 0, .int .i64 F, .int .i64 0, .int .i64 0, .int .i64 0, .slice a5 nL c5] 28)) B w5.heap.size #[.int .i64 7, .int .i64 F, .int .i64 M, .int .i64 9, .bool false, .int .i64 0, .int .i64 0, .int .i64 0, .int .i64 0, .int .i64 0, .int .i64 0, .int .i64 0, .slice a1 0 c1] ⟨7, F, M, 9, true, 1, 0, 0, F, 0, 0, 0, L⟩ [⟨7, 3 * F + 1, 0, 0, 0, 1, 0, false, 9, L⟩] a5 c5 a6 c6 := by simpa only [HL1.out] using hA0
           clear hA0
           generalize w5.alloc (.cells #[.int .i64 7, .int .i64 F, .int .i64 M, .int .i64 9, .bool true, .int .i64 1, .int .i64 0, .int .i64 0, .int .i64 F, .int .i64 0, .int .i64 0, .int .i64 0, .slice a5 nL c5] 28) = w6 at *
           have HA := Lib.hid hA
           clear hA
           go_wp2_with fail
           go_meet
           exact ⟨w5.heap.size, a5, c5, a6, c6, rfl, rfl, HA.out⟩)
  case rest =>
    obtain ⟨tb, a5, c5, a6, c6, rfl, rfl, hT, hS, hne2, hR5, hM5, hx5⟩ := hcut
    simp only [HL1.out] at hT hR5
    obtain ⟨mb, mo, mc, ma, mc', hv, _, g0, g1, g2, g3, g4, g5, g6, g7, g8, g9, _⟩ := msg_get hM5
    simp only [Value.slice.injEq, List.length_cons, List.length_nil, Nat.zero_add] at hv
    obtain ⟨rfl, -, rfl⟩ := hv
    simp only at g5 g6
    have HT := Lib.hid hT
    have HSb2 := Lib.hid hS
    have HSs2 := Lib.hid (HSs.out.ext hx5)
    have HX5 := Lib.hid (HX.out.trans hx5)
    have HRu := Lib.hid (hR5.weak (by omega) (V' := Any) (fun _ _ h => h.elim))
    have qu := hT.cell
    have G5 := Lib.hid g5
    have G6 := Lib.hid g6
    clear g0 g1 g2 g3 g4 g5 g6 g7 g8 g9 hT hS hM5 hx5 q0 HBA HBC HSs HX S2 HV hR5
    go_wp2_with fail
    have hv1 : RF Any 6 valE (wc.alloc (.cells #[.int .i64 1, .int .i64 2, .string ⟨#[]⟩, .int .i64 0, .int .i64 0, .int .i64 0] 47)) (.slice (some ⟨wc.heap.size, 0, none⟩) 1 1) [⟨1, 2, ⟨#[]⟩, 0, 0, 0⟩] := by
      have := RF.of_own (V := Any) (l := [(⟨1, 2, ⟨#[]⟩, 0, 0, 0⟩ : Val)]) (enc := valE) (k := 6) valE_len (World.ownsRow_lit (base := 0) (e := 47) wc #[.int .i64 1, .int .i64 2, .string ⟨#[]⟩, .int .i64 0, .int .i64 0, .int .i64 0] 1 (Nat.zero_le _) (by unfold maxLen; omega) rfl) (fun _ h => h.elim)
      simpa using this
    have EW : Ext wc (wc.alloc (.cells #[.int .i64 1, .int .i64 2, .string ⟨#[]⟩, .int .i64 0, .int .i64 0, .int .i64 0] 47)) := (Ext.refl wc).alloc _
    refine (S3.out _ _ _ (HRu.out.ext EW) hv1).mono ?_
    generalize wc.alloc (.cells #[.int .i64 1, .int .i64 2, .string ⟨#[]⟩, .int .i64 0, .int .i64 0, .int .i64 0] 47) = W6 at *
    rintro e w7 ⟨a7, c7, a8, c8, he, x7, r7, _⟩
    simp only [HL1.out, List.length_nil] at he r7
    subst he
    have E7 := EW.trans x7
    clear hv1 x7 EW
    go_upto_region 7 with fail
    have E8 := E7.alloc (.cells #[.int .i64 7, .int .i64 F, .int .i64 M, .int .i64 9, .bool true, .int .i64 1, .int .i64 0, .int .i64 0, .int .i64 F, .int .i64 0, .int .i64 0, .int .i64 0, .slice a7 nL c7] 28)
    have bV := Bk.new w7 #[.int .i64 7, .int .i64 F, .int .i64 M, .int .i64 9, .bool true, .int .i64 1, .int .i64 0, .int .i64 0, .int .i64 F, .int .i64 0, .int .i64 0, .int .i64 0, .slice a7 nL c7] 28 w7.heap.size rfl
    have rV := (r7.ext ((Ext.refl w7).alloc (.cells #[.int .i64 7, .int .i64 F, .int .i64 M, .int .i64 9, .bool true, .int .i64 1, .int .i64 0, .int .i64 0, .int .i64 F, .int .i64 0, .int .i64 0, .int .i64 0, .slice a7 nL c7] 28))).weak (by omega) (V' := Any) (fun _ _ h => h.elim)
    generalize w7.alloc (.cells #[.int .i64 7, .int .i64 F, .int .i64 M, .int .i64 9, .bool true, .int .i64 1, .int .i64 0, .int .i64 0, .int .i64 F, .int .i64 0, .int .i64 0, .int .i64 0, .slice a7 nL c7] 28) = w8 at *
    generalize w7.heap.size = bv at *
    have qs := (HSs2.out.ext E8).cell
    have qt := (HSb2.out.ext E8).cell
    clear qu E7 r7
    have HbV := Lib.hid bV
    have HrV := Lib.hid rV
    have HE8 := Lib.hid E8
    clear bV rV E8
    go_wp2_with fail
    refine (HSa.out _ _ _ (RF.nil _ _ _ _) (RF_empty hc1)).mono ?_
    rintro e w9 ⟨rfl, x9⟩
    have E9 := HE8.out.trans x9
    have g5 := E9.cell G5.out
    have g6 := E9.cell G6.out
    have qu := (HT.out.ext E9).cell
    have qv := (HbV.out.ext x9).cell
    have HRu9 := Lib.hid (HRu.out.ext E9)
    have HrV9 := Lib.hid (HrV.out.ext x9)
    have HX9 := Lib.hid (HX5.out.trans E9)
    clear qs qt x9 E9
    go_wp2_with fail
    refine (HSb.out _ _ _ HRu9.out HrV9.out).mono ?_
    rintro e w10 ⟨rfl, x10⟩
    go_wp2_with fail
    go_ret
    exact ⟨rfl, HX9.out.trans x10⟩
end Go.Proofs.Ytopmhaebjpmbfaa
