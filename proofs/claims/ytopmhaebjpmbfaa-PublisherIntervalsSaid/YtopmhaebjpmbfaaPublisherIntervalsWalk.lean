/- The walk of the statement PublisherIntervals. -/
import Derived.Test.YtopmhaebjpmbfaaPubK
import Derived.Test.YtopmhaebjpmbfaaPubL
namespace Go.Proofs.Ytopmhaebjpmbfaa
open Go.RowKit
attribute [local go_sem ↓] Go.wp_at_zero Go.wp_at_succ

/-- What the law's own numbers are after k steps. -/
def Jrel (F M : Int) (k : Nat) (s : PSt) (g si sq : Int) : Prop :=
  Good 7 9 k s ∧ s.first = F ∧ s.max = M ∧ ((k = 0 ∧ s = newS 7 F M 9 ∧ g = F ∧ si = 0 ∧ sq = 0) ∨ (1 ≤ k ∧ s.started = true ∧ s.vals = V2 ∧ s.state = 1 ∧ s.sec = 0 ∧ s.frac = 0 ∧ s.qual = 0 ∧ g = s.gap ∧ si = s.since ∧ sq = s.seq))
theorem neq_stamp0 (w : World) : (binOp .neq 25 (.agg #[.int .i64 0, .int .i64 0, .int .i64 0]) (.agg #[.int .i64 0, .int .i64 0, .int .i64 0])).run Try.prog w = .ok (.bool false) w := by
  rw [run_neq_struct, show (10000 : Nat) = 9998 + 1 + 1 from rfl, equal_stamp]
  rfl
theorem V2_ok : vErr V2 = 0 ∧ V2.length = 1 := by decide +kernel

set_option maxRecDepth 100000 in
set_option maxHeartbeats 16000000 in
theorem intervals_walk (x y n : Int) (w : World) : Calls Try.prog 5 #[.int .i64 x, .int .i64 y, .int .i64 n] w fun e w' => e = .returned (.bool true) ∧ Ext w w' := by
  have HK := Lib.hid (known13_any w)
  have HMD := Lib.hid (fun w1 => made_any x y w1)
  have HW := Lib.hid (fun w1 => within13_any n 3000 w1 (by omega) (by omega))
  have HV := Lib.hid (fun w1 => values_any 2 w1)
  obtain ⟨f1, f2, f3, f4⟩ := made_le x y
  generalize fst13 x = F at *
  generalize max13 x y = M at *
  obtain ⟨Q, hQ⟩ : ∃ Q : Nat, n % 3000 = Q := ⟨(n % 3000).toNat, by omega⟩
  have hQ2 : Q < 3000 := by omega
  rw [hQ] at HW
  clear hQ
  rw [show valsOf 2 = V2 by decide +kernel] at HV
  go_enter Try.func5, Try.ntmps5
  go_wp2_with fail
  refine HK.out.mono ?_
  rintro e w1 ⟨rfl, x1⟩
  go_wp2_with fail
  refine (HMD.out _).mono ?_
  rintro e w2 ⟨rfl, x2⟩
  simp only [newS]
  have X2 := x1.trans x2
  have HB := Lib.hid X2.size
  go_wp2_with fail
  have B2 := Bk.new w2 #[.int .i64 7, .int .i64 F, .int .i64 M, .int .i64 9, .bool false, .int .i64 0, .int .i64 0, .int .i64 0, .int .i64 0, .int .i64 0, .int .i64 0, .int .i64 0, .slice none 0 0] 28 w2.heap.size rfl
  have X3 := X2.alloc (.cells #[.int .i64 7, .int .i64 F, .int .i64 M, .int .i64 9, .bool false, .int .i64 0, .int .i64 0, .int .i64 0, .int .i64 0, .int .i64 0, .int .i64 0, .int .i64 0, .slice none 0 0] 28)
  generalize w2.alloc (.cells #[.int .i64 7, .int .i64 F, .int .i64 M, .int .i64 9, .bool false, .int .i64 0, .int .i64 0, .int .i64 0, .int .i64 0, .int .i64 0, .int .i64 0, .int .i64 0, .slice none 0 0] 28) = W at *
  generalize w2.heap.size = B at *
  clear X2 x1 x2 HK HMD
  go_loopw [8, 9, 10, 11] (fun g si sq i wr => ∃ (k : Nat) (s : PSt) (zg zi zq : Int) (a : Option Addr) (c : Nat), k ≤ Q + 1 ∧ i = .int .i64 k ∧ g = .int .i64 zg ∧ si = .int .i64 zi ∧ sq = .int .i64 zq ∧ Jrel F M k s zg zi zq ∧ Bk wr B 28 (pubC s (.slice a s.vals.length c)) ∧ RF (· = B) 6 valE wr (.slice a s.vals.length c) s.vals ∧ Ext w wr) (fun _ _ _ i _ => Q + 1 - (intOf i).toNat)
  case atStart => exact ⟨0, newS 7 F M 9, F, 0, 0, none, 0, by omega, rfl, rfl, rfl, rfl, ⟨Good.new f1 f3 f4, rfl, rfl, .inl ⟨rfl, rfl, rfl, rfl, rfl⟩⟩, B2, RF.nil _ _ _ _, X3⟩
  case round =>
    obtain ⟨k, s, zg, zi, zq, a0, c0, hk, rfl, rfl, rfl, rfl, hJ, hBk, hR, hx⟩ := hrel
    clear B2 X3
    by_cases hlt : k ≤ Q
    · obtain ⟨hG, hF, hM, hJ⟩ := hJ
      obtain ⟨hb1, hb2, hb3, hb4⟩ := hG.bnd
      have hmod : Mod s := by
        have h0 : 0 ≤ s.state ∧ s.state ≤ 3000 ∧ 0 ≤ s.seq ∧ s.seq ≤ 3000 := by
          cases hs : s.started
          · have := hG.off hs; omega
          · have := hG.on hs; omega
        exact ⟨by omega, by omega, by omega⟩
      have hvl := hG.vl
      have HS := Lib.hid (fun w1 v u (h : RF Any 6 valE w1 v s.vals) (h2 : RF Any 6 valE w1 u V2) => step_any s V2 k 0 0 v u w1 h h2 (by omega) (by rw [V2_ok.2]; omega) hmod)
      have hst : stErr (k : Int) 0 0 = 0 := by unfold stErr; rw [if_neg (by omega)]
      have hkQ : (k : Int) ≤ Q := by omega
      have hki : 0 ≤ (k : Int) := by omega
      rcases hJ with ⟨rfl, rfl, rfl, rfl, rfl⟩ | ⟨hk1, hs, hv, h6, h10, h11, h12, rfl, rfl, rfl⟩
      · simp only [show ((0 : Nat) : Int) = 0 from rfl] at HS hG ⊢
        obtain ⟨e1, hG1⟩ := step_change (p := 7) (r := 9) (N := 0) (a := 0) (b := 0) (c := 0) (l := V2) (by omega) (by omega) (by omega) hG (by rfl) V2_ok.1 (by rw [V2_ok.2]; omega) (by rfl)
        rw [e1] at HS
        simp only [newS, Int.zero_add] at HS hG1
        have HG1 : Hid (Jrel zg M 1 ⟨7, zg, M, 9, true, 1, 0, 0, zg, 0, 0, 0, V2⟩ zg 0 0) := ⟨hG1, rfl, rfl, .inr ⟨by omega, rfl, rfl, rfl, rfl, rfl, rfl, rfl, rfl, rfl⟩⟩
        clear hG hG1 e1 hmod
        have hl1 := V2_ok.2
        simp only [newS, List.length_nil] at hR hBk
        have HL1 := Lib.hid hl1
        generalize V2 = V at *
        clear hl1 hvl
        have q0 := hBk.cell
        have HBA := Lib.hid (fun w' (he : Ext wr w') => hBk.ext he)
        have HBC := Lib.hid (fun w' (he : Ext wr w') => (hBk.ext he).cell)
        have HRA := Lib.hid (fun w' (he : Ext wr w') => (hR.ext he).weak (by omega) (V' := Any) (fun _ _ h => h.elim))
        have HX := Lib.hid hx
        have lB0 := hBk.lt
        clear hBk hR hx
        go_upto_region 8 with ((go_at_call 16; (with_reducible refine (HW.out _).mono ?_); rintro e wq ⟨rfl, rfl⟩))
        go_cut [12, 13] (fun t m wx => ∃ (tb : Nat) (a5 : Option Addr) (c5 : Nat) (a6 : Option Addr) (c6 : Nat), t = .pointer (some ⟨tb, 0, none⟩) ∧ m = .slice a6 1 c6 ∧ Aft w wx B tb #[.int .i64 7, .int .i64 zg, .int .i64 M, .int .i64 9, .bool false, .int .i64 0, .int .i64 0, .int .i64 0, .int .i64 0, .int .i64 0, .int .i64 0, .int .i64 0, .slice a0 0 c0] ⟨7, zg, M, 9, true, 1, 0, 0, zg, 0, 0, 0, V⟩ [⟨7, 3 * zg + 1, 0, 0, 0, 1, 0, false, 9, V⟩] a5 c5 a6 c6)
        case first =>
          go_region_held3 (fun w' => ∀ j, w'.cell? ⟨B, j, none⟩ = (#[.int .i64 7, .int .i64 zg, .int .i64 M, .int .i64 9, .bool false, .int .i64 0, .int .i64 0, .int .i64 0, .int .i64 0, .int .i64 0, .int .i64 0, .int .i64 0, .slice a0 0 c0] : Array Value)[j]?)
            (first | (with_reducible exact q0) | (exact HBC.out _ (by first | (with_reducible exact (Ext.refl wr).drew) | (with_reducible exact ((Ext.refl wr).alloc _).drew) | (with_reducible exact (Ext.refl wr).drew.alloc _) | (with_reducible exact E4) | (with_reducible exact E4.alloc _) | (with_reducible exact E5) | (with_reducible exact E5.alloc _) | (with_reducible exact (Ext.refl wr)))) | (intro j; (repeat rw [World.cell?_setCell_other _ _ _ _ (by first | (simp; done) | (simp; omega))]); with_reducible exact HBC.out _ E5 j) | fail)
            (first
              | (go_at_call 18; (with_reducible refine (HV.out _).mono ?_); rintro e w4 ⟨a4, c4, he, x4, r4⟩; rw [HL1.out] at he r4; subst he; have E4 : Ext wr w4 := Ext.trans (by first | (with_reducible exact (Ext.refl wr).drew) | (with_reducible exact ((Ext.refl wr).alloc _).drew) | (with_reducible exact (Ext.refl wr).drew.alloc _)) x4; have lB4 : B < w4.heap.size := E4.lt lB0; (first | (with_reducible have T4 := Lib.hid ((Bk.new wr #[.int .i64 0, .int .i64 0, .int .i64 0, .int .i64 0, .bool false, .int .i64 0, .int .i64 0, .int .i64 0, .int .i64 0, .int .i64 0, .int .i64 0, .int .i64 0, .slice none 0 0] 28 wr.heap.size rfl).drew.ext x4)) | (with_reducible have T4 := Lib.hid ((Bk.new wr.drew #[.int .i64 0, .int .i64 0, .int .i64 0, .int .i64 0, .bool false, .int .i64 0, .int .i64 0, .int .i64 0, .int .i64 0, .int .i64 0, .int .i64 0, .int .i64 0, .slice none 0 0] 28 wr.heap.size rfl).ext x4)) | (have T4 := Lib.hid True.intro)); have Ha4 := Lib.hid (fun w' (he : Ext w4 w') => (r4.ext he).weak (by omega) (V' := Any) (fun _ _ h => h.elim)); clear r4)
              | (go_at_call 17; (with_reducible refine (HS.out _ _ _ (HRA.out _ (by first | (with_reducible exact E4) | (with_reducible exact E4.alloc _))) (Ha4.out _ (by first | (with_reducible exact Ext.refl w4) | (with_reducible exact (Ext.refl w4).alloc _)))).mono ?_); rintro e w5 ⟨a5, c5, a6, c6, he, x5, r5, m5⟩; simp only [HL1.out, List.length_cons, List.length_nil, Nat.zero_add] at he; subst he; have E5 : Ext wr w5 := Ext.trans (by first | (with_reducible exact E4) | (with_reducible exact E4.alloc _)) x5; (first | (with_reducible have T5 := Lib.hid ((Bk.new w4 #[.int .i64 0, .int .i64 0, .int .i64 0, .int .i64 0, .bool false, .int .i64 0, .int .i64 0, .int .i64 0, .int .i64 0, .int .i64 0, .int .i64 0, .int .i64 0, .slice none 0 0] 28 w4.heap.size rfl).ext x5)) | (with_reducible have T5 := Lib.hid (T4.out.ext x5)) | (have T5 := Lib.hid True.intro)); (try have t1 := T5.out.cell); (try have t2 := T5.out.frozen))
              | fail)
          all_goals
            first
              | (with_reducible have hA0 := aft_put (n := ⟨7, zg, M, 9, true, 1, 0, 0, zg, 0, 0, 0, V⟩) (HX.out.trans (E4.alloc (.cells #[.int .i64 0, .int .i64 0, .int .i64 0, .int .i64 0, .bool false, .int .i64 0, .int .i64 0, .int .i64 0, .int .i64 0, .int .i64 0, .int .i64 0, .int .i64 0, .slice none 0 0] 28))) x5 (HBA.out _ (E4.alloc _)) (Bk.new w4 #[.int .i64 0, .int .i64 0, .int .i64 0, .int .i64 0, .bool false, .int .i64 0, .int .i64 0, .int .i64 0, .int .i64 0, .int .i64 0, .int .i64 0, .int .i64 0, .slice none 0 0] 28 w4.heap.size rfl) rfl (by omega) ((HX.out.trans E4).size) r5 m5
                 have hA : Aft w (put w5 w4.heap.size 0 [.int .i64 7, .int .i64 zg, .int .i64 M, .int .i64 9, .bool true, .int .i64 1, .int .i64 0, .int .i64 0, .int .i64 zg, .int .i64 0, .int .i64 0, .int .i64 0, .slice a5 1 c5]) B w4.heap.size #[.int .i64 7, .int .i64 zg, .int .i64 M, .int .i64 9, .bool false, .int .i64 0, .int .i64 0, .int .i64 0, .int .i64 0, .int .i64 0, .int .i64 0, .int .i64 0, .slice a0 0 c0] ⟨7, zg, M, 9, true, 1, 0, 0, zg, 0, 0, 0, V⟩ [⟨7, 3 * zg + 1, 0, 0, 0, 1, 0, false, 9, V⟩] a5 c5 a6 c6 := by simpa only [HL1.out] using hA0
                 clear hA0
                 change Exit.then _ _ _ _ (put w5 w4.heap.size 0 [.int .i64 7, .int .i64 zg, .int .i64 M, .int .i64 9, .bool true, .int .i64 1, .int .i64 0, .int .i64 0, .int .i64 zg, .int .i64 0, .int .i64 0, .int .i64 0, .slice a5 1 c5])
                 generalize put w5 w4.heap.size 0 [.int .i64 7, .int .i64 zg, .int .i64 M, .int .i64 9, .bool true, .int .i64 1, .int .i64 0, .int .i64 0, .int .i64 zg, .int .i64 0, .int .i64 0, .int .i64 0, .slice a5 1 c5] = w6 at *
                 have HA := Lib.hid hA
                 clear hA
                 go_wp2_with fail
                 go_meet
                 exact ⟨w4.heap.size, a5, c5, a6, c6, rfl, rfl, HA.out⟩)
              | (with_reducible have hA0 := aft_put (n := ⟨7, zg, M, 9, true, 1, 0, 0, zg, 0, 0, 0, V⟩) (HX.out.trans E4) x5 (HBA.out _ E4) T4.out rfl (by omega) HX.out.size r5 m5
                 have hA : Aft w (put w5 wr.heap.size 0 [.int .i64 7, .int .i64 zg, .int .i64 M, .int .i64 9, .bool true, .int .i64 1, .int .i64 0, .int .i64 0, .int .i64 zg, .int .i64 0, .int .i64 0, .int .i64 0, .slice a5 1 c5]) B wr.heap.size #[.int .i64 7, .int .i64 zg, .int .i64 M, .int .i64 9, .bool false, .int .i64 0, .int .i64 0, .int .i64 0, .int .i64 0, .int .i64 0, .int .i64 0, .int .i64 0, .slice a0 0 c0] ⟨7, zg, M, 9, true, 1, 0, 0, zg, 0, 0, 0, V⟩ [⟨7, 3 * zg + 1, 0, 0, 0, 1, 0, false, 9, V⟩] a5 c5 a6 c6 := by simpa only [HL1.out] using hA0
                 clear hA0
                 change Exit.then _ _ _ _ (put w5 wr.heap.size 0 [.int .i64 7, .int .i64 zg, .int .i64 M, .int .i64 9, .bool true, .int .i64 1, .int .i64 0, .int .i64 0, .int .i64 zg, .int .i64 0, .int .i64 0, .int .i64 0, .slice a5 1 c5])
                 generalize put w5 wr.heap.size 0 [.int .i64 7, .int .i64 zg, .int .i64 M, .int .i64 9, .bool true, .int .i64 1, .int .i64 0, .int .i64 0, .int .i64 zg, .int .i64 0, .int .i64 0, .int .i64 0, .slice a5 1 c5] = w6 at *
                 have HA := Lib.hid hA
                 clear hA
                 go_wp2_with fail
                 go_meet
                 exact ⟨wr.heap.size, a5, c5, a6, c6, rfl, rfl, HA.out⟩)
              | (have hA0 := aft_new (n := ⟨7, zg, M, 9, true, 1, 0, 0, zg, 0, 0, 0, V⟩) (HX.out.trans E4) x5 (HBA.out _ E4) r5 m5
                 have hA : Aft w (w5.alloc (.cells #[.int .i64 7, .int .i64 zg, .int .i64 M, .int .i64 9, .bool true, .int .i64 1, .int .i64 0, .int .i64 0, .int .i64 zg, .int .i64 0, .int .i64 0, .int .i64 0, .slice a5 1 c5] 28)) B w5.heap.size #[.int .i64 7, .int .i64 zg, .int .i64 M, .int .i64 9, .bool false, .int .i64 0, .int .i64 0, .int .i64 0, .int .i64 0, .int .i64 0, .int .i64 0, .int .i64 0, .slice a0 0 c0] ⟨7, zg, M, 9, true, 1, 0, 0, zg, 0, 0, 0, V⟩ [⟨7, 3 * zg + 1, 0, 0, 0, 1, 0, false, 9, V⟩] a5 c5 a6 c6 := by simpa only [HL1.out] using hA0
                 clear hA0
                 generalize w5.alloc (.cells #[.int .i64 7, .int .i64 zg, .int .i64 M, .int .i64 9, .bool true, .int .i64 1, .int .i64 0, .int .i64 0, .int .i64 zg, .int .i64 0, .int .i64 0, .int .i64 0, .slice a5 1 c5] 28) = w6 at *
                 have HA := Lib.hid hA
                 clear hA
                 go_wp2_with fail
                 go_meet
                 exact ⟨w5.heap.size, a5, c5, a6, c6, rfl, rfl, HA.out⟩)
        case rest =>
          obtain ⟨tb, a5, c5, a6, c6, rfl, rfl, hT, hS, hne2, hR5, hM5, hx5⟩ := hcut
          simp only [HL1.out] at hT hR5
          have q0 := hS.cell
          have f0 := hS.frozen
          have q1 := hT.cell
          have HT := Lib.hid hT
          have HS5 := Lib.hid hS
          have HR5 := Lib.hid hR5
          have HM5 := Lib.hid hM5
          have HX5 := Lib.hid hx5
          clear hT hS hR5 hM5 hx5 HS HBA HBC HRA
          obtain ⟨mb, mo, mc, ma, mc', hv, _, g0, g1, g2, g3, g4, g5, g6, g7, g8, g9, _⟩ := msg_get HM5.out
          simp only [Value.slice.injEq, List.length_cons, List.length_nil, Nat.zero_add] at hv
          obtain ⟨rfl, -, rfl⟩ := hv
          simp only at g0 g1 g2 g3 g4 g5 g6 g7 g8
          clear g9 HM5
          have hn0 := fun w1 => neq_stamp0 w1
          go_upto_region 7 with fail
          change Code.wp _ _ _ _ (put wc B 0 [.int .i64 7, .int .i64 zg, .int .i64 M, .int .i64 9, .bool true, .int .i64 1, .int .i64 0, .int .i64 0, .int .i64 zg, .int .i64 0, .int .i64 0, .int .i64 0, .slice a5 1 c5])
          have C6 := Lib.hid (put_all (vs := [.int .i64 7, .int .i64 zg, .int .i64 M, .int .i64 9, .bool true, .int .i64 1, .int .i64 0, .int .i64 0, .int .i64 zg, .int .i64 0, .int .i64 0, .int .i64 0, .slice a5 1 c5]) HS5.out rfl)
          have HX6 := Lib.hid (put_ext (a := w) HB.out [.int .i64 7, .int .i64 zg, .int .i64 M, .int .i64 9, .bool true, .int .i64 1, .int .i64 0, .int .i64 0, .int .i64 zg, .int .i64 0, .int .i64 0, .int .i64 0, .slice a5 1 c5] 0 _ HX5.out)
          have HR6 := Lib.hid (HR5.out.agree (agree_put (V := (· = B)) rfl [.int .i64 7, .int .i64 zg, .int .i64 M, .int .i64 9, .bool true, .int .i64 1, .int .i64 0, .int .i64 0, .int .i64 zg, .int .i64 0, .int .i64 0, .int .i64 0, .slice a5 1 c5] 0 wc))
          clear q0 f0 q1
          generalize put wc B 0 [.int .i64 7, .int .i64 zg, .int .i64 M, .int .i64 9, .bool true, .int .i64 1, .int .i64 0, .int .i64 0, .int .i64 zg, .int .i64 0, .int .i64 0, .int .i64 0, .slice a5 1 c5] = w6 at *
          go_wp2_with fail
          go_roundw
          case rel => exact ⟨1, ⟨7, zg, M, 9, true, 1, 0, 0, zg, 0, 0, 0, V⟩, zg, 0, 0, a5, c5, by omega, by go_num, rfl, rfl, rfl, HG1.out, by simp only [HL1.out]; exact C6.out, by simp only [HL1.out]; exact HR6.out, HX6.out⟩
          case measure => simp [intOf] <;> omega
      · have hd := due_two hs (l := V2) hv.symm
        by_cases hdue : s.since + 1 = s.gap
        · rw [if_pos hdue] at hd
          obtain ⟨e1, hG1⟩ := step_repeat (a := k) (b := 0) (c := 0) (by omega) (by omega) (by omega) hG hd
          rw [e1] at HS
          have hgp : 1 ≤ min (2 * s.gap) s.max ∧ min (2 * s.gap) s.max ≤ 1000 := by have := hG.on hs; have := hG.f1; have := hG.f2; have := hG.f3; omega
          have hif : (if s.max < 2 * s.gap then s.max else 2 * s.gap) = min (2 * s.gap) s.max := by split <;> omega
          have hz7 : s.seq ≤ 3000 ∧ 0 ≤ s.seq := by have := hG.on hs; omega
          have HG1 : Hid (Jrel F M (k + 1) { s with seq := s.seq + 1, gap := min (2 * s.gap) s.max, since := 0 } (min (2 * s.gap) s.max) 0 (s.seq + 1)) := ⟨by have := hG1; simpa using this, hF, hM, .inr ⟨by omega, hs, hv, h6, h10, h11, h12, rfl, rfl, rfl⟩⟩
          clear hG hG1 e1 hd hmod
          have hde : (s.since + 1 == s.gap) = true := by simpa using hdue
          clear hdue
          obtain ⟨s1, s2, s3, s4, s5, s6, s7, s8, s9, s10, s11, s12, vs⟩ := s
          simp only at *
          subst hs hv h6 h10 h11 h12 hF hM
          generalize min (2 * s9) s3 = g' at *
          obtain ⟨hz7, hz70⟩ := hz7
          obtain ⟨hgp1, hgp2⟩ := hgp
          have hl1 := V2_ok.2
          rw [hl1] at hR hBk
          have HL1 := Lib.hid hl1
          generalize V2 = V at *
          clear hl1 hvl
          have q0 := hBk.cell
          have HBA := Lib.hid (fun w' (he : Ext wr w') => hBk.ext he)
          have HBC := Lib.hid (fun w' (he : Ext wr w') => (hBk.ext he).cell)
          have HRA := Lib.hid (fun w' (he : Ext wr w') => (hR.ext he).weak (by omega) (V' := Any) (fun _ _ h => h.elim))
          have HX := Lib.hid hx
          have lB0 := hBk.lt
          clear hBk hR hx
          go_upto_region 8 with ((go_at_call 16; (with_reducible refine (HW.out _).mono ?_); rintro e wq ⟨rfl, rfl⟩))
          go_cut [12, 13] (fun t m wx => ∃ (tb : Nat) (a5 : Option Addr) (c5 : Nat) (a6 : Option Addr) (c6 : Nat), t = .pointer (some ⟨tb, 0, none⟩) ∧ m = .slice a6 1 c6 ∧ Aft w wx B tb #[.int .i64 s1, .int .i64 s2, .int .i64 s3, .int .i64 s4, .bool true, .int .i64 1, .int .i64 s7, .int .i64 s8, .int .i64 s9, .int .i64 0, .int .i64 0, .int .i64 0, .slice a0 1 c0] ⟨s1, s2, s3, s4, true, 1, s7 + 1, 0, g', 0, 0, 0, V⟩ [⟨s1, 3 * g' + 1, 0, 0, 0, 1, s7 + 1, false, s4, V⟩] a5 c5 a6 c6)
          case first =>
            go_region_held3 (fun w' => ∀ j, w'.cell? ⟨B, j, none⟩ = (#[.int .i64 s1, .int .i64 s2, .int .i64 s3, .int .i64 s4, .bool true, .int .i64 1, .int .i64 s7, .int .i64 s8, .int .i64 s9, .int .i64 0, .int .i64 0, .int .i64 0, .slice a0 1 c0] : Array Value)[j]?)
              (first | (with_reducible exact q0) | (exact HBC.out _ (by first | (with_reducible exact (Ext.refl wr).drew) | (with_reducible exact ((Ext.refl wr).alloc _).drew) | (with_reducible exact (Ext.refl wr).drew.alloc _) | (with_reducible exact E4) | (with_reducible exact E4.alloc _) | (with_reducible exact E5) | (with_reducible exact E5.alloc _) | (with_reducible exact (Ext.refl wr)))) | (intro j; (repeat rw [World.cell?_setCell_other _ _ _ _ (by first | (simp; done) | (simp; omega))]); with_reducible exact HBC.out _ E5 j) | fail)
              (first
                | (go_at_call 18; (with_reducible refine (HV.out _).mono ?_); rintro e w4 ⟨a4, c4, he, x4, r4⟩; rw [HL1.out] at he r4; subst he; have E4 : Ext wr w4 := Ext.trans (by first | (with_reducible exact (Ext.refl wr).drew) | (with_reducible exact ((Ext.refl wr).alloc _).drew) | (with_reducible exact (Ext.refl wr).drew.alloc _)) x4; have lB4 : B < w4.heap.size := E4.lt lB0; (first | (with_reducible have T4 := Lib.hid ((Bk.new wr #[.int .i64 0, .int .i64 0, .int .i64 0, .int .i64 0, .bool false, .int .i64 0, .int .i64 0, .int .i64 0, .int .i64 0, .int .i64 0, .int .i64 0, .int .i64 0, .slice none 0 0] 28 wr.heap.size rfl).drew.ext x4)) | (with_reducible have T4 := Lib.hid ((Bk.new wr.drew #[.int .i64 0, .int .i64 0, .int .i64 0, .int .i64 0, .bool false, .int .i64 0, .int .i64 0, .int .i64 0, .int .i64 0, .int .i64 0, .int .i64 0, .int .i64 0, .slice none 0 0] 28 wr.heap.size rfl).ext x4)) | (have T4 := Lib.hid True.intro)); have Ha4 := Lib.hid (fun w' (he : Ext w4 w') => (r4.ext he).weak (by omega) (V' := Any) (fun _ _ h => h.elim)); clear r4)
                | (go_at_call 17; (with_reducible refine (HS.out _ _ _ (HRA.out _ (by first | (with_reducible exact E4) | (with_reducible exact E4.alloc _))) (Ha4.out _ (by first | (with_reducible exact Ext.refl w4) | (with_reducible exact (Ext.refl w4).alloc _)))).mono ?_); rintro e w5 ⟨a5, c5, a6, c6, he, x5, r5, m5⟩; simp only [HL1.out, List.length_cons, List.length_nil, Nat.zero_add] at he; subst he; have E5 : Ext wr w5 := Ext.trans (by first | (with_reducible exact E4) | (with_reducible exact E4.alloc _)) x5; (first | (with_reducible have T5 := Lib.hid ((Bk.new w4 #[.int .i64 0, .int .i64 0, .int .i64 0, .int .i64 0, .bool false, .int .i64 0, .int .i64 0, .int .i64 0, .int .i64 0, .int .i64 0, .int .i64 0, .int .i64 0, .slice none 0 0] 28 w4.heap.size rfl).ext x5)) | (with_reducible have T5 := Lib.hid (T4.out.ext x5)) | (have T5 := Lib.hid True.intro)); (try have t1 := T5.out.cell); (try have t2 := T5.out.frozen))
                | fail)
            all_goals
              first
                | (with_reducible have hA0 := aft_put (n := ⟨s1, s2, s3, s4, true, 1, s7 + 1, 0, g', 0, 0, 0, V⟩) (HX.out.trans (E4.alloc (.cells #[.int .i64 0, .int .i64 0, .int .i64 0, .int .i64 0, .bool false, .int .i64 0, .int .i64 0, .int .i64 0, .int .i64 0, .int .i64 0, .int .i64 0, .int .i64 0, .slice none 0 0] 28))) x5 (HBA.out _ (E4.alloc _)) (Bk.new w4 #[.int .i64 0, .int .i64 0, .int .i64 0, .int .i64 0, .bool false, .int .i64 0, .int .i64 0, .int .i64 0, .int .i64 0, .int .i64 0, .int .i64 0, .int .i64 0, .slice none 0 0] 28 w4.heap.size rfl) rfl (by omega) ((HX.out.trans E4).size) r5 m5
                   have hA : Aft w (put w5 w4.heap.size 0 [.int .i64 s1, .int .i64 s2, .int .i64 s3, .int .i64 s4, .bool true, .int .i64 1, .int .i64 (s7 + 1), .int .i64 0, .int .i64 g', .int .i64 0, .int .i64 0, .int .i64 0, .slice a5 1 c5]) B w4.heap.size #[.int .i64 s1, .int .i64 s2, .int .i64 s3, .int .i64 s4, .bool true, .int .i64 1, .int .i64 s7, .int .i64 s8, .int .i64 s9, .int .i64 0, .int .i64 0, .int .i64 0, .slice a0 1 c0] ⟨s1, s2, s3, s4, true, 1, s7 + 1, 0, g', 0, 0, 0, V⟩ [⟨s1, 3 * g' + 1, 0, 0, 0, 1, s7 + 1, false, s4, V⟩] a5 c5 a6 c6 := by simpa only [HL1.out] using hA0
                   clear hA0
                   change Exit.then _ _ _ _ (put w5 w4.heap.size 0 [.int .i64 s1, .int .i64 s2, .int .i64 s3, .int .i64 s4, .bool true, .int .i64 1, .int .i64 (s7 + 1), .int .i64 0, .int .i64 g', .int .i64 0, .int .i64 0, .int .i64 0, .slice a5 1 c5])
                   generalize put w5 w4.heap.size 0 [.int .i64 s1, .int .i64 s2, .int .i64 s3, .int .i64 s4, .bool true, .int .i64 1, .int .i64 (s7 + 1), .int .i64 0, .int .i64 g', .int .i64 0, .int .i64 0, .int .i64 0, .slice a5 1 c5] = w6 at *
                   have HA := Lib.hid hA
                   clear hA
                   go_wp2_with fail
                   go_meet
                   exact ⟨w4.heap.size, a5, c5, a6, c6, rfl, rfl, HA.out⟩)
                | (with_reducible have hA0 := aft_put (n := ⟨s1, s2, s3, s4, true, 1, s7 + 1, 0, g', 0, 0, 0, V⟩) (HX.out.trans E4) x5 (HBA.out _ E4) T4.out rfl (by omega) HX.out.size r5 m5
                   have hA : Aft w (put w5 wr.heap.size 0 [.int .i64 s1, .int .i64 s2, .int .i64 s3, .int .i64 s4, .bool true, .int .i64 1, .int .i64 (s7 + 1), .int .i64 0, .int .i64 g', .int .i64 0, .int .i64 0, .int .i64 0, .slice a5 1 c5]) B wr.heap.size #[.int .i64 s1, .int .i64 s2, .int .i64 s3, .int .i64 s4, .bool true, .int .i64 1, .int .i64 s7, .int .i64 s8, .int .i64 s9, .int .i64 0, .int .i64 0, .int .i64 0, .slice a0 1 c0] ⟨s1, s2, s3, s4, true, 1, s7 + 1, 0, g', 0, 0, 0, V⟩ [⟨s1, 3 * g' + 1, 0, 0, 0, 1, s7 + 1, false, s4, V⟩] a5 c5 a6 c6 := by simpa only [HL1.out] using hA0
                   clear hA0
                   change Exit.then _ _ _ _ (put w5 wr.heap.size 0 [.int .i64 s1, .int .i64 s2, .int .i64 s3, .int .i64 s4, .bool true, .int .i64 1, .int .i64 (s7 + 1), .int .i64 0, .int .i64 g', .int .i64 0, .int .i64 0, .int .i64 0, .slice a5 1 c5])
                   generalize put w5 wr.heap.size 0 [.int .i64 s1, .int .i64 s2, .int .i64 s3, .int .i64 s4, .bool true, .int .i64 1, .int .i64 (s7 + 1), .int .i64 0, .int .i64 g', .int .i64 0, .int .i64 0, .int .i64 0, .slice a5 1 c5] = w6 at *
                   have HA := Lib.hid hA
                   clear hA
                   go_wp2_with fail
                   go_meet
                   exact ⟨wr.heap.size, a5, c5, a6, c6, rfl, rfl, HA.out⟩)
                | (have hA0 := aft_new (n := ⟨s1, s2, s3, s4, true, 1, s7 + 1, 0, g', 0, 0, 0, V⟩) (HX.out.trans E4) x5 (HBA.out _ E4) r5 m5
                   have hA : Aft w (w5.alloc (.cells #[.int .i64 s1, .int .i64 s2, .int .i64 s3, .int .i64 s4, .bool true, .int .i64 1, .int .i64 (s7 + 1), .int .i64 0, .int .i64 g', .int .i64 0, .int .i64 0, .int .i64 0, .slice a5 1 c5] 28)) B w5.heap.size #[.int .i64 s1, .int .i64 s2, .int .i64 s3, .int .i64 s4, .bool true, .int .i64 1, .int .i64 s7, .int .i64 s8, .int .i64 s9, .int .i64 0, .int .i64 0, .int .i64 0, .slice a0 1 c0] ⟨s1, s2, s3, s4, true, 1, s7 + 1, 0, g', 0, 0, 0, V⟩ [⟨s1, 3 * g' + 1, 0, 0, 0, 1, s7 + 1, false, s4, V⟩] a5 c5 a6 c6 := by simpa only [HL1.out] using hA0
                   clear hA0
                   generalize w5.alloc (.cells #[.int .i64 s1, .int .i64 s2, .int .i64 s3, .int .i64 s4, .bool true, .int .i64 1, .int .i64 (s7 + 1), .int .i64 0, .int .i64 g', .int .i64 0, .int .i64 0, .int .i64 0, .slice a5 1 c5] 28) = w6 at *
                   have HA := Lib.hid hA
                   clear hA
                   go_wp2_with fail
                   go_meet
                   exact ⟨w5.heap.size, a5, c5, a6, c6, rfl, rfl, HA.out⟩)
          case rest =>
            obtain ⟨tb, a5, c5, a6, c6, rfl, rfl, hT, hS, hne2, hR5, hM5, hx5⟩ := hcut
            simp only [HL1.out] at hT hR5
            have q0 := hS.cell
            have f0 := hS.frozen
            have q1 := hT.cell
            have HT := Lib.hid hT
            have HS5 := Lib.hid hS
            have HR5 := Lib.hid hR5
            have HM5 := Lib.hid hM5
            have HX5 := Lib.hid hx5
            clear hT hS hR5 hM5 hx5 HS HBA HBC HRA
            obtain ⟨mb, mo, mc, ma, mc', hv, _, g0, g1, g2, g3, g4, g5, g6, g7, g8, g9, _⟩ := msg_get HM5.out
            simp only [Value.slice.injEq, List.length_cons, List.length_nil, Nat.zero_add] at hv
            obtain ⟨rfl, -, rfl⟩ := hv
            simp only at g0 g1 g2 g3 g4 g5 g6 g7 g8
            clear g9 HM5
            have hn0 := fun w1 => neq_stamp0 w1
            go_upto_region 7 with fail
            change Code.wp _ _ _ _ (put wc B 0 [.int .i64 s1, .int .i64 s2, .int .i64 s3, .int .i64 s4, .bool true, .int .i64 1, .int .i64 (s7 + 1), .int .i64 0, .int .i64 g', .int .i64 0, .int .i64 0, .int .i64 0, .slice a5 1 c5])
            have C6 := Lib.hid (put_all (vs := [.int .i64 s1, .int .i64 s2, .int .i64 s3, .int .i64 s4, .bool true, .int .i64 1, .int .i64 (s7 + 1), .int .i64 0, .int .i64 g', .int .i64 0, .int .i64 0, .int .i64 0, .slice a5 1 c5]) HS5.out rfl)
            have HX6 := Lib.hid (put_ext (a := w) HB.out [.int .i64 s1, .int .i64 s2, .int .i64 s3, .int .i64 s4, .bool true, .int .i64 1, .int .i64 (s7 + 1), .int .i64 0, .int .i64 g', .int .i64 0, .int .i64 0, .int .i64 0, .slice a5 1 c5] 0 _ HX5.out)
            have HR6 := Lib.hid (HR5.out.agree (agree_put (V := (· = B)) rfl [.int .i64 s1, .int .i64 s2, .int .i64 s3, .int .i64 s4, .bool true, .int .i64 1, .int .i64 (s7 + 1), .int .i64 0, .int .i64 g', .int .i64 0, .int .i64 0, .int .i64 0, .slice a5 1 c5] 0 wc))
            clear q0 f0 q1
            generalize put wc B 0 [.int .i64 s1, .int .i64 s2, .int .i64 s3, .int .i64 s4, .bool true, .int .i64 1, .int .i64 (s7 + 1), .int .i64 0, .int .i64 g', .int .i64 0, .int .i64 0, .int .i64 0, .slice a5 1 c5] = w6 at *
            go_wp2_with fail
            go_roundw
            case rel => exact ⟨k + 1, ⟨s1, s2, s3, s4, true, 1, s7 + 1, 0, g', 0, 0, 0, V⟩, g', 0, s7 + 1, a5, c5, by omega, by go_num, rfl, rfl, rfl, HG1.out, by simp only [HL1.out]; exact C6.out, by simp only [HL1.out]; exact HR6.out, HX6.out⟩
            case measure => simp [intOf] <;> omega
        · rw [if_neg hdue] at hd
          obtain ⟨e1, hG1⟩ := step_still (a := k) (b := 0) (c := 0) hG hd
          rw [e1] at HS
          have HG1 : Hid (Jrel F M (k + 1) { s with since := s.since + 1 } s.gap (s.since + 1) s.seq) := ⟨by have := hG1; simpa using this, hF, hM, .inr ⟨by omega, hs, hv, h6, h10, h11, h12, rfl, rfl, rfl⟩⟩
          clear hG hG1 e1 hd hmod
          have hne : (s.since + 1 == s.gap) = false := by simpa using hdue
          clear hdue
          obtain ⟨s1, s2, s3, s4, s5, s6, s7, s8, s9, s10, s11, s12, vs⟩ := s
          simp only at *
          subst hs hv h6 h10 h11 h12 hF hM
          have hl1 := V2_ok.2
          rw [hl1] at hR hBk
          have HL1 := Lib.hid hl1
          generalize V2 = V at *
          clear hl1 hvl
          have q0 := hBk.cell
          have HBA := Lib.hid (fun w' (he : Ext wr w') => hBk.ext he)
          have HBC := Lib.hid (fun w' (he : Ext wr w') => (hBk.ext he).cell)
          have HRA := Lib.hid (fun w' (he : Ext wr w') => (hR.ext he).weak (by omega) (V' := Any) (fun _ _ h => h.elim))
          have HX := Lib.hid hx
          have lB0 := hBk.lt
          clear hBk hR hx
          go_upto_region 8 with ((go_at_call 16; (with_reducible refine (HW.out _).mono ?_); rintro e wq ⟨rfl, rfl⟩))
          go_cut [12, 13] (fun t m wx => ∃ (tb : Nat) (a5 : Option Addr) (c5 : Nat) (a6 : Option Addr) (c6 : Nat), t = .pointer (some ⟨tb, 0, none⟩) ∧ m = .slice a6 0 c6 ∧ Aft w wx B tb #[.int .i64 s1, .int .i64 s2, .int .i64 s3, .int .i64 s4, .bool true, .int .i64 1, .int .i64 s7, .int .i64 s8, .int .i64 s9, .int .i64 0, .int .i64 0, .int .i64 0, .slice a0 1 c0] ⟨s1, s2, s3, s4, true, 1, s7, s8 + 1, s9, 0, 0, 0, V⟩ [] a5 c5 a6 c6)
          case first =>
            go_region_held3 (fun w' => ∀ j, w'.cell? ⟨B, j, none⟩ = (#[.int .i64 s1, .int .i64 s2, .int .i64 s3, .int .i64 s4, .bool true, .int .i64 1, .int .i64 s7, .int .i64 s8, .int .i64 s9, .int .i64 0, .int .i64 0, .int .i64 0, .slice a0 1 c0] : Array Value)[j]?)
              (first | (with_reducible exact q0) | (exact HBC.out _ (by first | (with_reducible exact (Ext.refl wr).drew) | (with_reducible exact ((Ext.refl wr).alloc _).drew) | (with_reducible exact (Ext.refl wr).drew.alloc _) | (with_reducible exact E4) | (with_reducible exact E4.alloc _) | (with_reducible exact E5) | (with_reducible exact E5.alloc _) | (with_reducible exact (Ext.refl wr)))) | (intro j; (repeat rw [World.cell?_setCell_other _ _ _ _ (by first | (simp; done) | (simp; omega))]); with_reducible exact HBC.out _ E5 j) | fail)
              (first
                | (go_at_call 18; (with_reducible refine (HV.out _).mono ?_); rintro e w4 ⟨a4, c4, he, x4, r4⟩; rw [HL1.out] at he r4; subst he; have E4 : Ext wr w4 := Ext.trans (by first | (with_reducible exact (Ext.refl wr).drew) | (with_reducible exact ((Ext.refl wr).alloc _).drew) | (with_reducible exact (Ext.refl wr).drew.alloc _)) x4; have lB4 : B < w4.heap.size := E4.lt lB0; (first | (with_reducible have T4 := Lib.hid ((Bk.new wr #[.int .i64 0, .int .i64 0, .int .i64 0, .int .i64 0, .bool false, .int .i64 0, .int .i64 0, .int .i64 0, .int .i64 0, .int .i64 0, .int .i64 0, .int .i64 0, .slice none 0 0] 28 wr.heap.size rfl).drew.ext x4)) | (with_reducible have T4 := Lib.hid ((Bk.new wr.drew #[.int .i64 0, .int .i64 0, .int .i64 0, .int .i64 0, .bool false, .int .i64 0, .int .i64 0, .int .i64 0, .int .i64 0, .int .i64 0, .int .i64 0, .int .i64 0, .slice none 0 0] 28 wr.heap.size rfl).ext x4)) | (have T4 := Lib.hid True.intro)); have Ha4 := Lib.hid (fun w' (he : Ext w4 w') => (r4.ext he).weak (by omega) (V' := Any) (fun _ _ h => h.elim)); clear r4)
                | (go_at_call 17; (with_reducible refine (HS.out _ _ _ (HRA.out _ (by first | (with_reducible exact E4) | (with_reducible exact E4.alloc _))) (Ha4.out _ (by first | (with_reducible exact Ext.refl w4) | (with_reducible exact (Ext.refl w4).alloc _)))).mono ?_); rintro e w5 ⟨a5, c5, a6, c6, he, x5, r5, m5⟩; simp only [HL1.out, List.length_nil] at he; subst he; have E5 : Ext wr w5 := Ext.trans (by first | (with_reducible exact E4) | (with_reducible exact E4.alloc _)) x5; (first | (with_reducible have T5 := Lib.hid ((Bk.new w4 #[.int .i64 0, .int .i64 0, .int .i64 0, .int .i64 0, .bool false, .int .i64 0, .int .i64 0, .int .i64 0, .int .i64 0, .int .i64 0, .int .i64 0, .int .i64 0, .slice none 0 0] 28 w4.heap.size rfl).ext x5)) | (with_reducible have T5 := Lib.hid (T4.out.ext x5)) | (have T5 := Lib.hid True.intro)); (try have t1 := T5.out.cell); (try have t2 := T5.out.frozen))
                | fail)
            all_goals
              first
                | (with_reducible have hA0 := aft_put (n := ⟨s1, s2, s3, s4, true, 1, s7, s8 + 1, s9, 0, 0, 0, V⟩) (HX.out.trans (E4.alloc (.cells #[.int .i64 0, .int .i64 0, .int .i64 0, .int .i64 0, .bool false, .int .i64 0, .int .i64 0, .int .i64 0, .int .i64 0, .int .i64 0, .int .i64 0, .int .i64 0, .slice none 0 0] 28))) x5 (HBA.out _ (E4.alloc _)) (Bk.new w4 #[.int .i64 0, .int .i64 0, .int .i64 0, .int .i64 0, .bool false, .int .i64 0, .int .i64 0, .int .i64 0, .int .i64 0, .int .i64 0, .int .i64 0, .int .i64 0, .slice none 0 0] 28 w4.heap.size rfl) rfl (by omega) ((HX.out.trans E4).size) r5 m5
                   have hA : Aft w (put w5 w4.heap.size 0 [.int .i64 s1, .int .i64 s2, .int .i64 s3, .int .i64 s4, .bool true, .int .i64 1, .int .i64 s7, .int .i64 (s8 + 1), .int .i64 s9, .int .i64 0, .int .i64 0, .int .i64 0, .slice a5 1 c5]) B w4.heap.size #[.int .i64 s1, .int .i64 s2, .int .i64 s3, .int .i64 s4, .bool true, .int .i64 1, .int .i64 s7, .int .i64 s8, .int .i64 s9, .int .i64 0, .int .i64 0, .int .i64 0, .slice a0 1 c0] ⟨s1, s2, s3, s4, true, 1, s7, s8 + 1, s9, 0, 0, 0, V⟩ [] a5 c5 a6 c6 := by simpa only [HL1.out] using hA0
                   clear hA0
                   change Exit.then _ _ _ _ (put w5 w4.heap.size 0 [.int .i64 s1, .int .i64 s2, .int .i64 s3, .int .i64 s4, .bool true, .int .i64 1, .int .i64 s7, .int .i64 (s8 + 1), .int .i64 s9, .int .i64 0, .int .i64 0, .int .i64 0, .slice a5 1 c5])
                   generalize put w5 w4.heap.size 0 [.int .i64 s1, .int .i64 s2, .int .i64 s3, .int .i64 s4, .bool true, .int .i64 1, .int .i64 s7, .int .i64 (s8 + 1), .int .i64 s9, .int .i64 0, .int .i64 0, .int .i64 0, .slice a5 1 c5] = w6 at *
                   have HA := Lib.hid hA
                   clear hA
                   go_wp2_with fail
                   go_meet
                   exact ⟨w4.heap.size, a5, c5, a6, c6, rfl, rfl, HA.out⟩)
                | (with_reducible have hA0 := aft_put (n := ⟨s1, s2, s3, s4, true, 1, s7, s8 + 1, s9, 0, 0, 0, V⟩) (HX.out.trans E4) x5 (HBA.out _ E4) T4.out rfl (by omega) HX.out.size r5 m5
                   have hA : Aft w (put w5 wr.heap.size 0 [.int .i64 s1, .int .i64 s2, .int .i64 s3, .int .i64 s4, .bool true, .int .i64 1, .int .i64 s7, .int .i64 (s8 + 1), .int .i64 s9, .int .i64 0, .int .i64 0, .int .i64 0, .slice a5 1 c5]) B wr.heap.size #[.int .i64 s1, .int .i64 s2, .int .i64 s3, .int .i64 s4, .bool true, .int .i64 1, .int .i64 s7, .int .i64 s8, .int .i64 s9, .int .i64 0, .int .i64 0, .int .i64 0, .slice a0 1 c0] ⟨s1, s2, s3, s4, true, 1, s7, s8 + 1, s9, 0, 0, 0, V⟩ [] a5 c5 a6 c6 := by simpa only [HL1.out] using hA0
                   clear hA0
                   change Exit.then _ _ _ _ (put w5 wr.heap.size 0 [.int .i64 s1, .int .i64 s2, .int .i64 s3, .int .i64 s4, .bool true, .int .i64 1, .int .i64 s7, .int .i64 (s8 + 1), .int .i64 s9, .int .i64 0, .int .i64 0, .int .i64 0, .slice a5 1 c5])
                   generalize put w5 wr.heap.size 0 [.int .i64 s1, .int .i64 s2, .int .i64 s3, .int .i64 s4, .bool true, .int .i64 1, .int .i64 s7, .int .i64 (s8 + 1), .int .i64 s9, .int .i64 0, .int .i64 0, .int .i64 0, .slice a5 1 c5] = w6 at *
                   have HA := Lib.hid hA
                   clear hA
                   go_wp2_with fail
                   go_meet
                   exact ⟨wr.heap.size, a5, c5, a6, c6, rfl, rfl, HA.out⟩)
                | (have hA0 := aft_new (n := ⟨s1, s2, s3, s4, true, 1, s7, s8 + 1, s9, 0, 0, 0, V⟩) (HX.out.trans E4) x5 (HBA.out _ E4) r5 m5
                   have hA : Aft w (w5.alloc (.cells #[.int .i64 s1, .int .i64 s2, .int .i64 s3, .int .i64 s4, .bool true, .int .i64 1, .int .i64 s7, .int .i64 (s8 + 1), .int .i64 s9, .int .i64 0, .int .i64 0, .int .i64 0, .slice a5 1 c5] 28)) B w5.heap.size #[.int .i64 s1, .int .i64 s2, .int .i64 s3, .int .i64 s4, .bool true, .int .i64 1, .int .i64 s7, .int .i64 s8, .int .i64 s9, .int .i64 0, .int .i64 0, .int .i64 0, .slice a0 1 c0] ⟨s1, s2, s3, s4, true, 1, s7, s8 + 1, s9, 0, 0, 0, V⟩ [] a5 c5 a6 c6 := by simpa only [HL1.out] using hA0
                   clear hA0
                   generalize w5.alloc (.cells #[.int .i64 s1, .int .i64 s2, .int .i64 s3, .int .i64 s4, .bool true, .int .i64 1, .int .i64 s7, .int .i64 (s8 + 1), .int .i64 s9, .int .i64 0, .int .i64 0, .int .i64 0, .slice a5 1 c5] 28) = w6 at *
                   have HA := Lib.hid hA
                   clear hA
                   go_wp2_with fail
                   go_meet
                   exact ⟨w5.heap.size, a5, c5, a6, c6, rfl, rfl, HA.out⟩)
          case rest =>
            obtain ⟨tb, a5, c5, a6, c6, rfl, rfl, hT, hS, hne2, hR5, hM5, hx5⟩ := hcut
            simp only [HL1.out] at hT hR5
            have q0 := hS.cell
            have f0 := hS.frozen
            have q1 := hT.cell
            have HT := Lib.hid hT
            have HS5 := Lib.hid hS
            have HR5 := Lib.hid hR5
            have HM5 := Lib.hid hM5
            have HX5 := Lib.hid hx5
            clear hT hS hR5 hM5 hx5 HS HBA HBC HRA
            go_upto_region 7 with fail
            change Code.wp _ _ _ _ (put wc B 0 [.int .i64 s1, .int .i64 s2, .int .i64 s3, .int .i64 s4, .bool true, .int .i64 1, .int .i64 s7, .int .i64 (s8 + 1), .int .i64 s9, .int .i64 0, .int .i64 0, .int .i64 0, .slice a5 1 c5])
            have C6 := Lib.hid (put_all (vs := [.int .i64 s1, .int .i64 s2, .int .i64 s3, .int .i64 s4, .bool true, .int .i64 1, .int .i64 s7, .int .i64 (s8 + 1), .int .i64 s9, .int .i64 0, .int .i64 0, .int .i64 0, .slice a5 1 c5]) HS5.out rfl)
            have HX6 := Lib.hid (put_ext (a := w) HB.out [.int .i64 s1, .int .i64 s2, .int .i64 s3, .int .i64 s4, .bool true, .int .i64 1, .int .i64 s7, .int .i64 (s8 + 1), .int .i64 s9, .int .i64 0, .int .i64 0, .int .i64 0, .slice a5 1 c5] 0 _ HX5.out)
            have HR6 := Lib.hid (HR5.out.agree (agree_put (V := (· = B)) rfl [.int .i64 s1, .int .i64 s2, .int .i64 s3, .int .i64 s4, .bool true, .int .i64 1, .int .i64 s7, .int .i64 (s8 + 1), .int .i64 s9, .int .i64 0, .int .i64 0, .int .i64 0, .slice a5 1 c5] 0 wc))
            clear q0 f0 q1
            generalize put wc B 0 [.int .i64 s1, .int .i64 s2, .int .i64 s3, .int .i64 s4, .bool true, .int .i64 1, .int .i64 s7, .int .i64 (s8 + 1), .int .i64 s9, .int .i64 0, .int .i64 0, .int .i64 0, .slice a5 1 c5] = w6 at *
            go_wp2_with fail
            go_roundw
            case rel => exact ⟨k + 1, ⟨s1, s2, s3, s4, true, 1, s7, s8 + 1, s9, 0, 0, 0, V⟩, s9, s8 + 1, s7, a5, c5, by omega, by go_num, rfl, rfl, rfl, HG1.out, by simp only [HL1.out]; exact C6.out, by simp only [HL1.out]; exact HR6.out, HX6.out⟩
            case measure => simp [intOf] <;> omega
    · go_wp2_with (go_at_call 16; (with_reducible refine (HW.out _).mono ?_); rintro e wq ⟨rfl, rfl⟩)
      go_ret
      exact ⟨rfl, hx⟩
end Go.Proofs.Ytopmhaebjpmbfaa
