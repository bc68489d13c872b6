/- The walk of the statement PublisherOverlap. -/
import Derived.Test.YtopmhaebjpmbfaaOvP
namespace Go.Proofs.Ytopmhaebjpmbfaa
open Go.RowKit
attribute [local go_sem ↓] Go.wp_at_zero Go.wp_at_succ

set_option maxRecDepth 100000 in
set_option maxHeartbeats 16000000 in
theorem overlap_walk (x y n : Int) (w : World) : Calls Try.prog 4 #[.int .i64 x, .int .i64 y, .int .i64 n] w fun e w' => e = .returned (.bool true) ∧ Ext w w' := by
  have HK := Lib.hid (known13_any w)
  have HMD := Lib.hid (fun w1 => made_any x y w1)
  have HW := Lib.hid (fun w1 => within13_any n 2500 w1 (by omega) (by omega))
  have HV := Lib.hid (fun w1 => values_any 0 w1)
  obtain ⟨f1, f2, f3, f4⟩ := made_le x y
  generalize fst13 x = F at *
  generalize max13 x y = M at *
  obtain ⟨Q, hQ⟩ : ∃ Q : Nat, n % 2500 = Q := ⟨(n % 2500).toNat, by omega⟩
  have hQ2 : Q < 2500 := by omega
  rw [hQ] at HW
  clear hQ
  go_enter Try.func4, Try.ntmps4
  go_wp2_with fail
  refine HK.out.mono ?_
  rintro e w1 ⟨rfl, x1⟩
  go_wp2_with fail
  refine (HMD.out _).mono ?_
  rintro e w2 ⟨rfl, x2⟩
  simp only [newS]
  have X2 := x1.trans x2
  have HB := Lib.hid X2.size
  go_wp2_with fail
  have B2 := Bk.new w2 #[.int .i64 7, .int .i64 F, .int .i64 M, .int .i64 9, .bool false, .int .i64 0, .int .i64 0, .int .i64 0, .int .i64 0, .int .i64 0, .int .i64 0, .int .i64 0, .slice none 0 0] 28 w2.heap.size rfl
  have X3 := X2.alloc (.cells #[.int .i64 7, .int .i64 F, .int .i64 M, .int .i64 9, .bool false, .int .i64 0, .int .i64 0, .int .i64 0, .int .i64 0, .int .i64 0, .int .i64 0, .int .i64 0, .slice none 0 0] 28)
  generalize w2.alloc (.cells #[.int .i64 7, .int .i64 F, .int .i64 M, .int .i64 9, .bool false, .int .i64 0, .int .i64 0, .int .i64 0, .int .i64 0, .int .i64 0, .int .i64 0, .int .i64 0, .slice none 0 0] 28) = W at *
  generalize w2.heap.size = B at *
  clear X2 x1 x2 HK HMD
  go_loopw [8, 9, 10] (fun va vt i wr => ∃ (k : Nat) (s : PSt) (pl : List (Int × Int)) (a : Option Addr) (c : Nat), k ≤ Q + 1 ∧ i = .int .i64 k ∧ Orel k s pl ∧ Rows2 3 wr B va vt pl.length pl.length (atC pl) (ttC pl) ∧ Bk wr B 28 (pubC s (.slice a s.vals.length c)) ∧ RF (Vrow B va vt) 6 valE wr (.slice a s.vals.length c) s.vals ∧ Ext w wr) (fun _ _ i _ => Q + 1 - (intOf i).toNat)
  case atStart => exact ⟨0, newS 7 F M 9, [], none, 0, by omega, rfl, ⟨Good.new f1 f3 f4, fun _ => ⟨rfl, rfl⟩, fun h => by omega, fun _ _ _ _ _ h => by simp at h, fun _ _ _ h => by simp at h, fun _ _ h => by simp at h, by simp⟩, ⟨World.ownsRow_nil _ _ _ _, World.ownsRow_nil _ _ _ _, fun _ h => by simp [Value.ownBlock] at h⟩, B2, RF.nil _ _ _ _, X3⟩
  case round =>
    obtain ⟨k, s, pl, a0, c0, hk, rfl, hJ, hRw, hBk, hR, hx⟩ := hrel
    obtain ⟨va, rfl⟩ : ∃ va, va = u8 := ⟨_, rfl⟩
    obtain ⟨vt, rfl⟩ : ∃ vt, vt = u9 := ⟨_, rfl⟩
    clear B2 X3
    by_cases hlt : k ≤ Q
    · obtain ⟨hb1, hb2, hb3, hb4⟩ := hJ.good.bnd
      have hmod : Mod s := by
        have h0 : 0 ≤ s.state ∧ s.state ≤ 3000 ∧ 0 ≤ s.seq ∧ s.seq ≤ 3000 := by
          cases hs : s.started
          · have := hJ.good.off hs; omega
          · have := hJ.good.on hs; omega
        exact ⟨by omega, by omega, by omega⟩
      have hvl := hJ.good.vl
      have hpl := hJ.len
      have hvk := (vals_ok 0).2
      have HS := Lib.hid (fun w1 v u (h : RF Any 6 valE w1 v s.vals) (h2 : RF Any 6 valE w1 u (valsOf 0)) => step_any s (valsOf 0) 0 0 0 v u w1 h h2 (by omega) (by omega) hmod)
      obtain ⟨s', ms, hst⟩ : ∃ s' ms, stepS s (valsOf 0) 0 0 0 = (s', ms) := ⟨_, _, rfl⟩
      have hway := ov_step (by omega) hJ hst
      rw [hst] at HS
      have HWAY := Lib.hid hway
      have q0 := hBk.cell
      have HBA := Lib.hid (fun w' (he : Ext wr w') => hBk.ext he)
      have HBC := Lib.hid (fun w' (he : Ext wr w') => (hBk.ext he).cell)
      have HRA := Lib.hid (fun w' (he : Ext wr w') => (hR.ext he).weak (by omega) (V' := Any) (fun _ _ h => h.elim))
      have HX := Lib.hid hx
      have HRW := Lib.hid hRw
      have lB0 := hBk.lt
      have HLB := Lib.hid lB0
      clear hBk hR hx hst hway hJ hRw
      have hki : (k : Int) ≤ Q := by omega
      have hki2 : (0 : Int) ≤ k := by omega
      clear hmod
      obtain ⟨s1, s2, s3, s4, s5, s6, s7, s8, s9, s10, s11, s12, vs⟩ := s
      obtain ⟨st1, st2, st3, st4, st5, st6, st7, st8, st9, st10, st11, st12, L⟩ := s'
      simp only at *
      generalize hnL : L.length = nL at *
      have HL1 := Lib.hid hnL
      generalize hnK : (valsOf 0).length = nK at *
      have HLK := Lib.hid hnK
      generalize hnm : ms.length = nm at *
      have HNM := Lib.hid hnm
      generalize hnp : pl.length = np at *
      have HNP := Lib.hid hnp
      generalize hxs : atC pl = xs at *
      have HXS := Lib.hid hxs
      generalize hys : ttC pl = ys at *
      have HYS := Lib.hid hys
      generalize vs.length = n0 at *
      clear hnL hnK hnm hnp hxs hys
      go_upto_region 8 with ((go_at_call 16; (with_reducible refine (HW.out _).mono ?_); rintro e wq ⟨rfl, rfl⟩))
      go_cut [11, 12] (fun t m wx => ∃ (tb : Nat) (a5 : Option Addr) (c5 : Nat) (a6 : Option Addr) (c6 : Nat), t = .pointer (some ⟨tb, 0, none⟩) ∧ m = .slice a6 nm c6 ∧ AftO wr wx B tb #[.int .i64 s1, .int .i64 s2, .int .i64 s3, .int .i64 s4, .bool s5, .int .i64 s6, .int .i64 s7, .int .i64 s8, .int .i64 s9, .int .i64 s10, .int .i64 s11, .int .i64 s12, .slice a0 n0 c0] ⟨st1, st2, st3, st4, st5, st6, st7, st8, st9, st10, st11, st12, L⟩ ms a5 c5 a6 c6)
      case first =>
        go_region_held3 (fun w' => ∀ j, w'.cell? ⟨B, j, none⟩ = (#[.int .i64 s1, .int .i64 s2, .int .i64 s3, .int .i64 s4, .bool s5, .int .i64 s6, .int .i64 s7, .int .i64 s8, .int .i64 s9, .int .i64 s10, .int .i64 s11, .int .i64 s12, .slice a0 n0 c0] : Array Value)[j]?)
          (first | (with_reducible exact q0) | (exact HBC.out _ (by first | (with_reducible exact (Ext.refl wr).drew) | (with_reducible exact ((Ext.refl wr).alloc _).drew) | (with_reducible exact (Ext.refl wr).drew.alloc _) | (with_reducible exact E4) | (with_reducible exact E4.alloc _) | (with_reducible exact E5) | (with_reducible exact E5.alloc _) | (with_reducible exact (Ext.refl wr)))) | (intro j; (repeat rw [World.cell?_setCell_other _ _ _ _ (by first | (simp; done) | (simp; omega))]); with_reducible exact HBC.out _ E5 j) | fail)
          (first
            | (go_at_call 18; (with_reducible refine (HV.out _).mono ?_); rintro e w4 ⟨a4, c4, he, x4, r4⟩; rw [HLK.out] at he r4; subst he; have E4 : Ext wr w4 := Ext.trans (by first | (with_reducible exact (Ext.refl wr).drew) | (with_reducible exact ((Ext.refl wr).alloc _).drew) | (with_reducible exact (Ext.refl wr).drew.alloc _)) x4; have lB4 : B < w4.heap.size := E4.lt lB0; (first | (with_reducible have T4 := Lib.hid ((Bk.new wr #[.int .i64 0, .int .i64 0, .int .i64 0, .int .i64 0, .bool false, .int .i64 0, .int .i64 0, .int .i64 0, .int .i64 0, .int .i64 0, .int .i64 0, .int .i64 0, .slice none 0 0] 28 wr.heap.size rfl).drew.ext x4)) | (with_reducible have T4 := Lib.hid ((Bk.new wr.drew #[.int .i64 0, .int .i64 0, .int .i64 0, .int .i64 0, .bool false, .int .i64 0, .int .i64 0, .int .i64 0, .int .i64 0, .int .i64 0, .int .i64 0, .int .i64 0, .slice none 0 0] 28 wr.heap.size rfl).ext x4)) | (have T4 := Lib.hid True.intro)); have Ha4 := Lib.hid (fun w' (he : Ext w4 w') => (r4.ext he).weak (by omega) (V' := Any) (fun _ _ h => h.elim)); clear r4)
            | (go_at_call 17; (with_reducible refine (HS.out _ _ _ (HRA.out _ (by first | (with_reducible exact E4) | (with_reducible exact E4.alloc _))) (Ha4.out _ (by first | (with_reducible exact Ext.refl w4) | (with_reducible exact (Ext.refl w4).alloc _)))).mono ?_); rintro e w5 ⟨a5, c5, a6, c6, he, x5, r5, m5⟩; simp only [HL1.out, HNM.out] at he; subst he; have E5 : Ext wr w5 := Ext.trans (by first | (with_reducible exact E4) | (with_reducible exact E4.alloc _)) x5; (first | (with_reducible have T5 := Lib.hid ((Bk.new w4 #[.int .i64 0, .int .i64 0, .int .i64 0, .int .i64 0, .bool false, .int .i64 0, .int .i64 0, .int .i64 0, .int .i64 0, .int .i64 0, .int .i64 0, .int .i64 0, .slice none 0 0] 28 w4.heap.size rfl).ext x5)) | (with_reducible have T5 := Lib.hid (T4.out.ext x5)) | (have T5 := Lib.hid True.intro)); (try have tc5 := T5.out.cell); (try have tf5 := T5.out.frozen))
            | fail)
        all_goals
          first
            | (with_reducible have hA0 := aftO_put (n := ⟨st1, st2, st3, st4, st5, st6, st7, st8, st9, st10, st11, st12, L⟩) (E4.alloc (.cells #[.int .i64 0, .int .i64 0, .int .i64 0, .int .i64 0, .bool false, .int .i64 0, .int .i64 0, .int .i64 0, .int .i64 0, .int .i64 0, .int .i64 0, .int .i64 0, .slice none 0 0] 28)) x5 (HBA.out _ (E4.alloc _)) (Bk.new w4 #[.int .i64 0, .int .i64 0, .int .i64 0, .int .i64 0, .bool false, .int .i64 0, .int .i64 0, .int .i64 0, .int .i64 0, .int .i64 0, .int .i64 0, .int .i64 0, .slice none 0 0] 28 w4.heap.size rfl) rfl (by omega) (E4.size) r5 m5
               have hA : AftO wr (put w5 w4.heap.size 0 [.int .i64 st1, .int .i64 st2, .int .i64 st3, .int .i64 st4, .bool st5, .int .i64 st6, .int .i64 st7, .int .i64 st8, .int .i64 st9, .int .i64 st10, .int .i64 st11, .int .i64 st12, .slice a5 nL c5]) B w4.heap.size #[.int .i64 s1, .int .i64 s2, .int .i64 s3, .int .i64 s4, .bool s5, .int .i64 s6, .int .i64 s7, .int .i64 s8, .int .i64 s9, .int .i64 s10, .int .i64 s11, .int .i64 s12, .slice a0 n0 c0] ⟨st1, st2, st3, st4, st5, st6, st7, st8, st9, st10, st11, st12, L⟩ ms a5 c5 a6 c6 := by simpa only [HL1.out] using hA0
               clear hA0
               change Exit.then _ _ _ _ (put w5 w4.heap.size 0 [.int .i64 st1, .int .i64 st2, .int .i64 st3, .int .i64 st4, .bool st5, .int .i64 st6, .int .i64 st7, .int .i64 st8, .int .i64 st9, .int .i64 st10, .int .i64 st11, .int .i64 st12, .slice a5 nL c5])
               generalize put w5 w4.heap.size 0 [.int .i64 st1, .int .i64 st2, .int .i64 st3, .int .i64 st4, .bool st5, .int .i64 st6, .int .i64 st7, .int .i64 st8, .int .i64 st9, .int .i64 st10, .int .i64 st11, .int .i64 st12, .slice a5 nL c5] = w6 at *
               have HA := Lib.hid hA
               clear hA
               go_wp2_with fail
               go_meet
               exact ⟨w4.heap.size, a5, c5, a6, c6, rfl, rfl, HA.out⟩)
            | (with_reducible have hA0 := aftO_put (n := ⟨st1, st2, st3, st4, st5, st6, st7, st8, st9, st10, st11, st12, L⟩) (E4) x5 (HBA.out _ E4) ((show Bk w4 wr.heap.size 28 #[.int .i64 0, .int .i64 0, .int .i64 0, .int .i64 0, .bool false, .int .i64 0, .int .i64 0, .int .i64 0, .int .i64 0, .int .i64 0, .int .i64 0, .int .i64 0, .slice none 0 0] from T4.out)) rfl (by omega) (Nat.le_refl _) r5 m5
               have hA : AftO wr (put w5 wr.heap.size 0 [.int .i64 st1, .int .i64 st2, .int .i64 st3, .int .i64 st4, .bool st5, .int .i64 st6, .int .i64 st7, .int .i64 st8, .int .i64 st9, .int .i64 st10, .int .i64 st11, .int .i64 st12, .slice a5 nL c5]) B wr.heap.size #[.int .i64 s1, .int .i64 s2, .int .i64 s3, .int .i64 s4, .bool s5, .int .i64 s6, .int .i64 s7, .int .i64 s8, .int .i64 s9, .int .i64 s10, .int .i64 s11, .int .i64 s12, .slice a0 n0 c0] ⟨st1, st2, st3, st4, st5, st6, st7, st8, st9, st10, st11, st12, L⟩ ms a5 c5 a6 c6 := by simpa only [HL1.out] using hA0
               clear hA0
               change Exit.then _ _ _ _ (put w5 wr.heap.size 0 [.int .i64 st1, .int .i64 st2, .int .i64 st3, .int .i64 st4, .bool st5, .int .i64 st6, .int .i64 st7, .int .i64 st8, .int .i64 st9, .int .i64 st10, .int .i64 st11, .int .i64 st12, .slice a5 nL c5])
               generalize put w5 wr.heap.size 0 [.int .i64 st1, .int .i64 st2, .int .i64 st3, .int .i64 st4, .bool st5, .int .i64 st6, .int .i64 st7, .int .i64 st8, .int .i64 st9, .int .i64 st10, .int .i64 st11, .int .i64 st12, .slice a5 nL c5] = w6 at *
               have HA := Lib.hid hA
               clear hA
               go_wp2_with fail
               go_meet
               exact ⟨wr.heap.size, a5, c5, a6, c6, rfl, rfl, HA.out⟩)
            | (have hA0 := aftO_new (n := ⟨st1, st2, st3, st4, st5, st6, st7, st8, st9, st10, st11, st12, L⟩) E4 x5 (HBA.out _ E4) r5 m5
               have hA : AftO wr (w5.alloc (.cells #[.int .i64 st1, .int .i64 st2, .int .i64 st3, .int .i64 st4, .bool st5, .int .i64 st6, .int .i64 st7, .int .i64 st8, .int .i64 st9, .int .i64 st10, .int .i64 st11, .int .i64 st12, .slice a5 nL c5] 28)) B w5.heap.size #[.int .i64 s1, .int .i64 s2, .int .i64 s3, .int .i64 s4, .bool s5, .int .i64 s6, .int .i64 s7, .int .i64 s8, .int .i64 s9, .int .i64 s10, .int .i64 s11, .int .i64 s12, .slice a0 n0 c0] ⟨st1, st2, st3, st4, st5, st6, st7, st8, st9, st10, st11, st12, L⟩ ms a5 c5 a6 c6 := by simpa only [HL1.out] using hA0
               clear hA0
               generalize w5.alloc (.cells #[.int .i64 st1, .int .i64 st2, .int .i64 st3, .int .i64 st4, .bool st5, .int .i64 st6, .int .i64 st7, .int .i64 st8, .int .i64 st9, .int .i64 st10, .int .i64 st11, .int .i64 st12, .slice a5 nL c5] 28) = w6 at *
               have HA := Lib.hid hA
               clear hA
               go_wp2_with fail
               go_meet
               exact ⟨w5.heap.size, a5, c5, a6, c6, rfl, rfl, HA.out⟩)
      case rest =>
        obtain ⟨tb, a5, c5, a6, c6, rfl, rfl, hT, hSb, hle, hR5, hM5, hx5⟩ := hcut
        simp only [HL1.out] at hT hR5
        obtain ⟨wA, rfl⟩ : ∃ wA, wA = wc := ⟨_, rfl⟩
        have hrw := HRW.out.ext hx5
        have HX5 := Lib.hid (HX.out.trans hx5)
        have hrf : RF (Vrow B va vt) 6 valE wA (.slice a5 nL c5) L := hR5.weak (by omega) (fun g _ hg => by
          rcases hg with hg | hg
          · rw [hg]; exact HLB.out
          · exact (HRW.out.lt hg).2)
        rcases HWAY.out with ⟨hms, hG1⟩ | ⟨m1, m3, m4, m5, m6, m7, m8, m9, ml, g, hms, hg1, hg2, hG1⟩
        · subst hms
          obtain rfl : nm = 0 := HNM.out.symm
          have HG1 := Lib.hid hG1
          have HR9 := Lib.hid hrf
          have HX9 := HX5
          have HRW9 := Lib.hid hrw
          have hT7 := hT
          have hB7 := hSb
          clear hT hSb hR5 hM5 hx5 hrw hrf HV HS HBA HBC HRA hG1 HWAY
          have HB7 := Lib.hid hB7
          have HT7 := Lib.hid hT7
          have q0 := hB7.cell
          have f0 := hB7.frozen
          have q1 := hT7.cell
          clear hB7 hT7
          go_upto_region 7 with fail
          change Code.wp _ _ _ _ (put wA B 0 [.int .i64 st1, .int .i64 st2, .int .i64 st3, .int .i64 st4, .bool st5, .int .i64 st6, .int .i64 st7, .int .i64 st8, .int .i64 st9, .int .i64 st10, .int .i64 st11, .int .i64 st12, .slice a5 nL c5])
          have C6 := Lib.hid (put_all (vs := [.int .i64 st1, .int .i64 st2, .int .i64 st3, .int .i64 st4, .bool st5, .int .i64 st6, .int .i64 st7, .int .i64 st8, .int .i64 st9, .int .i64 st10, .int .i64 st11, .int .i64 st12, .slice a5 nL c5]) HB7.out rfl)
          have HX6 := Lib.hid (put_ext (a := w) HB.out [.int .i64 st1, .int .i64 st2, .int .i64 st3, .int .i64 st4, .bool st5, .int .i64 st6, .int .i64 st7, .int .i64 st8, .int .i64 st9, .int .i64 st10, .int .i64 st11, .int .i64 st12, .slice a5 nL c5] 0 _ HX9.out)
          have HR6 := Lib.hid (HR9.out.agree (agree_put (V := Vrow B va vt) (.inl rfl) [.int .i64 st1, .int .i64 st2, .int .i64 st3, .int .i64 st4, .bool st5, .int .i64 st6, .int .i64 st7, .int .i64 st8, .int .i64 st9, .int .i64 st10, .int .i64 st11, .int .i64 st12, .slice a5 nL c5] 0 wA))
          have HRW6 := Lib.hid (HRW9.out.stored [.int .i64 st1, .int .i64 st2, .int .i64 st3, .int .i64 st4, .bool st5, .int .i64 st6, .int .i64 st7, .int .i64 st8, .int .i64 st9, .int .i64 st10, .int .i64 st11, .int .i64 st12, .slice a5 nL c5])
          clear q0 f0 q1
          generalize put wA B 0 [.int .i64 st1, .int .i64 st2, .int .i64 st3, .int .i64 st4, .bool st5, .int .i64 st6, .int .i64 st7, .int .i64 st8, .int .i64 st9, .int .i64 st10, .int .i64 st11, .int .i64 st12, .slice a5 nL c5] = w10 at *
          go_wp2_with fail
          go_roundw
          case rel => exact ⟨k + 1, ⟨st1, st2, st3, st4, st5, st6, st7, st8, st9, st10, st11, st12, L⟩, pl, a5, c5, by omega, by go_num, HG1.out, by simp only [HNP.out, HXS.out, HYS.out]; exact HRW6.out, by simp only [HL1.out]; exact C6.out, by simp only [HL1.out]; exact HR6.out, HX6.out⟩
          case measure => simp [intOf] <;> omega

        · subst hms
          obtain rfl : nm = 1 := HNM.out.symm
          obtain ⟨mb, mo, mc, ma, mc', hvm, hmv, g0, g1, g2, g3, g4, g5, g6, g7, g8, g9, hrm⟩ := msg_get hM5
          simp only [Value.slice.injEq, List.length_cons, List.length_nil, Nat.zero_add] at hvm
          obtain ⟨rfl, -, rfl⟩ := hvm
          simp only at g1
          clear g0 g2 g3 g4 g5 g6 g7 g8 g9 hrm hM5
          have hmr : ¬ RowsV va vt mb := fun hg => hmv (HRW.out.lt hg).2
          have htr : ¬ RowsV va vt tb := fun hg => by have := HRW.out.lt hg; omega
          have hBr : ¬ RowsV va vt B := fun hg => by have := HRW.out.lt hg; omega
          have HG1 := Lib.hid hG1
          have HRF := Lib.hid hrf
          have HTt := Lib.hid hT
          have HSb := Lib.hid hSb
          have HTR := Lib.hid htr
          have HBR := Lib.hid hBr
          have HMR := Lib.hid hmr
          have HLA : Hid (∀ q, va.ownBlock = some q → q < wA.heap.size) := fun q hq => (hrw.lt (.inl hq)).2
          have HLT : Hid (∀ q, vt.ownBlock = some q → q < wA.heap.size) := fun q hq => (hrw.lt (.inr hq)).2
          have HBX : Hid (B + 1 ≤ wA.heap.size) := hSb.lt
          have H0 := Lib.hid (fun w' (he : Ext wA w') => (TwoR.start hrw).ext he)
          clear hT hSb hR5 hrw hrf hmr htr hBr hmv hG1 HWAY HV HS HBA HBC HRA hx5 hle
          obtain ⟨i0, hi0, hz0, hz1, hz2⟩ := info_parts info_int
          go_upto_region 10 with fail
          go_cut [8, 9] (fun p q wx => ∃ (A1 : Option Addr) (c1 : Nat) (A2 : Option Addr) (c2 : Nat), p = .slice A1 (np + 1) c1 ∧ q = .slice A2 (np + 1) c2 ∧ TwoR 3 wA va vt wx B (.slice A1 (np + 1) c1) (.slice A2 (np + 1) c2) (np + 1) (np + 1) (xs ++ [.int .i64 k]) (ys ++ [.int .i64 (3 * g + 1)]))
          case first =>
            obtain ⟨va1, va2, rfl⟩ := owns_slice (H0.out _ (Ext.refl _)).r.a
            obtain ⟨vt1, vt2, rfl⟩ := owns_slice (H0.out _ (Ext.refl _)).r.t
            go_region_held3 (fun w' => w'.cell? ⟨mb, mo + 1, none⟩ = some (.int .i64 (3 * g + 1)))
              (first | (with_reducible exact g1) | (exact TwoR.cell (HF.out _ (by repeat first | (with_reducible exact Ext.refl _) | (with_reducible apply Ext.drew) | (with_reducible apply Ext.alloc))) HMR.out g1) | (exact TwoR.cell (H1.out _ (by repeat first | (with_reducible exact Ext.refl _) | (with_reducible apply Ext.drew) | (with_reducible apply Ext.alloc))) HMR.out g1) | (exact TwoR.cell (H2.out _ (by repeat first | (with_reducible exact Ext.refl _) | (with_reducible apply Ext.drew) | (with_reducible apply Ext.alloc))) HMR.out g1) | (exact TwoR.cell (H0.out _ (by repeat first | (with_reducible exact Ext.refl _) | (with_reducible apply Ext.drew) | (with_reducible apply Ext.alloc))) HMR.out g1) | fail)
              (first
                | (refine step_append_src _ (by rfl) (.tmp 35) (.tmp 37) _ (by rfl) (B + 1) 3 i0 _ 1 8 Try.underlying44 hi0 hz0 hz1 hz2 (by rfl) (by omega) _ np xs (by rfl) (TwoR.ownA (H2.out _ (by repeat first | (with_reducible exact Ext.refl _) | (with_reducible apply Ext.drew) | (with_reducible apply Ext.alloc)))) _ 1 1 [.int .i64 k] (by rfl) (Src.single (by first | (simp; done) | (rw [World.grownBy.cell_far hg2 _ (by first | (simp; done) | (simp; omega)) (by intro e; have := HLT.out _ e.symm; first | (simp at this; done) | (simp at this; omega))]; simp; done)) rfl) (by unfold maxLen; omega) (by omega) (TwoR.base (H2.out _ (by repeat first | (with_reducible exact Ext.refl _) | (with_reducible apply Ext.drew) | (with_reducible apply Ext.alloc))) HBX.out) ?_; intro A1 c1 w1 hown1 hg1 hat1; have HF := Lib.hid (fun w' (he : Ext w1 w') => (TwoR.appA (H2.out _ (by repeat first | (with_reducible exact Ext.refl _) | (with_reducible apply Ext.drew) | (with_reducible apply Ext.alloc))) hown1 hg1 hat1).ext he); clear hown1 hat1)
                | (refine step_append_src _ (by rfl) (.tmp 35) (.tmp 37) _ (by rfl) (B + 1) 3 i0 _ 1 8 Try.underlying44 hi0 hz0 hz1 hz2 (by rfl) (by omega) _ np xs (by rfl) (TwoR.ownA (H0.out _ (by repeat first | (with_reducible exact Ext.refl _) | (with_reducible apply Ext.drew) | (with_reducible apply Ext.alloc)))) _ 1 1 [.int .i64 k] (by rfl) (Src.single (by first | (simp; done) | (rw [World.grownBy.cell_far hg2 _ (by first | (simp; done) | (simp; omega)) (by intro e; have := HLT.out _ e.symm; first | (simp at this; done) | (simp at this; omega))]; simp; done)) rfl) (by unfold maxLen; omega) (by omega) (TwoR.base (H0.out _ (by repeat first | (with_reducible exact Ext.refl _) | (with_reducible apply Ext.drew) | (with_reducible apply Ext.alloc))) HBX.out) ?_; intro A1 c1 w1 hown1 hg1 hat1; have H1 := Lib.hid (fun w' (he : Ext w1 w') => (TwoR.appA (H0.out _ (by repeat first | (with_reducible exact Ext.refl _) | (with_reducible apply Ext.drew) | (with_reducible apply Ext.alloc))) hown1 hg1 hat1).ext he); clear hown1 hat1)
                | (refine step_append_src _ (by rfl) (.tmp 39) (.tmp 44) _ (by rfl) (B + 1) 3 i0 _ 1 8 Try.underlying44 hi0 hz0 hz1 hz2 (by rfl) (by omega) _ np ys (by rfl) (TwoR.ownT (H1.out _ (by repeat first | (with_reducible exact Ext.refl _) | (with_reducible apply Ext.drew) | (with_reducible apply Ext.alloc)))) _ 1 1 [.int .i64 (3 * g + 1)] (by rfl) (Src.single (by first | (simp; done) | (rw [World.grownBy.cell_far hg1 _ (by first | (simp; done) | (simp; omega)) (by intro e; have := HLA.out _ e.symm; first | (simp at this; done) | (simp at this; omega))]; simp; done)) rfl) (by unfold maxLen; omega) (by omega) (TwoR.base (H1.out _ (by repeat first | (with_reducible exact Ext.refl _) | (with_reducible apply Ext.drew) | (with_reducible apply Ext.alloc))) HBX.out) ?_; intro A2 c2 w2 hown2 hg2 hat2; have HF := Lib.hid (fun w' (he : Ext w2 w') => (TwoR.appT (H1.out _ (by repeat first | (with_reducible exact Ext.refl _) | (with_reducible apply Ext.drew) | (with_reducible apply Ext.alloc))) hown2 hg2 hat2).ext he); clear hown2 hat2)
                | (refine step_append_src _ (by rfl) (.tmp 39) (.tmp 44) _ (by rfl) (B + 1) 3 i0 _ 1 8 Try.underlying44 hi0 hz0 hz1 hz2 (by rfl) (by omega) _ np ys (by rfl) (TwoR.ownT (H0.out _ (by repeat first | (with_reducible exact Ext.refl _) | (with_reducible apply Ext.drew) | (with_reducible apply Ext.alloc)))) _ 1 1 [.int .i64 (3 * g + 1)] (by rfl) (Src.single (by first | (simp; done) | (rw [World.grownBy.cell_far hg1 _ (by first | (simp; done) | (simp; omega)) (by intro e; have := HLA.out _ e.symm; first | (simp at this; done) | (simp at this; omega))]; simp; done)) rfl) (by unfold maxLen; omega) (by omega) (TwoR.base (H0.out _ (by repeat first | (with_reducible exact Ext.refl _) | (with_reducible apply Ext.drew) | (with_reducible apply Ext.alloc))) HBX.out) ?_; intro A2 c2 w2 hown2 hg2 hat2; have H2 := Lib.hid (fun w' (he : Ext w2 w') => (TwoR.appT (H0.out _ (by repeat first | (with_reducible exact Ext.refl _) | (with_reducible apply Ext.drew) | (with_reducible apply Ext.alloc))) hown2 hg2 hat2).ext he); clear hown2 hat2)
                | fail)
            all_goals
              go_wp2_with fail
              go_meet
              exact ⟨A1, c1, A2, c2, rfl, rfl, HF.out _ (by repeat first | (with_reducible exact Ext.refl _) | (with_reducible apply Ext.drew) | (with_reducible apply Ext.alloc))⟩
          case rest =>
            obtain ⟨A1, c1, A2, c2, rfl, rfl, hF⟩ := hcut
            have hT7 := HTt.out.agree hF.ag HTR.out
            have hB7 := HSb.out.agree hF.ag HBR.out
            have HR9 := Lib.hid (hF.flat (by omega) HRF.out)
            have HX9 := Lib.hid (hF.below HX5.out HB.out (fun q hq => (HRW.out.lt hq).1))
            have HRW9 := Lib.hid hF.r
            clear hF g1
            have HB7 := Lib.hid hB7
            have HT7 := Lib.hid hT7
            have q0 := hB7.cell
            have f0 := hB7.frozen
            have q1 := hT7.cell
            clear hB7 hT7
            go_upto_region 7 with fail
            change Code.wp _ _ _ _ (put wc B 0 [.int .i64 st1, .int .i64 st2, .int .i64 st3, .int .i64 st4, .bool st5, .int .i64 st6, .int .i64 st7, .int .i64 st8, .int .i64 st9, .int .i64 st10, .int .i64 st11, .int .i64 st12, .slice a5 nL c5])
            have C6 := Lib.hid (put_all (vs := [.int .i64 st1, .int .i64 st2, .int .i64 st3, .int .i64 st4, .bool st5, .int .i64 st6, .int .i64 st7, .int .i64 st8, .int .i64 st9, .int .i64 st10, .int .i64 st11, .int .i64 st12, .slice a5 nL c5]) HB7.out rfl)
            have HX6 := Lib.hid (put_ext (a := w) HB.out [.int .i64 st1, .int .i64 st2, .int .i64 st3, .int .i64 st4, .bool st5, .int .i64 st6, .int .i64 st7, .int .i64 st8, .int .i64 st9, .int .i64 st10, .int .i64 st11, .int .i64 st12, .slice a5 nL c5] 0 _ HX9.out)
            have HR6 := Lib.hid (HR9.out.agree (agree_put (V := Vrow B (.slice A1 (np + 1) c1) (.slice A2 (np + 1) c2)) (.inl rfl) [.int .i64 st1, .int .i64 st2, .int .i64 st3, .int .i64 st4, .bool st5, .int .i64 st6, .int .i64 st7, .int .i64 st8, .int .i64 st9, .int .i64 st10, .int .i64 st11, .int .i64 st12, .slice a5 nL c5] 0 wc))
            have HRW6 := Lib.hid (HRW9.out.stored [.int .i64 st1, .int .i64 st2, .int .i64 st3, .int .i64 st4, .bool st5, .int .i64 st6, .int .i64 st7, .int .i64 st8, .int .i64 st9, .int .i64 st10, .int .i64 st11, .int .i64 st12, .slice a5 nL c5])
            clear q0 f0 q1
            generalize put wc B 0 [.int .i64 st1, .int .i64 st2, .int .i64 st3, .int .i64 st4, .bool st5, .int .i64 st6, .int .i64 st7, .int .i64 st8, .int .i64 st9, .int .i64 st10, .int .i64 st11, .int .i64 st12, .slice a5 nL c5] = w10 at *
            go_wp2_with fail
            go_roundw
            case rel => exact ⟨k + 1, ⟨st1, st2, st3, st4, st5, st6, st7, st8, st9, st10, st11, st12, L⟩, pl ++ [((k : Int), g)], a5, c5, by omega, by go_num, HG1.out, by simp only [List.length_append, List.length_cons, List.length_nil, HNP.out, HXS.out, HYS.out, atC_snoc, ttC_snoc]; exact HRW6.out, by simp only [HL1.out]; exact C6.out, by simp only [HL1.out]; exact HR6.out, HX6.out⟩
            case measure => simp [intOf] <;> omega


    · have hkQ : k = Q + 1 := by omega
      subst hkQ
      have hki : ¬ (((Q + 1 : Nat) : Int) ≤ Q) := by omega
      obtain ⟨_, _, ip, ap, hlp, hgp, _⟩ := hJ.on (by omega)
      have HJ := Lib.hid hJ
      have hplk := hJ.len
      have HX := Lib.hid hx
      obtain ⟨a1, g1, h1⟩ : ∃ a1 g1, pl[0]? = some (a1, g1) := ⟨_, _, List.getElem?_eq_getElem (by omega)⟩
      obtain rfl := hJ.first a1 g1 h1
      have e0 : (atC pl)[0]? = some (.int .i64 0) := by simp [atC, h1]
      obtain ⟨ga, ca, rfl, hca, k0⟩ := own_get hRw.a e0
      have e1 : (ttC pl)[0]? = some (.int .i64 (3 * g1 + 1)) := by simp [ttC, h1]
      obtain ⟨gt, ct, rfl, hct, _⟩ := own_get hRw.t e1
      have HA := Lib.hid (fun w' (he : Ext wr w') => own_ext hRw.a he)
      have HT := Lib.hid (fun w' (he : Ext wr w') => own_ext hRw.t he)
      clear hRw hBk hR hx hJ e0 e1 h1 hgp HV
      generalize hnp : pl.length = np at *
      have HNP := Lib.hid hnp
      clear hnp
      have hnp1 : 0 < np := by omega
      have hnp2 : np ≤ 2500 := by omega
      clear hlp
      have hnd : decide (0 < np) = true := by simpa using hnp1
      go_wp2_with (go_at_call 16; (with_reducible refine (HW.out _).mono ?_); rintro e wq ⟨rfl, rfl⟩)
      go_loopw [13] (fun i wz => ∃ j : Nat, j + 1 ≤ np ∧ i = .int .i64 j ∧ Ext wr wz) (fun i _ => np - (intOf i).toNat)
      case atStart => exact ⟨0, by omega, rfl, Ext.refl _⟩
      case round =>
        obtain ⟨j, hj, rfl, hxz⟩ := hrel
        have e1 : IntKind.i64.wrap ((j : Int) + 1) = (j : Int) + 1 := IntWalk.i64_in _ (by omega)
        by_cases hlt : j + 1 < np
        · have hji : (j : Int) + 1 < np := by omega
          have hji0 : (0 : Int) ≤ (j : Int) := by omega
          have hji1 : (j : Int) < np := by omega
          have hji2 : (0 : Int) ≤ (j : Int) + 1 := by omega
          have ht1 : ((j : Int) + 1).toNat = j + 1 := by omega
          obtain ⟨x1, x2, y1⟩ : ∃ x1 x2, pl[j]? = some (x1, x2) := ⟨_, _, List.getElem?_eq_getElem (by rw [HNP.out]; omega)⟩
          obtain ⟨z1, z2, y2⟩ : ∃ z1 z2, pl[j + 1]? = some (z1, z2) := ⟨_, _, List.getElem?_eq_getElem (by rw [HNP.out]; omega)⟩
          obtain ⟨q1, q2⟩ := HJ.out.fine y1 y2
          have p1 := HJ.out.pos _ _ _ y1
          have p2 := HJ.out.pos _ _ _ y2
          have eA1 : (atC pl)[j]? = some (.int .i64 x1) := by simp [atC, y1]
          have eA2 : (atC pl)[j + 1]? = some (.int .i64 z1) := by simp [atC, y2]
          have eT1 : (ttC pl)[j]? = some (.int .i64 (3 * x2 + 1)) := by simp [ttC, y1]
          have cA1 := ((HA.out _ hxz).cellAt j (by omega)).trans eA1
          have cA2 := ((HA.out _ hxz).cellAt (j + 1) (by omega)).trans eA2
          have cT1 := ((HT.out _ hxz).cellAt j (by omega)).trans eT1
          have t1 : decide (x1 + (3 * x2 + 1) ≤ z1) = false := by simp; omega
          have e3 : IntKind.i64.wrap (x1 + (3 * x2 + 1)) = x1 + (3 * x2 + 1) := IntWalk.i64_in _ (by omega)
          have e2 : IntKind.i64.wrap ((j : Int) + 2) = (j : Int) + 2 := IntWalk.i64_in _ (by omega)
          by_cases h2 : j + 2 < np
          · have h2i : (j : Int) + 2 < np := by omega
            have h2d : decide ((j : Int) + 2 < np) = true := by simpa using h2i
            have hji3 : (0 : Int) ≤ (j : Int) + 2 := by omega
            have ht2 : ((j : Int) + 2).toNat = j + 2 := by omega
            obtain ⟨v1, v2, y3⟩ : ∃ v1 v2, pl[j + 2]? = some (v1, v2) := ⟨_, _, List.getElem?_eq_getElem (by rw [HNP.out]; omega)⟩
            have q3 := q2 _ _ y3
            have eA3 : (atC pl)[j + 2]? = some (.int .i64 v1) := by simp [atC, y3]
            have cA3 := ((HA.out _ hxz).cellAt (j + 2) (by omega)).trans eA3
            have t2 : decide (x1 + (3 * x2 + 1) ≤ v1) = false := by simp; omega
            have HXZ := Lib.hid hxz
            clear hxz eA1 eA2 eT1 eA3 y1 y2 y3 q1 q2 q3 p1 p2
            go_upto_region 15 with fail
            go_quiet (fail)
            go_wp2_with fail
            go_roundw
            case rel => exact ⟨j + 1, by omega, by go_num, HXZ.out.drewN _⟩
            case measure => simp [intOf] <;> omega
          · have h2i : ¬ (j : Int) + 2 < np := by omega
            have h2d : decide ((j : Int) + 2 < np) = false := by simpa using h2i
            have HXZ := Lib.hid hxz
            clear hxz eA1 eA2 eT1 y1 y2 q1 q2 p1 p2
            go_upto_region 15 with fail
            go_quiet (fail)
            go_wp2_with fail
            go_roundw
            case rel => exact ⟨j + 1, by omega, by go_num, HXZ.out.drewN _⟩
            case measure => simp [intOf] <;> omega
        · have hji : ¬ (j : Int) + 1 < np := by omega
          have k1 := hxz.cell k0
          go_wp2_with fail
          go_ret
          exact ⟨rfl, HX.out.trans hxz⟩
end Go.Proofs.Ytopmhaebjpmbfaa
