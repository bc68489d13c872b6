/- The walk of the statement DatasetChecks. -/
import Derived.Test.YtjaofbfppnmdjaaDatD
import Derived.Test.YtjaofbfppnmdjaaDatS
namespace Go.Proofs.Ytjaofbfppnmdjaa
open Go.RowKit
attribute [local go_sem ↓] Go.wp_at_zero Go.wp_at_succ

theorem large_len {l : List Val} (h : largeB l = false) : l.length ≤ 60 := by
  unfold largeB at h
  simp only [Bool.or_eq_false_iff, decide_eq_false_iff_not] at h
  omega
set_option maxRecDepth 100000 in
set_option maxHeartbeats 16000000 in
theorem checks_walk (x : Val) (la lb : List Val) (va' vb' : Value) (w : World) (ha : RF Any 6 valE w va' la) (hb : RF Any 6 valE w vb' lb) : Calls Try.prog 6 #[valA x, va', vb'] w fun e w' => e = .returned (.bool true) ∧ Ext w w' := by
  have HK := Lib.hid (fun w1 => known11_any w1)
  have HLa := Lib.hid (fun w1 (he : Ext w w1) => large11_any la va' w1 (ha.ext he))
  have HLb := Lib.hid (fun w1 (he : Ext w w1) => large11_any lb vb' w1 (hb.ext he))
  have HSab := Lib.hid (fun w1 (he : Ext w w1) => sameVals_any la lb va' vb' w1 (ha.ext he) (hb.ext he))
  have HSaa := Lib.hid (fun w1 (he : Ext w w1) => sameVals_any la la va' va' w1 (ha.ext he) (ha.ext he))
  simp only [decide_true] at HSaa
  have HIa := Lib.hid (fun w1 (he : Ext w w1) => ha.ext he)
  have HIb := Lib.hid (fun w1 (he : Ext w w1) => hb.ext he)
  have HSR := Lib.hid (fun va vb w1 h h' => sameVR_any la lb va vb w1 h h')
  have HCK := Lib.hid (fun w1 => checkV_any x w1)
  have HCR := Lib.hid (fun w1 => checkVR_any x w1)
  have HT1 := Lib.hid (fun w1 => to11_any x w1)
  generalize chk x = cx at *
  generalize decide (la = lb) = r at *
  obtain ⟨ja, jc, rfl, hj1, hj2⟩ := ha.form
  obtain ⟨ka, kc, rfl, hk1, hk2⟩ := hb.form
  clear ha hb
  obtain ⟨na, hna⟩ : ∃ n, la.length = n := ⟨_, rfl⟩
  obtain ⟨nb, hnb⟩ : ∃ n, lb.length = n := ⟨_, rfl⟩
  have HNA := Lib.hid hna
  have HNB := Lib.hid hnb
  have hcc : (cx == cx) = true := by simp
  have hrr : (r == r) = true := by simp
  obtain ⟨vk, vn, vs, va, vb, vc⟩ := x
  cases hla : largeB la
  · have hle1 := large_len hla
    rw [hla] at HLa
    cases hlb : largeB lb
    · have hle2 := large_len hlb
      rw [hlb] at HLb
      have HAa := Lib.hid (fun w1 (he : Ext w w1) => all11_any la _ w1 (HIa.out w1 he) (by omega))
      have HAb := Lib.hid (fun w1 (he : Ext w w1) => all11_any lb _ w1 (HIb.out w1 he) (by omega))
      rw [hna] at HLa HSab HSaa HAa
      rw [hnb] at HLb HSab HAb
      rw [hna, hnb]
      clear hla hlb HIa HIb
      rw [hna] at hj1 hle1
      rw [hnb] at hk1 hle2
      clear hna hnb
      by_cases hbig : 200 < vs.size
      · have hbi : (200 : Int) < vs.size := by omega
        go_enter Try.func6, Try.ntmps6
        go_wp2_with fail
        refine (HK.out _).mono ?_
        rintro e w1 ⟨rfl, x1⟩
        have X1 : Ext w w1 := ((Ext.refl w).alloc _).trans x1
        have q2 := x1.cell (cell_at w #[.int .i64 vk, .int .i64 vn, .string vs, .int .i64 va, .int .i64 vb, .int .i64 vc] 43 _ 2 _ rfl rfl)
        go_wp2_with fail
        refine (HLa.out _ X1).mono ?_
        rintro e w1' ⟨rfl, rfl⟩
        go_wp2_with fail
        refine (HLb.out _ X1).mono ?_
        rintro e w1' ⟨rfl, rfl⟩
        go_wp2_with fail
        go_ret
        exact ⟨rfl, X1⟩
      · have hbi : ¬ (200 : Int) < vs.size := by omega
        obtain ⟨bb, hbb⟩ : ∃ bb, decide ((0 : Int) < (na : Int)) = bb := ⟨_, rfl⟩
        have HTV := Lib.hid (fun w1 => truth_any bb w1)
        have HT2 := Lib.hid (fun w1 => to11_any (tru bb) w1)
        have HTR := Lib.hid (fun w1 => truthR_any bb w1)
        have heq := fun w1 => eql_rval (tru bb) (tru bb) w1
        simp only [decide_true] at heq
        have hna0 : decide (0 < na) = bb := by rw [← hbb, decide_eq_decide]; omega
        clear hbig
        cases bb
        all_goals
          simp only [tru, if_true, if_false, Bool.false_eq_true] at HTV HT2 HTR heq
          go_enter Try.func6, Try.ntmps6
          go_wp2_with fail
          refine (HK.out _).mono ?_
          rintro e w1 ⟨rfl, x1⟩
          have X1 : Ext w w1 := ((Ext.refl w).alloc _).trans x1
          have BV := (Bk.new w #[.int .i64 vk, .int .i64 vn, .string vs, .int .i64 va, .int .i64 vb, .int .i64 vc] 43 w.heap.size rfl).ext x1
          have q2 : w1.cell? ⟨w.heap.size, 2, none⟩ = some (.string vs) := BV.cell 2
          go_wp2_with fail
          refine (HLa.out _ X1).mono ?_
          rintro e w1' ⟨rfl, rfl⟩
          go_wp2_with fail
          refine (HLb.out _ X1).mono ?_
          rintro e w1' ⟨rfl, rfl⟩
          go_upto_region 5 with fail
          obtain ⟨W, rfl⟩ : ∃ W, W = w1 := ⟨_, rfl⟩
          have X0 := X1
          clear q2 x1 X1
          have q0 : ∀ j, W.cell? ⟨w.heap.size, j, none⟩ = (#[.int .i64 vk, .int .i64 vn, .string vs, .int .i64 va, .int .i64 vb, .int .i64 vc] : Array Value)[j]? := BV.cell
          have HBC : Hid (∀ w', Ext W w' → ∀ j, w'.cell? ⟨w.heap.size, j, none⟩ = (#[.int .i64 vk, .int .i64 vn, .string vs, .int .i64 va, .int .i64 vb, .int .i64 vc] : Array Value)[j]?) := fun w' he => (BV.ext he).cell
          clear BV
          go_region_held3 (fun w' => ∀ j, w'.cell? ⟨w.heap.size, j, none⟩ = (#[.int .i64 vk, .int .i64 vn, .string vs, .int .i64 va, .int .i64 vb, .int .i64 vc] : Array Value)[j]?)
            (first | (with_reducible exact q0) | (exact HBC.out _ (by first | (with_reducible exact (Ext.refl W).drew) | (with_reducible exact D1) | (with_reducible exact D2) | (with_reducible exact D3) | (with_reducible exact D4) | (with_reducible exact D5) | (with_reducible exact D6) | (with_reducible exact D7) | (with_reducible exact D8) | (with_reducible exact D9) | (with_reducible exact D10) | (with_reducible exact D11))) | fail)
            (first
              | (go_at_call 24; (with_reducible refine (HCK.out _).mono ?_); rintro e y1 ⟨rfl, t1⟩; have D1 : Ext W y1 := (Ext.refl W).drew.trans t1; clear t1)
              | (go_at_call 26; (with_reducible refine (HT1.out _).mono ?_); rintro e y2 ⟨rfl, t2⟩; have D2 : Ext W y2 := D1.trans t2; clear t2)
              | (go_at_call 25; (with_reducible refine (HCR.out _).mono ?_); rintro e y3 ⟨rfl, t3⟩; have D3 : Ext W y3 := D2.trans t3; clear t3)
              | (go_at_call 27; (with_reducible refine (HSab.out _ (X0.trans D3)).mono ?_); rintro e y4 ⟨rfl, t4⟩; have D4 : Ext W y4 := D3.trans t4; clear t4)
              | (go_at_call 19; (with_reducible refine (HAa.out _ (X0.trans D4)).mono ?_); rintro e y5 ⟨a5, c5, he, t5, r5⟩; have D5 : Ext W y5 := D4.trans t5; rw [HNA.out] at he r5; subst he; have HR5 := Lib.hid (fun w1 (he : Ext y5 w1) => (r5.ext he).weak (by omega) (V' := Any) (fun _ _ h => h.elim)); clear r5; clear t5)
              | (go_at_call 19; (with_reducible refine (HAb.out _ (X0.trans D5)).mono ?_); rintro e y6 ⟨a6, c6, he, t6, r6⟩; have D6 : Ext W y6 := D5.trans t6; rw [HNB.out] at he r6; subst he; have HR6 := Lib.hid (And.intro (HR5.out _ t6) (r6.weak (by omega) (V' := Any) (fun _ _ h => h.elim))); clear r6; clear t6)
              | (go_at_call 28; (with_reducible refine (HSR.out _ _ _ HR6.out.1 HR6.out.2).mono ?_); rintro e y7 ⟨rfl, t7⟩; have D7 : Ext W y7 := D6.trans t7; clear t7)
              | (go_at_call 27; (with_reducible refine (HSaa.out _ (X0.trans D7)).mono ?_); rintro e y8 ⟨rfl, t8⟩; have D8 : Ext W y8 := D7.trans t8; clear t8)
              | (go_at_call 29; (with_reducible refine (HTV.out _).mono ?_); rintro e y9 ⟨rfl, t9⟩; have D9 : Ext W y9 := D8.trans t9; clear t9)
              | (go_at_call 26; (with_reducible refine (HT2.out _).mono ?_); rintro e y10 ⟨rfl, t10⟩; have D10 : Ext W y10 := D9.trans t10; clear t10)
              | (go_at_call 30; (with_reducible refine (HTR.out _).mono ?_); rintro e y11 ⟨rfl, t11⟩; have D11 : Ext W y11 := D10.trans t11; clear t11)
              | fail)
          go_wp2_with fail
          go_ret
          exact ⟨rfl, X0.trans D11⟩
    · rw [hlb] at HLb
      rw [hna] at HLa
      rw [hnb] at HLb
      rw [hna, hnb]
      clear HIa HIb hla hlb hle1 hj1 hk1 HSab HSaa HSR HCK HCR HT1 hna hnb
      go_enter Try.func6, Try.ntmps6
      go_wp2_with fail
      refine (HK.out _).mono ?_
      rintro e w1 ⟨rfl, x1⟩
      have X1 : Ext w w1 := ((Ext.refl w).alloc _).trans x1
      go_wp2_with fail
      refine (HLa.out _ X1).mono ?_
      rintro e w1' ⟨rfl, rfl⟩
      go_wp2_with fail
      refine (HLb.out _ X1).mono ?_
      rintro e w1' ⟨rfl, rfl⟩
      go_wp2_with fail
      go_ret
      exact ⟨rfl, X1⟩
  · rw [hla] at HLa
    rw [hna] at HLa
    rw [hna, hnb]
    clear HIa HIb hla hj1 hk1 HSab HSaa HSR HCK HCR HT1 hna hnb
    go_enter Try.func6, Try.ntmps6
    go_wp2_with fail
    refine (HK.out _).mono ?_
    rintro e w1 ⟨rfl, x1⟩
    have X1 : Ext w w1 := ((Ext.refl w).alloc _).trans x1
    go_wp2_with fail
    refine (HLa.out _ X1).mono ?_
    rintro e w1' ⟨rfl, rfl⟩
    go_wp2_with fail
    go_ret
    exact ⟨rfl, X1⟩
end Go.Proofs.Ytjaofbfppnmdjaa
